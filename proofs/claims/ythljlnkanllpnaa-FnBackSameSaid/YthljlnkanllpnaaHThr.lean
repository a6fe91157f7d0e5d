/- threadsOk, with the two closures that it hands to slices.ContainsFunc: whether lists are threads. No condition. -/
import Derived.Test.YthljlnkanllpnaaHIdx
namespace Go.Proofs.Ythljlnkanllpnaa.P
open Go.RowKit Go.Proofs.YthljlnkanllpnaaW.PrintWords Go.Proofs.YthljlnkanllpnaaW.PrintLast Go.Proofs.YthljlnkanllpnaaW.PrintMore Go.Proofs.Ythljlnkanllpnaa.Any
set_option linter.unusedVariables false
set_option linter.unusedSimpArgs false
def isAct (a:Int):Bool:=decide (-4 ≤ a) && decide (a ≤ 4)
set_option maxHeartbeats 8000000 in
set_option maxRecDepth 100000 in
theorem isAct_calls (a0:Int) (w:World):Calls Try.prog 83 #[.int .i64 a0] w fun e w'=>e = .returned (.bool (isAct a0))∧Drawn0 w w':=by
 unfold isAct
 by_cases c2:a0 ≥ (-4)
 ·have c2b0:decide ((-4) ≤ a0) = true:=decide_eq_true c2
  clear c2
  rw [c2b0]
  go_enter Try.func83,Try.ntmps83
  go_wp2
  go_ret
  exact ⟨by first | rfl | (simp;done) | (simp [*];done),by repeat (first | exact Drawn0.refl _ | apply Drawn0.step)⟩
 ·have c2b0:decide ((-4) ≤ a0) = false:=decide_eq_false c2
  clear c2
  rw [c2b0]
  go_enter Try.func83,Try.ntmps83
  go_wp2
  go_ret
  exact ⟨by first | rfl | (simp;done) | (simp [*];done),by repeat (first | exact Drawn0.refl _ | apply Drawn0.step)⟩
theorem notAct (w:World):PredI 90 #[] (fun a=>some (!isAct a)) w:=by
 intro x b W hB hp
 obtain rfl:=Option.some.inj hp
 have hcall:=isAct_calls x
 show Calls Try.prog 90 #[.int .i64 x] W _
 clear hp hB
 go_enter Try.func90,Try.ntmps90
 go_wp2_with (go_at_call 83;(with_reducible refine (hcall _).mono ?_);rintro e w' ⟨rfl,⟨nd,rfl⟩⟩)
 go_ret
 exact ⟨by first | rfl | simp,by repeat (first | exact Below.refl _ _ | apply below_alloc | apply pw_below_drewN | apply below_drew1)⟩
def rowBad (x:List Int):Option Bool:=if (x.length:Int) > 8 then some true else anyOf (fun a=>some (!isAct a)) x
set_option maxHeartbeats 8000000 in
set_option maxRecDepth 100000 in
theorem rowBad_pred (w:World):PredL 88 #[] rowBad w:=by
 intro x A c b W hB hC hc hp
 show Calls Try.prog 88 #[.slice A x.length c] W _
 unfold rowBad at hp
 by_cases h:(x.length:Int) > 8
 ·rw [if_pos h] at hp
  obtain rfl:=Option.some.inj hp
  have hb0:decide (8 < (x.length:Int)) = true:=decide_eq_true h
  clear hp hB hC hc h
  go_enter Try.func88,Try.ntmps88
  go_wp2
  go_ret
  exact ⟨rfl,Below.refl _ _⟩
 ·rw [if_neg h] at hp
  have hb0:decide (8 < (x.length:Int)) = false:=decide_eq_false h
  have hcall:=anyI 90 #[] (fun args w=>by rfl) _ A c x W (notAct W) hC hc b hp
  clear hp hB hC hc h
  go_enter Try.func88,Try.ntmps88
  go_wp2_with (go_at_call 89;(with_reducible refine hcall.mono ?_);rintro e w' ⟨rfl,hb'⟩)
  go_ret
  exact ⟨by first | rfl | simp,hb'⟩
def impl_threadsOk.f (l0:List (List Int)):Option (Bool):=if (l0.length:Int) ≤ 4 then ((anyOf rowBad l0).bind fun t=>some (!t)) else (some false)
set_option maxHeartbeats 8000000 in
set_option maxRecDepth 100000 in
theorem impl_threadsOk.calls (A0:Option Addr) (c0:Nat) (l0:List (List Int)) (r:Bool) (w:World) (hr0:Kd.C (Kd.slice 3 (Kd.int .i64)) w A0 l0.length l0) (hc0:l0.length ≤ c0) (h:impl_threadsOk.f l0 = some r) :
  Calls Try.prog 56 #[.slice A0 l0.length c0] w fun e w'=>e = .returned (.bool r)∧Below w.heap.size w w':=by
 unfold impl_threadsOk.f at h
 by_cases c:(l0.length:Int) ≤ 4
 ·rw [if_pos c] at h
  obtain ⟨t,ht,hb⟩:=Option.bind_eq_some_iff.1 h
  obtain rfl:=Option.some.inj hb
  have hb0:decide ((l0.length:Int) ≤ 4) = true:=decide_eq_true c
  have hcall:=anyL 88 #[] (fun args w=>by rfl) _ A0 c0 l0 w (rowBad_pred w) hr0 hc0 t ht
  clear h ht hb hr0 hc0 c
  go_enter Try.func56,Try.ntmps56
  go_wp2_with (go_at_call 87;(with_reducible refine hcall.mono ?_);rintro e w' ⟨rfl,hb'⟩)
  go_ret
  exact ⟨by first | rfl | simp,hb'⟩
 ·rw [if_neg c] at h
  obtain rfl:=Option.some.inj h
  have hb0:decide ((l0.length:Int) ≤ 4) = false:=decide_eq_false c
  clear h hr0 hc0 c
  go_enter Try.func56,Try.ntmps56
  go_wp2
  go_ret
  exact ⟨rfl,Below.refl _ _⟩
end Go.Proofs.Ythljlnkanllpnaa.P
