/- slices.IndexFunc and slices.ContainsFunc over terms with time, whatever the predicate: told by what its calls answer. No condition. -/
import Derived.Test.YtnkgcjdlfenepaaP0
import Derived.Test.YtnkgcjdlfenepaaAny
namespace Go.Proofs.Ytnkgcjdlfenepaa.P
open Go.RowKit Go.Proofs.YtnkgcjdlfenepaaW.PrintWords Go.Proofs.YtnkgcjdlfenepaaW.PrintLast Go.Proofs.YtnkgcjdlfenepaaW.PrintMore Go.Proofs.Ytnkgcjdlfenepaa.Any
set_option linter.unusedVariables false
set_option linter.unusedSimpArgs false
def Pred29 (g:Nat) (lb:Array Value) (p:S29 → Option Bool) (w:World):Prop :=
 ∀ (x:S29) (A:Option Addr) (c:Nat) (b:Bool) (W:World),Below w.heap.size w W → Kd.C k29 W A x.f2.length x.f2 → x.f2.length ≤ c → p x = some b →
  Calls Try.prog g (#[.agg #[.int .i64 x.f0,.int .i64 x.f1,.slice A x.f2.length c]] ++ lb) W fun e w'=>e = .returned (.bool b)∧Below W.heap.size W w'
set_option maxHeartbeats 8000000 in
set_option maxRecDepth 100000 in
theorem idx29 (g:Nat) (lb:Array Value) (eg:∀ args w,(callFunc g args).run Try.prog w = .ok (.enter g args) w) (p:S29 → Option Bool) (A:Option Addr) (c:Nat) (xs:List S29) (w:World)
  (hp:Pred29 g lb p w) (hr:Kd.C k29 w A xs.length xs) (hc:xs.length ≤ c) (r:Int) (h:idxOf p xs 0 = some r) :
  Calls Try.prog 67 #[.slice A xs.length c,.func (.func g) #[] lb] w fun e w'=>e = .returned (.int .i64 r)∧Below w.heap.size w w':=by
 have hu29:=Try.underlying29
 have HR:=Aside0.mk hr
 have hn:xs.length ≤ 9223372036854775807:=hr.2.1
 clear hr
 have HP:=Aside0.mk hp
 clear hp
 have H:=Aside0.mk h
 clear h
 go_enter Try.func67,Try.ntmps67
 go_wp2
 go_loopg [5,8] xs.length (fun gg _ s8 wr=>∃ kk:Nat,kk ≤ xs.length∧xs.length - kk ≤ gg∧s8 = .int .i64 kk∧Aside0 (idxOf p (xs.drop kk) kk = some r)∧Aside0 (Below w.heap.size w wr))
 case atStart=>exact ⟨0,Nat.zero_le _,Nat.le_refl _,rfl,H,⟨Below.refl _ _⟩⟩
 case round =>
  clear H
  obtain ⟨kk,hkk,hg,rfl,HA,HB⟩:=hrel
  by_cases hlt:kk < xs.length
  ·have hltz:decide ((kk:Int) < (xs.length:Int)) = true:=decide_eq_true (by omega)
   have hltz2:decide (kk < xs.length) = true:=decide_eq_true hlt
   have H:=HA.out
   rw [idxOf_drop hlt] at H
   obtain ⟨b,hb,H⟩:=Option.bind_eq_some_iff.1 H
   have hx:rd_T29 xs (kk:Int) = xs[kk]:=by simp [rd_T29,List.getD_eq_getElem?_getD,List.getElem?_eq_getElem hlt]
   obtain ⟨ad,A2,c2,e2,h0,h1,h2,hl2,hi2⟩:=at_T29 HR.out (kk:Int) (by omega) (by omega)
   rw [hx] at h0 h1 h2 hl2 hi2
   simp only [Int.toNat_natCast] at h0 h1 h2
   cases e2
   replace h0:=(HB.out.cell (World.block_lt_of_cell? w _ h0)).trans h0
   replace h1:=(HB.out.cell (World.block_lt_of_cell? w _ h1)).trans h1
   replace h2:=(HB.out.cell (World.block_lt_of_cell? w _ h2)).trans h2
   have hcall:=HP.out xs[kk] A2 c2 b wr HB.out (Kd.C_below hi2 HB.out) hl2 hb
   generalize xs[kk] = y at h0 h1 h2 hcall
   clear hx hl2 hi2 hb
   have p1:(0 ≤ (kk:Int)) = True:=eq_true (by omega)
   have p2:((kk:Int) < (xs.length:Int)) = True:=eq_true (by omega)
   have HH:=Aside0.mk H
   clear H HA
   cases b with
   | true =>
    go_wp2_with (((with_reducible refine hcall.mono ?_);rintro e w' ⟨rfl,hb'⟩))
    go_ret
    have hr0:(kk:Int) = r:=Option.some.inj HH.out
    subst hr0
    exact ⟨rfl,below_step HB.out hb'⟩
   | false =>
    go_wp2_with (((with_reducible refine hcall.mono ?_);rintro e w' ⟨rfl,hb'⟩))
    go_roundg (xs.length - (kk + 1))
    case measure=>omega
    case rel=>exact ⟨kk + 1,by omega,by omega,by go_num,⟨HH.out⟩,⟨below_step HB.out hb'⟩⟩
  ·have hltz:decide ((kk:Int) < (xs.length:Int)) = false:=decide_eq_false (by omega)
   have hltz2:decide (kk < xs.length) = false:=decide_eq_false hlt
   have H:=HA.out
   rw [List.drop_eq_nil_of_le (by omega)] at H
   have hr0:(-1:Int) = r:=Option.some.inj H
   clear H HA
   go_wp2
   go_ret
   subst hr0
   exact ⟨rfl,HB.out⟩
set_option maxHeartbeats 8000000 in
set_option maxRecDepth 100000 in
theorem any29 (g:Nat) (lb:Array Value) (eg:∀ args w,(callFunc g args).run Try.prog w = .ok (.enter g args) w) (p:S29 → Option Bool) (A:Option Addr) (c:Nat) (xs:List S29) (w:World)
  (hp:Pred29 g lb p w) (hr:Kd.C k29 w A xs.length xs) (hc:xs.length ≤ c) (b:Bool) (h:anyOf p xs = some b) :
  Calls Try.prog 59 #[.slice A xs.length c,.func (.func g) #[] lb] w fun e w'=>e = .returned (.bool b)∧Below w.heap.size w w':=by
 obtain ⟨r,hr0,rfl⟩:=anyOf_idx xs 0 (by omega) b h
 have hcall:=idx29 g lb eg p A c xs w hp hr hc r hr0
 clear hp hr hc h hr0 eg
 go_enter Try.func59,Try.ntmps59
 go_wp2_with (go_at_call 67;refine hcall.mono ?_;rintro e w' ⟨rfl,hb'⟩)
 go_ret
 exact ⟨by first | rfl | simp,hb'⟩
end Go.Proofs.Ytnkgcjdlfenepaa.P
