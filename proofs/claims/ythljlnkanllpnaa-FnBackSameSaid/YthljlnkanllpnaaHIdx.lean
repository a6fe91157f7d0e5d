/- slices.IndexFunc and slices.ContainsFunc over whole numbers, over rows and over events, whatever the predicate. No condition. -/
import Derived.Test.YthljlnkanllpnaaP0
import Derived.Test.YthljlnkanllpnaaAny
namespace Go.Proofs.Ythljlnkanllpnaa.P
open Go.RowKit Go.Proofs.YthljlnkanllpnaaW.PrintWords Go.Proofs.YthljlnkanllpnaaW.PrintLast Go.Proofs.YthljlnkanllpnaaW.PrintMore Go.Proofs.Ythljlnkanllpnaa.Any
set_option linter.unusedVariables false
set_option linter.unusedSimpArgs false
def PredI (g:Nat) (lb:Array Value) (p:Int → Option Bool) (w:World):Prop :=
 ∀ (x:Int) (b:Bool) (W:World),Below w.heap.size w W → p x = some b →
  Calls Try.prog g (#[.int .i64 x] ++ lb) W fun e w'=>e = .returned (.bool b)∧Below W.heap.size W w'
set_option maxHeartbeats 8000000 in
set_option maxRecDepth 100000 in
theorem idxI (g:Nat) (lb:Array Value) (eg:∀ args w,(callFunc g args).run Try.prog w = .ok (.enter g args) w) (p:Int → Option Bool) (A:Option Addr) (c:Nat) (xs:List (Int)) (w:World)
  (hp:PredI g lb p w) (hr:Kd.C (Kd.int .i64) w A xs.length xs) (hc:xs.length ≤ c) (r:Int) (h:idxOf p xs 0 = some r) :
  Calls Try.prog 96 #[.slice A xs.length c,.func (.func g) #[] lb] w fun e w'=>e = .returned (.int .i64 r)∧Below w.heap.size w w':=by
 have HR:=Aside0.mk hr
 have hn:xs.length ≤ 9223372036854775807:=hr.2.1
 clear hr
 have HP:=Aside0.mk hp
 clear hp
 have H:=Aside0.mk h
 clear h
 go_enter Try.func96,Try.ntmps96
 go_wp2
 go_loopg [5,8] xs.length (fun gg _ s8 wr=>∃ kk:Nat,kk ≤ xs.length∧xs.length - kk ≤ gg∧s8 = .int .i64 kk∧Aside0 (idxOf p (xs.drop kk) kk = some r)∧Aside0 (Below w.heap.size w wr))
 case atStart=>exact ⟨0,Nat.zero_le _,Nat.le_refl _,rfl,H,⟨Below.refl _ _⟩⟩
 case round =>
  clear H
  obtain ⟨kk,hkk,hg,rfl,HA,HB⟩:=hrel
  by_cases hlt:kk < xs.length
  ·have hltz:decide ((kk:Int) < (xs.length:Int)) = true:=decide_eq_true (by omega)
   have hltz2:decide (kk < xs.length) = true:=decide_eq_true hlt
   have H:=HA.out
   rw [idxOf_drop hlt] at H
   obtain ⟨b,hb,H⟩:=Option.bind_eq_some_iff.1 H
   have hx:rd xs (kk:Int) = xs[kk]:=by simp [rd,List.getD_eq_getElem?_getD,List.getElem?_eq_getElem hlt]
   obtain ⟨ad,e2,h0⟩:=Kd.at_int HR.out (kk:Int) (by omega) (by omega)
   rw [hx] at h0
   simp only [Int.toNat_natCast] at h0
   cases e2
   replace h0:=(HB.out.cell (World.block_lt_of_cell? w _ h0)).trans h0
   have hcall:=HP.out xs[kk] b wr HB.out hb
   generalize xs[kk] = y at h0 hcall
   clear hx hb
   have p1:(0 ≤ (kk:Int)) = True:=eq_true (by omega)
   have p2:((kk:Int) < (xs.length:Int)) = True:=eq_true (by omega)
   have HH:=Aside0.mk H
   clear H HA
   cases b with
   | true =>
    go_wp2_with (((with_reducible refine hcall.mono ?_);rintro e w' ⟨rfl,hb'⟩))
    go_ret
    have hr0:(kk:Int) = r:=Option.some.inj HH.out
    subst hr0
    exact ⟨rfl,below_step HB.out hb'⟩
   | false =>
    go_wp2_with (((with_reducible refine hcall.mono ?_);rintro e w' ⟨rfl,hb'⟩))
    go_roundg (xs.length - (kk + 1))
    case measure=>omega
    case rel=>exact ⟨kk + 1,by omega,by omega,by go_num,⟨HH.out⟩,⟨below_step HB.out hb'⟩⟩
  ·have hltz:decide ((kk:Int) < (xs.length:Int)) = false:=decide_eq_false (by omega)
   have hltz2:decide (kk < xs.length) = false:=decide_eq_false hlt
   have H:=HA.out
   rw [List.drop_eq_nil_of_le (by omega)] at H
   have hr0:(-1:Int) = r:=Option.some.inj H
   clear H HA
   go_wp2
   go_ret
   subst hr0
   exact ⟨rfl,HB.out⟩
set_option maxHeartbeats 8000000 in
set_option maxRecDepth 100000 in
theorem anyI (g:Nat) (lb:Array Value) (eg:∀ args w,(callFunc g args).run Try.prog w = .ok (.enter g args) w) (p:Int → Option Bool) (A:Option Addr) (c:Nat) (xs:List (Int)) (w:World)
  (hp:PredI g lb p w) (hr:Kd.C (Kd.int .i64) w A xs.length xs) (hc:xs.length ≤ c) (b:Bool) (h:anyOf p xs = some b) :
  Calls Try.prog 89 #[.slice A xs.length c,.func (.func g) #[] lb] w fun e w'=>e = .returned (.bool b)∧Below w.heap.size w w':=by
 obtain ⟨r,hr0,rfl⟩:=anyOf_idx xs 0 (by omega) b h
 have hcall:=idxI g lb eg p A c xs w hp hr hc r hr0
 clear hp hr hc h hr0 eg
 go_enter Try.func89,Try.ntmps89
 go_wp2_with (go_at_call 96;refine hcall.mono ?_;rintro e w' ⟨rfl,hb'⟩)
 go_ret
 exact ⟨by first | rfl | simp,hb'⟩
def PredL (g:Nat) (lb:Array Value) (p:List Int → Option Bool) (w:World):Prop :=
 ∀ (x:List Int) (A:Option Addr) (c:Nat) (b:Bool) (W:World),Below w.heap.size w W → Kd.C (Kd.int .i64) W A x.length x → x.length ≤ c → p x = some b →
  Calls Try.prog g (#[.slice A x.length c] ++ lb) W fun e w'=>e = .returned (.bool b)∧Below W.heap.size W w'
set_option maxHeartbeats 8000000 in
set_option maxRecDepth 100000 in
theorem idxL (g:Nat) (lb:Array Value) (eg:∀ args w,(callFunc g args).run Try.prog w = .ok (.enter g args) w) (p:List Int → Option Bool) (A:Option Addr) (c:Nat) (xs:List (List Int)) (w:World)
  (hp:PredL g lb p w) (hr:Kd.C (Kd.slice 3 (Kd.int .i64)) w A xs.length xs) (hc:xs.length ≤ c) (r:Int) (h:idxOf p xs 0 = some r) :
  Calls Try.prog 95 #[.slice A xs.length c,.func (.func g) #[] lb] w fun e w'=>e = .returned (.int .i64 r)∧Below w.heap.size w w':=by
 have HR:=Aside0.mk hr
 have hn:xs.length ≤ 9223372036854775807:=hr.2.1
 clear hr
 have HP:=Aside0.mk hp
 clear hp
 have H:=Aside0.mk h
 clear h
 go_enter Try.func95,Try.ntmps95
 go_wp2
 go_loopg [5,8] xs.length (fun gg _ s8 wr=>∃ kk:Nat,kk ≤ xs.length∧xs.length - kk ≤ gg∧s8 = .int .i64 kk∧Aside0 (idxOf p (xs.drop kk) kk = some r)∧Aside0 (Below w.heap.size w wr))
 case atStart=>exact ⟨0,Nat.zero_le _,Nat.le_refl _,rfl,H,⟨Below.refl _ _⟩⟩
 case round =>
  clear H
  obtain ⟨kk,hkk,hg,rfl,HA,HB⟩:=hrel
  by_cases hlt:kk < xs.length
  ·have hltz:decide ((kk:Int) < (xs.length:Int)) = true:=decide_eq_true (by omega)
   have hltz2:decide (kk < xs.length) = true:=decide_eq_true hlt
   have H:=HA.out
   rw [idxOf_drop hlt] at H
   obtain ⟨b,hb,H⟩:=Option.bind_eq_some_iff.1 H
   have hx:rd_L2 xs (kk:Int) = xs[kk]:=by simp [rd_L2,List.getD_eq_getElem?_getD,List.getElem?_eq_getElem hlt]
   obtain ⟨ad,A2,c2,e2,h0,hl2,hi2⟩:=at_L2 HR.out (kk:Int) (by omega) (by omega)
   rw [hx] at h0 hl2 hi2
   simp only [Int.toNat_natCast] at h0
   cases e2
   replace h0:=(HB.out.cell (World.block_lt_of_cell? w _ h0)).trans h0
   have hcall:=HP.out xs[kk] A2 c2 b wr HB.out (Kd.C_below hi2 HB.out) hl2 hb
   generalize xs[kk] = y at h0 hcall
   clear hx hb hl2 hi2
   have p1:(0 ≤ (kk:Int)) = True:=eq_true (by omega)
   have p2:((kk:Int) < (xs.length:Int)) = True:=eq_true (by omega)
   have HH:=Aside0.mk H
   clear H HA
   cases b with
   | true =>
    go_wp2_with (((with_reducible refine hcall.mono ?_);rintro e w' ⟨rfl,hb'⟩))
    go_ret
    have hr0:(kk:Int) = r:=Option.some.inj HH.out
    subst hr0
    exact ⟨rfl,below_step HB.out hb'⟩
   | false =>
    go_wp2_with (((with_reducible refine hcall.mono ?_);rintro e w' ⟨rfl,hb'⟩))
    go_roundg (xs.length - (kk + 1))
    case measure=>omega
    case rel=>exact ⟨kk + 1,by omega,by omega,by go_num,⟨HH.out⟩,⟨below_step HB.out hb'⟩⟩
  ·have hltz:decide ((kk:Int) < (xs.length:Int)) = false:=decide_eq_false (by omega)
   have hltz2:decide (kk < xs.length) = false:=decide_eq_false hlt
   have H:=HA.out
   rw [List.drop_eq_nil_of_le (by omega)] at H
   have hr0:(-1:Int) = r:=Option.some.inj H
   clear H HA
   go_wp2
   go_ret
   subst hr0
   exact ⟨rfl,HB.out⟩
set_option maxHeartbeats 8000000 in
set_option maxRecDepth 100000 in
theorem anyL (g:Nat) (lb:Array Value) (eg:∀ args w,(callFunc g args).run Try.prog w = .ok (.enter g args) w) (p:List Int → Option Bool) (A:Option Addr) (c:Nat) (xs:List (List Int)) (w:World)
  (hp:PredL g lb p w) (hr:Kd.C (Kd.slice 3 (Kd.int .i64)) w A xs.length xs) (hc:xs.length ≤ c) (b:Bool) (h:anyOf p xs = some b) :
  Calls Try.prog 87 #[.slice A xs.length c,.func (.func g) #[] lb] w fun e w'=>e = .returned (.bool b)∧Below w.heap.size w w':=by
 obtain ⟨r,hr0,rfl⟩:=anyOf_idx xs 0 (by omega) b h
 have hcall:=idxL g lb eg p A c xs w hp hr hc r hr0
 clear hp hr hc h hr0 eg
 go_enter Try.func87,Try.ntmps87
 go_wp2_with (go_at_call 95;refine hcall.mono ?_;rintro e w' ⟨rfl,hb'⟩)
 go_ret
 exact ⟨by first | rfl | simp,hb'⟩
def PredE (g:Nat) (lb:Array Value) (p:S32 → Option Bool) (w:World):Prop :=
 ∀ (x:S32) (b:Bool) (W:World),Below w.heap.size w W → p x = some b →
  Calls Try.prog g (#[.agg #[.int .i64 x.f0,.int .i64 x.f1]] ++ lb) W fun e w'=>e = .returned (.bool b)∧Below W.heap.size W w'
set_option maxHeartbeats 8000000 in
set_option maxRecDepth 100000 in
theorem idxE (g:Nat) (lb:Array Value) (eg:∀ args w,(callFunc g args).run Try.prog w = .ok (.enter g args) w) (p:S32 → Option Bool) (A:Option Addr) (c:Nat) (xs:List (S32)) (w:World)
  (hp:PredE g lb p w) (hr:Kd.C k32 w A xs.length xs) (hc:xs.length ≤ c) (r:Int) (h:idxOf p xs 0 = some r) :
  Calls Try.prog 93 #[.slice A xs.length c,.func (.func g) #[] lb] w fun e w'=>e = .returned (.int .i64 r)∧Below w.heap.size w w':=by
 have hu32:=Try.underlying32
 have HR:=Aside0.mk hr
 have hn:xs.length ≤ 9223372036854775807:=hr.2.1
 clear hr
 have HP:=Aside0.mk hp
 clear hp
 have H:=Aside0.mk h
 clear h
 go_enter Try.func93,Try.ntmps93
 go_wp2
 go_loopg [5,8] xs.length (fun gg _ s8 wr=>∃ kk:Nat,kk ≤ xs.length∧xs.length - kk ≤ gg∧s8 = .int .i64 kk∧Aside0 (idxOf p (xs.drop kk) kk = some r)∧Aside0 (Below w.heap.size w wr))
 case atStart=>exact ⟨0,Nat.zero_le _,Nat.le_refl _,rfl,H,⟨Below.refl _ _⟩⟩
 case round =>
  clear H
  obtain ⟨kk,hkk,hg,rfl,HA,HB⟩:=hrel
  by_cases hlt:kk < xs.length
  ·have hltz:decide ((kk:Int) < (xs.length:Int)) = true:=decide_eq_true (by omega)
   have hltz2:decide (kk < xs.length) = true:=decide_eq_true hlt
   have H:=HA.out
   rw [idxOf_drop hlt] at H
   obtain ⟨b,hb,H⟩:=Option.bind_eq_some_iff.1 H
   have hx:rd_T32 xs (kk:Int) = xs[kk]:=by simp [rd_T32,List.getD_eq_getElem?_getD,List.getElem?_eq_getElem hlt]
   obtain ⟨ad,e2,h0,h1⟩:=at_T32 HR.out (kk:Int) (by omega) (by omega)
   rw [hx] at h0 h1
   simp only [Int.toNat_natCast] at h0 h1
   cases e2
   replace h0:=(HB.out.cell (World.block_lt_of_cell? w _ h0)).trans h0
   replace h1:=(HB.out.cell (World.block_lt_of_cell? w _ h1)).trans h1
   have hcall:=HP.out xs[kk] b wr HB.out hb
   generalize xs[kk] = y at h0 h1 hcall
   clear hx hb
   have p1:(0 ≤ (kk:Int)) = True:=eq_true (by omega)
   have p2:((kk:Int) < (xs.length:Int)) = True:=eq_true (by omega)
   have HH:=Aside0.mk H
   clear H HA
   cases b with
   | true =>
    go_wp2_with (((with_reducible refine hcall.mono ?_);rintro e w' ⟨rfl,hb'⟩))
    go_ret
    have hr0:(kk:Int) = r:=Option.some.inj HH.out
    subst hr0
    exact ⟨rfl,below_step HB.out hb'⟩
   | false =>
    go_wp2_with (((with_reducible refine hcall.mono ?_);rintro e w' ⟨rfl,hb'⟩))
    go_roundg (xs.length - (kk + 1))
    case measure=>omega
    case rel=>exact ⟨kk + 1,by omega,by omega,by go_num,⟨HH.out⟩,⟨below_step HB.out hb'⟩⟩
  ·have hltz:decide ((kk:Int) < (xs.length:Int)) = false:=decide_eq_false (by omega)
   have hltz2:decide (kk < xs.length) = false:=decide_eq_false hlt
   have H:=HA.out
   rw [List.drop_eq_nil_of_le (by omega)] at H
   have hr0:(-1:Int) = r:=Option.some.inj H
   clear H HA
   go_wp2
   go_ret
   subst hr0
   exact ⟨rfl,HB.out⟩
end Go.Proofs.Ythljlnkanllpnaa.P
