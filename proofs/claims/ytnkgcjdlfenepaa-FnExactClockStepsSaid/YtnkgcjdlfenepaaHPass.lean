/- A unit of time passes (impl.pass), with the closure that it hands to slices.ContainsFunc. No condition. -/
import Derived.Test.YtnkgcjdlfenepaaP0
import Derived.Test.YtnkgcjdlfenepaaP1
import Derived.Test.YtnkgcjdlfenepaaCut
import Derived.Test.YtnkgcjdlfenepaaAny
namespace Go.Proofs.Ytnkgcjdlfenepaa.P
open Go.RowKit Go.Proofs.YtnkgcjdlfenepaaW.PrintWords Go.Proofs.YtnkgcjdlfenepaaW.PrintLast Go.Proofs.YtnkgcjdlfenepaaW.PrintMore Go.Proofs.Ytnkgcjdlfenepaa.Any
attribute [local go_sem] max2_int min2_int max_two min_two max_three min_three max_four min_four
set_option linter.unusedVariables false
set_option linter.unusedSimpArgs false
def Pred44 (g:Nat) (lb:Array Value) (p:S44 → Option Bool) (w:World):Prop :=
 ∀ (x:S44) (A:Option Addr) (c:Nat) (b:Bool) (W:World),Below w.heap.size w W → Kd.C k29 W A x.f1.f2.length x.f1.f2 → x.f1.f2.length ≤ c → p x = some b →
  Calls Try.prog g (#[.agg #[.int .i64 x.f0,.int .i64 x.f1.f0,.int .i64 x.f1.f1,.slice A x.f1.f2.length c]] ++ lb) W fun e w'=>e = .returned (.bool b)∧Below W.heap.size W w'
set_option maxHeartbeats 8000000 in
set_option maxRecDepth 100000 in
theorem idx44 (g:Nat) (lb:Array Value) (eg:∀ args w,(callFunc g args).run Try.prog w = .ok (.enter g args) w) (p:S44 → Option Bool) (A:Option Addr) (c:Nat) (xs:List S44) (w:World)
  (hp:Pred44 g lb p w) (hr:Kd.C k44 w A xs.length xs) (hc:xs.length ≤ c) (r:Int) (h:idxOf p xs 0 = some r) :
  Calls Try.prog 69 #[.slice A xs.length c,.func (.func g) #[] lb] w fun e w'=>e = .returned (.int .i64 r)∧Below w.heap.size w w':=by
 have hu44:=Try.underlying44
 have HR:=aQ hr
 have hn:xs.length ≤ 9223372036854775807:=hr.2.1
 clear hr
 have HP:=aQ hp
 clear hp
 have H:=aQ h
 clear h
 go_enter Try.func69,Try.ntmps69
 go_wp2
 go_loopg [5,8] xs.length (fun gg _ s8 wr=>∃ kk:Nat,kk ≤ xs.length∧xs.length - kk ≤ gg∧s8 = .int .i64 kk∧Aside0 (idxOf p (xs.drop kk) kk = some r)∧Aside0 (Below w.heap.size w wr))
 case atStart=>exact ⟨0,Nat.zero_le _,Nat.le_refl _,rfl,H,⟨Below.refl _ _⟩⟩
 case round =>
  clear H
  obtain ⟨kk,hkk,hg,rfl,HA,HB⟩:=hrel
  by_cases hlt:kk < xs.length
  ·have hltz:decide ((kk:Int) < (xs.length:Int)) = true:=decide_eq_true (by omega)
   have hltz2:decide (kk < xs.length) = true:=decide_eq_true hlt
   have H:=HA.out
   rw [idxOf_drop hlt] at H
   obtain ⟨b,hb,H⟩:=Option.bind_eq_some_iff.1 H
   have hx:rd_T44 xs (kk:Int) = xs[kk]:=by simp [rd_T44,List.getD_eq_getElem?_getD,List.getElem?_eq_getElem hlt]
   obtain ⟨ad,A2,c2,e2,h0,h1,h2,h3,hl2,hi2⟩:=at_T44 HR.out (kk:Int) (by omega) (by omega)
   rw [hx] at h0 h1 h2 h3 hl2 hi2
   simp only [Int.toNat_natCast] at h0 h1 h2 h3
   cases e2
   replace h0:=(HB.out.cell (World.block_lt_of_cell? w _ h0)).trans h0
   replace h1:=(HB.out.cell (World.block_lt_of_cell? w _ h1)).trans h1
   replace h2:=(HB.out.cell (World.block_lt_of_cell? w _ h2)).trans h2
   replace h3:=(HB.out.cell (World.block_lt_of_cell? w _ h3)).trans h3
   have hcall:=HP.out xs[kk] A2 c2 b wr HB.out (Kd.C_below hi2 HB.out) hl2 hb
   generalize xs[kk] = y at h0 h1 h2 h3 hcall
   clear hx hl2 hi2 hb
   have p1:(0 ≤ (kk:Int)) = True:=eq_true (by omega)
   have p2:((kk:Int) < (xs.length:Int)) = True:=eq_true (by omega)
   have HH:=aQ H
   clear H HA
   cases b with
   | true =>
    go_wp2_with (((with_reducible refine hcall.mono ?_);rintro e w' ⟨rfl,hb'⟩))
    go_ret
    have hr0:(kk:Int) = r:=Option.some.inj HH.out
    subst hr0
    exact ⟨rfl,below_step HB.out hb'⟩
   | false =>
    go_wp2_with (((with_reducible refine hcall.mono ?_);rintro e w' ⟨rfl,hb'⟩))
    go_roundg (xs.length - (kk + 1))
    case measure=>omega
    case rel=>exact ⟨kk + 1,by omega,by omega,by go_num,⟨HH.out⟩,⟨below_step HB.out hb'⟩⟩
  ·have hltz:decide ((kk:Int) < (xs.length:Int)) = false:=decide_eq_false (by omega)
   have hltz2:decide (kk < xs.length) = false:=decide_eq_false hlt
   have H:=HA.out
   rw [List.drop_eq_nil_of_le (by omega)] at H
   have hr0:(-1:Int) = r:=Option.some.inj H
   clear H HA
   go_wp2
   go_ret
   subst hr0
   exact ⟨rfl,HB.out⟩
set_option maxHeartbeats 8000000 in
set_option maxRecDepth 100000 in
theorem any44 (g:Nat) (lb:Array Value) (eg:∀ args w,(callFunc g args).run Try.prog w = .ok (.enter g args) w) (p:S44 → Option Bool) (A:Option Addr) (c:Nat) (xs:List S44) (w:World)
  (hp:Pred44 g lb p w) (hr:Kd.C k44 w A xs.length xs) (hc:xs.length ≤ c) (b:Bool) (h:anyOf p xs = some b) :
  Calls Try.prog 63 #[.slice A xs.length c,.func (.func g) #[] lb] w fun e w'=>e = .returned (.bool b)∧Below w.heap.size w w':=by
 obtain ⟨r,hr0,rfl⟩:=anyOf_idx xs 0 (by omega) b h
 have hcall:=idx44 g lb eg p A c xs w hp hr hc r hr0
 clear hp hr hc h hr0 eg
 go_enter Try.func63,Try.ntmps63
 go_wp2_with (go_at_call 69;refine hcall.mono ?_;rintro e w' ⟨rfl,hb'⟩)
 go_ret
 exact ⟨by first | rfl | simp,hb'⟩
def impl_partner.f (l:List S44) (a:Int):Option Bool:=anyOf (fun y=>some (a == wrap64 (-y.f0))) l
set_option maxHeartbeats 8000000 in
set_option maxRecDepth 100000 in
theorem partner44 (g:Nat) (a b c:Int) (v:Value) (w:World) (hbox:w.heap[g]? = some (.cells #[.int .i64 a,.int .i64 b,.int .i64 c,v] 44 (0,0))):Pred44 64 #[.pointer (some ⟨g,0,none⟩)] (fun y=>some (a == wrap64 (-y.f0))) w:=by
 intro x A cc bb W hB hC hc hp
 obtain rfl:=Option.some.inj hp
 have BK0:=aQ (blk_below hbox hB)
 obtain ⟨x0,x1,x2,l3⟩:=x
 dsimp only
 clear hC hc hp hbox hB
 have HB:=aQ (Below.refl W.heap.size W)
 have hu44:=Try.underlying44
 show Calls Try.prog 64 #[.agg #[.int .i64 x0,.int .i64 x1,.int .i64 x2,.slice A l3.length cc],.pointer (some ⟨g,0,none⟩)] W _
 go_enter Try.func64,Try.ntmps64
 go_wp2_with (first | ((with_reducible refine gate_dst (N:=2) rfl ?_);refine box1 (N:=2) (cs:=#[.int .i64 x0,.int .i64 x1,.int .i64 x2,.slice A l3.length cc]) (t:=44) ?_;intro gb hg w5 hbox hb;have n0_:=aQ (below_step HB.out hb);have BK:=aQ hbox;have BK1:=aQ (blk_below BK0.out hb);clear HB;have HB:=n0_;clear n0_ hb hbox hg;have hcz0:w5.cell? ⟨gb,0,none⟩ = some (.int .i64 x0):=(blk_cell BK.out 0).trans rfl;have hcz1:w5.cell? ⟨g,0,none⟩ = some (.int .i64 a):=(blk_cell BK1.out 0).trans rfl))
 go_ret
 exact ⟨by first | rfl | (simp [i64_w];done) | (simp only [i64_w];rfl),HB.out⟩
theorem impl_partner.calls (g:Nat) (b c:Int) (v:Value) (A0:Option Addr) (c0:Nat) (l0:List S44) (a:Int) (r:Bool) (w:World) (hbox:w.heap[g]? = some (.cells #[.int .i64 a,.int .i64 b,.int .i64 c,v] 44 (0,0))) (hr0:Kd.C k44 w A0 l0.length l0) (hc0:l0.length ≤ c0) (h:impl_partner.f l0 a = some r) :
  Calls Try.prog 63 #[.slice A0 l0.length c0,.func (.func 64) #[] #[.pointer (some ⟨g,0,none⟩)]] w fun e w'=>e = .returned (.bool r)∧Below w.heap.size w w' :=
 any44 64 #[.pointer (some ⟨g,0,none⟩)] (fun args w=>by rfl) _ A0 c0 l0 w (partner44 g a b c v w hbox) hr0 hc0 r h
mutual
def impl_pass.j0:Nat → Bool → Int → Int → List (S29) → Option (Int × Int × (List (S29)) × Bool)
 | 0,_,_,_,_=>none
 | k + 1,x37,x404000,x404001,x404002=>if x37 = true then (if 0 < (x404002.length:Int) then ((impl_pass.f k ((rd_T29 x404002 0).f0) ((rd_T29 x404002 0).f1) ((rd_T29 x404002 0).f2)).bind fun bt423=>(if 1 < (x404002.length:Int) then ((impl_pass.f k ((rd_T29 x404002 1).f0) ((rd_T29 x404002 1).f1) ((rd_T29 x404002 1).f2)).bind fun bt431=>(if bt423.2.2.2 = true then (impl_pass.j1 k (!bt431.2.2.2) x404000 x404001 x404002 bt423.1 bt423.2.1 bt423.2.2.1 bt431.1 bt431.2.1 bt431.2.2.1) else (impl_pass.j1 k true x404000 x404001 x404002 bt423.1 bt423.2.1 bt423.2.2.1 bt431.1 bt431.2.1 bt431.2.2.1))) else (none))) else (none)) else ((impl_copyClock.f k x404000 x404001 x404002).bind fun bt455=>(some (bt455.1,bt455.2.1,bt455.2.2,true)))
def impl_pass.j1:Nat → Bool → Int → Int → List (S29) → Int → Int → List (S29) → Int → Int → List (S29) → Option (Int × Int × (List (S29)) × Bool)
 | 0,_,_,_,_,_,_,_,_,_,_=>none
 | k + 1,x61,x404000,x404001,x404002,x430000,x430001,x430002,x438000,x438001,x438002=>if x61 = true then (some (0,0,([]:List (S29)),false)) else (if x404000 = 4 then (if 0 < (x404002.length:Int) then ((impl_ticksOf.f k ((rd_T29 x404002 0).f0) ((rd_T29 x404002 0).f1) ((rd_T29 x404002 0).f2)).bind fun t439=>(impl_pass.l0 k t439 (t439.length:Int) 0 x404000 x404001 x404002 x430000 x430001 x430002 x438000 x438001 x438002)) else (none)) else (some (x404000,0,(([(⟨x430000,x430001,x430002⟩:S29),(⟨x438000,x438001,x438002⟩:S29)]:List (S29))),true)))
def impl_pass.l0:Nat → List (S44) → Int → Int → Int → Int → List (S29) → Int → Int → List (S29) → Int → Int → List (S29) → Option (Int × Int × (List (S29)) × Bool)
 | 0,_,_,_,_,_,_,_,_,_,_,_,_=>none
 | k + 1,x70,x71,x72,x404000,x404001,x404002,x430000,x430001,x430002,x438000,x438001,x438002=>if x72 < x71 then (if 0 ≤ x72 then (if x72 < (x70.length:Int) then (if ((rd_T44 x70 x72).f0) = 0 then (impl_pass.l0 k x70 x71 (wrap64 (x72 + 1)) x404000 x404001 x404002 x430000 x430001 x430002 x438000 x438001 x438002) else (if 1 < (x404002.length:Int) then ((impl_ticksOf.f k ((rd_T29 x404002 1).f0) ((rd_T29 x404002 1).f1) ((rd_T29 x404002 1).f2)).bind fun t448=>((impl_partner.f t448 ((rd_T44 x70 x72).f0)).bind fun t451=>(if t451 = true then (some (0,0,([]:List (S29)),false)) else (impl_pass.l0 k x70 x71 (wrap64 (x72 + 1)) x404000 x404001 x404002 x430000 x430001 x430002 x438000 x438001 x438002)))) else (none))) else (none)) else (none)) else (some (x404000,0,(([(⟨x430000,x430001,x430002⟩:S29),(⟨x438000,x438001,x438002⟩:S29)]:List (S29))),true))
def impl_pass.f:Nat → Int → Int → List (S29) → Option (Int × Int × (List (S29)) × Bool)
 | 0,_,_,_=>none
 | k + 1,a0_0,a0_1,l0_2=>if a0_0 = 1 then ((impl_copyClock.f k a0_0 a0_1 l0_2).bind fun bt405=>(some (bt405.1,bt405.2.1,bt405.2.2,(a0_1 != 0)))) else (if a0_0 = 2 then (if a0_1 = 1 then (if 0 < (l0_2.length:Int) then ((impl_copyClock.f k ((rd_T29 l0_2 0).f0) ((rd_T29 l0_2 0).f1) ((rd_T29 l0_2 0).f2)).bind fun bt411=>(some (bt411.1,bt411.2.1,bt411.2.2,true))) else (none)) else ((impl_copyClock.f k a0_0 a0_1 l0_2).bind fun bt416=>(some (bt416.1,wrap64 (bt416.2.1 - 1),bt416.2.2,true)))) else (if a0_0 = 3 then (impl_pass.j0 k (a0_0 == 3) a0_0 a0_1 l0_2) else (impl_pass.j0 k (a0_0 == 4) a0_0 a0_1 l0_2)))
end
theorem impl_pass.mono_l:∀ k,(∀ y0 y1 y2,LeO (impl_pass.f k y0 y1 y2) (impl_pass.f (k + 1) y0 y1 y2))∧(∀ y0 y1 y2 y3,LeO (impl_pass.j0 k y0 y1 y2 y3) (impl_pass.j0 (k + 1) y0 y1 y2 y3))∧(∀ y0 y1 y2 y3 y4 y5 y6 y7 y8 y9,LeO (impl_pass.j1 k y0 y1 y2 y3 y4 y5 y6 y7 y8 y9) (impl_pass.j1 (k + 1) y0 y1 y2 y3 y4 y5 y6 y7 y8 y9))∧(∀ y0 y1 y2 y3 y4 y5 y6 y7 y8 y9 y10 y11,LeO (impl_pass.l0 k y0 y1 y2 y3 y4 y5 y6 y7 y8 y9 y10 y11) (impl_pass.l0 (k + 1) y0 y1 y2 y3 y4 y5 y6 y7 y8 y9 y10 y11))
 | 0=>⟨fun _ _ _ r h=>by simp [impl_pass.f] at h,fun _ _ _ _ r h=>by simp [impl_pass.j0] at h,fun _ _ _ _ _ _ _ _ _ _ r h=>by simp [impl_pass.j1] at h,fun _ _ _ _ _ _ _ _ _ _ _ _ r h=>by simp [impl_pass.l0] at h⟩
 | k + 1=>by
  obtain ⟨ih0,ih1,ih2,ih3⟩:=impl_pass.mono_l k
  refine ⟨?_,?_,?_,?_⟩
  ·intro y0 y1 y2
   unfold impl_pass.f
   repeat' first
   | (with_reducible exact ih0 _ _ _)
   | (with_reducible exact ih1 _ _ _ _)
   | (with_reducible exact ih2 _ _ _ _ _ _ _ _ _ _)
   | (with_reducible exact ih3 _ _ _ _ _ _ _ _ _ _ _ _)
   | (with_reducible exact impl_copyClock.mono _ _ _ _)
   | (with_reducible exact impl_ticksOf.mono _ _ _ _)
   | (with_reducible exact LeO.refl _)
   | (with_reducible exact LeO.none _)
   | (with_reducible refine LeO.ite ?_ ?_)
   | (with_reducible refine LeO.bind ?_ (fun _=>?_))
   | exact ih0 _ _ _
   | exact ih1 _ _ _ _
   | exact ih2 _ _ _ _ _ _ _ _ _ _
   | exact ih3 _ _ _ _ _ _ _ _ _ _ _ _
   | exact impl_copyClock.mono _ _ _ _
   | exact impl_ticksOf.mono _ _ _ _
   | exact LeO.none _
   | refine LeO.ite ?_ ?_
   | refine LeO.bind ?_ (fun _=>?_)
  ·intro y0 y1 y2 y3
   unfold impl_pass.j0
   repeat' first
   | (with_reducible exact ih0 _ _ _)
   | (with_reducible exact ih1 _ _ _ _)
   | (with_reducible exact ih2 _ _ _ _ _ _ _ _ _ _)
   | (with_reducible exact ih3 _ _ _ _ _ _ _ _ _ _ _ _)
   | (with_reducible exact impl_copyClock.mono _ _ _ _)
   | (with_reducible exact impl_ticksOf.mono _ _ _ _)
   | (with_reducible exact LeO.refl _)
   | (with_reducible exact LeO.none _)
   | (with_reducible refine LeO.ite ?_ ?_)
   | (with_reducible refine LeO.bind ?_ (fun _=>?_))
   | exact ih0 _ _ _
   | exact ih1 _ _ _ _
   | exact ih2 _ _ _ _ _ _ _ _ _ _
   | exact ih3 _ _ _ _ _ _ _ _ _ _ _ _
   | exact impl_copyClock.mono _ _ _ _
   | exact impl_ticksOf.mono _ _ _ _
   | exact LeO.none _
   | refine LeO.ite ?_ ?_
   | refine LeO.bind ?_ (fun _=>?_)
  ·intro y0 y1 y2 y3 y4 y5 y6 y7 y8 y9
   unfold impl_pass.j1
   repeat' first
   | (with_reducible exact ih0 _ _ _)
   | (with_reducible exact ih1 _ _ _ _)
   | (with_reducible exact ih2 _ _ _ _ _ _ _ _ _ _)
   | (with_reducible exact ih3 _ _ _ _ _ _ _ _ _ _ _ _)
   | (with_reducible exact impl_copyClock.mono _ _ _ _)
   | (with_reducible exact impl_ticksOf.mono _ _ _ _)
   | (with_reducible exact LeO.refl _)
   | (with_reducible exact LeO.none _)
   | (with_reducible refine LeO.ite ?_ ?_)
   | (with_reducible refine LeO.bind ?_ (fun _=>?_))
   | exact ih0 _ _ _
   | exact ih1 _ _ _ _
   | exact ih2 _ _ _ _ _ _ _ _ _ _
   | exact ih3 _ _ _ _ _ _ _ _ _ _ _ _
   | exact impl_copyClock.mono _ _ _ _
   | exact impl_ticksOf.mono _ _ _ _
   | exact LeO.none _
   | refine LeO.ite ?_ ?_
   | refine LeO.bind ?_ (fun _=>?_)
  ·intro y0 y1 y2 y3 y4 y5 y6 y7 y8 y9 y10 y11
   unfold impl_pass.l0
   repeat' first
   | (with_reducible exact ih0 _ _ _)
   | (with_reducible exact ih1 _ _ _ _)
   | (with_reducible exact ih2 _ _ _ _ _ _ _ _ _ _)
   | (with_reducible exact ih3 _ _ _ _ _ _ _ _ _ _ _ _)
   | (with_reducible exact impl_copyClock.mono _ _ _ _)
   | (with_reducible exact impl_ticksOf.mono _ _ _ _)
   | (with_reducible exact LeO.refl _)
   | (with_reducible exact LeO.none _)
   | (with_reducible refine LeO.ite ?_ ?_)
   | (with_reducible refine LeO.bind ?_ (fun _=>?_))
   | exact ih0 _ _ _
   | exact ih1 _ _ _ _
   | exact ih2 _ _ _ _ _ _ _ _ _ _
   | exact ih3 _ _ _ _ _ _ _ _ _ _ _ _
   | exact impl_copyClock.mono _ _ _ _
   | exact impl_ticksOf.mono _ _ _ _
   | exact LeO.none _
   | refine LeO.ite ?_ ?_
   | refine LeO.bind ?_ (fun _=>?_)
theorem impl_pass.mono:∀ a0 a1 a2 k,LeO (impl_pass.f k a0 a1 a2) (impl_pass.f (k + 1) a0 a1 a2):=by
 intro a0 a1 a2 k
 obtain ⟨ih0,ih1,ih2,ih3⟩:=impl_pass.mono_l k
 exact ih0 a0 a1 a2
set_option maxHeartbeats 8000000 in
set_option maxRecDepth 100000 in
theorem impl_pass.calls (k:Nat):∀ (a0_0:Int) (a0_1:Int) (P0_2_:Nat → Prop) (A0_2:Option Addr) (c0_2:Nat) (l0_2:List (S29)) (r1:Int) (r2:Int) (r3:List (S29)) (r4:Bool) (w:World) (hs0_2:Kd.V k29 29 w w.heap.size (fun k_=>P0_2_ k_) (.slice A0_2 l0_2.length c0_2) l0_2) (h:impl_pass.f k a0_0 a0_1 l0_2 = some (r1,r2,r3,r4)),
  Calls Try.prog 49 #[.agg #[.int .i64 a0_0,.int .i64 a0_1,.slice A0_2 l0_2.length c0_2]] w fun e w'=>∃ v2_:Value,e = .returned (.tuple #[.agg #[.int .i64 r1,.int .i64 r2,v2_],.bool r4])∧Kd.N k29 29 w' w.heap.size (fun k_=>(P0_2_ k_ ∨ w.heap.size ≤ k_)) v2_ r3∧Below w.heap.size w w':=by
 induction k using Nat.strongRecOn with
 | _ k ih =>
 intro a0_0 a0_1 P0_2_ A0_2 c0_2 l0_2 r1 r2 r3 r4 w hs0_2 h
 cases k with
 | zero=>exact absurd h (by simp [impl_pass.f])
 | succ k =>
 simp only [impl_pass.f] at h
 have hu29:=Try.underlying29
 have hu44:=Try.underlying44
 have HO0_2:=aQ (show Kd.V k29 29 w w.heap.size (fun k_=>(P0_2_ k_ ∨ w.heap.size ≤ k_)) (.slice A0_2 l0_2.length c0_2) l0_2 from Kd.V_mono hs0_2 (fun k_ hk=>.inl hk))
 have HB:=aQ (Below.refl w.heap.size w)
 have H:=h
 clear h
 by_cases c2:a0_0 = 1
 ·rw [if_pos c2] at H
  have c2b0:(a0_0 == 1) = true:=beq_iff_eq.mpr c2
  have c2b1:(a0_0 != 1) = false:=bne_eq_false_iff_eq.mpr c2
  clear c2
  obtain ⟨⟨t405,t406,t407⟩,A3,H⟩:=bQ H
  dsimp only at H
  simp only [Option.some.injEq,Prod.mk.injEq] at H
  obtain ⟨rfl,rfl,rfl,rfl⟩:=H
  go_enter Try.func49,Try.ntmps49
  try go_wp2_with (first | ((with_reducible refine gate_dst (N:=1) rfl ?_);refine box1 (N:=1) (cs:=#[.int .i64 a0_0,.int .i64 a0_1,.slice A0_2 l0_2.length c0_2]) (t:=29) ?_;intro gb403 hg w4 hbox hb;replace HO0_2:=aQ (Kd.V_below (Kd.V_elderB HO0_2.out gb403 (Nat.le_of_eq hg.symm)) hb);have BK403:=aQ (hbox);have GW403:=aQ (gB:w.heap.size ≤ gb403);have GE403:=GW403;replace HB:=aQ (below_step bB hb);clear hb hbox hg) | ((with_reducible refine gate_dst (N:=2) rfl ?_);refine box1 (N:=2) (cs:=#[.int .i64 0,.int .i64 0,.slice none 0 0]) (t:=29) ?_;intro gb404 hg w5 hbox hb;replace HO0_2:=aQ (Kd.V_below (Kd.V_elderB HO0_2.out gb404 (Nat.le_of_eq hg.symm)) hb);have BK404:=aQ (hbox);have GW404:=aQ (gB:w.heap.size ≤ gb404);have GE404:=GW404;replace HB:=aQ (below_step bB hb);have NB403_404:=aQ ((by rw [hg];exact Nat.ne_of_lt (blk_lt BK403.out):gb403 ≠ gb404));have NB404_403:=aQ NB403_404.out.symm;replace BK403:=aQ (blk_below BK403.out hb);clear hb hbox hg;have hnb6:=NB403_404.out;have hnc6:=NB404_403.out;obtain ⟨hcz7_0,hcz7_1,hcz7_2,hfz7_0,hfz7_1,hfz7_2⟩:=cz3 BK403.out))
  replace HO0_2:=aQ (Kd.V_drew HO0_2.out)
  replace BK403:=aQ (blk_drew BK403.out)
  replace BK404:=aQ (blk_drew BK404.out)
  replace HB:=aQ (below_drew1 HB.out)
  refine start_ (n:=7) (S:=fun w'=>w'.cell? ⟨gb403,0,none⟩ = some (.int .i64 a0_0)∧w'.cell? ⟨gb403,1,none⟩ = some (.int .i64 a0_1)∧w'.cell? ⟨gb403,2,none⟩ = some (.slice A0_2 l0_2.length c0_2)) (ds:=[]) (bn 7 0) (by kernel_rfl) rfl rfl ⟨(blk_cell BK403.out 0).trans rfl,(blk_cell BK403.out 1).trans rfl,(blk_cell BK403.out 2).trans rfl⟩ (fun hHeld=>?_)
  generalize w5.drew = w8 at HO0_2 BK403 BK404 HB hHeld ⊢
  refine pur (i:=2) (N:=some 17) (bn 7 4) ?_
  refine tak (i:=0) (N:=some 15) (bn 7 5) ?_
  refine tak (i:=3) (N:=some 18) (bn 7 13) ?_
  refine pur (i:=4) (N:=some 19) (bn 7 29) ?_
  refine one_ (i:=1) (N:=some 16) (bn 7 31) rfl rfl (by kernel_rfl) (by decide) (fun K hK=>?_)
  refine goes1 Try.func48 #[.agg #[.int .i64 a0_0,.int .i64 a0_1,.slice A0_2 l0_2.length c0_2]] ?_
  with_reducible refine (impl_copyClock.calls k a0_0 a0_1 _ _ l0_2 t405 t406 t407 _ ?side1 ?side2 A3.out).mono ?_
  (case side1=>exact (Kd.V_reads' HO0_2.out).2.2)
  (case side2=>exact (Kd.V_reads' HO0_2.out).2.1)
  rintro e w9 ⟨v408,rfl,ho0,hb⟩
  refine ⟨_,rfl,?_⟩
  replace HO0_2:=aQ (Kd.V_elder' HO0_2.out (Kd.N_base ho0) hb)
  have HO409:=aQ (Kd.N_lower (Kd.N_mono (ok':=fun k_=>(P0_2_ k_ ∨ w.heap.size ≤ k_)∧k_ ≠ gb403∧k_ ≠ gb404) ho0 (fun k_ hk_=>⟨(.inr (Nat.le_trans (below_size bB) hk_)),(Kd.freshB BK403.out k_ hk_),(Kd.freshB BK404.out k_ hk_)⟩)) (below_size bB))
  replace BK403:=aQ (blk_below BK403.out hb)
  replace BK404:=aQ (blk_below BK404.out hb)
  replace HB:=aQ (below_step bB hb)
  (try clear hb)
  (try clear ho0)
  obtain ⟨Ao12,co12,eo12⟩:=Kd.N_slice HO409.out
  (first | subst eo12 | (injection eo12 with f1_ f2_ f3_;have f4_:=f1_.symm;have f5_:=f3_.symm;clear f1_ f2_ f3_;subst f4_;subst f5_))
  refine hK.out _ _ ⟨(blk_cell BK403.out 0).trans rfl,(blk_cell BK403.out 1).trans rfl,(blk_cell BK403.out 2).trans rfl⟩ (fun hHeld=>?_)
  clear hK K
  refine nrm (N:=some 16) ?_
  refine one_ (i:=5) (N:=none) (bn 7 63) rfl rfl (by kernel_rfl) (by decide) (fun K hK=>?_)
  have hs10:w9.cell? ⟨gb404,0,none⟩ = some (.int .i64 0):=(blk_cell BK404.out 0).trans rfl
  have hfs10:=blk_frozen BK404.out 0
  have hns10_0:=NB403_404.out
  have hms10_0:=NB404_403.out
  have hs11:w9.cell? ⟨gb404,1,none⟩ = some (.int .i64 0):=(blk_cell BK404.out 1).trans rfl
  have hfs11:=blk_frozen BK404.out 1
  have hns11_0:=NB403_404.out
  have hms11_0:=NB404_403.out
  have hs13:w9.cell? ⟨gb404,2,none⟩ = some (.slice none 0 0):=(blk_cell BK404.out 2).trans rfl
  have hfs13:=blk_frozen BK404.out 2
  have hns13_0:=NB403_404.out
  have hms13_0:=NB404_403.out
  refine skip_ (w1:=?_) (by rfl) rfl ?_ ?_
  rotate_left
  ·go_simp
   rfl
  refine hK.out _ _ ⟨((cell_far (p:=⟨gb404,_,none⟩) NB403_404.out _).trans (((cell_far (p:=⟨gb404,_,none⟩) NB403_404.out _).trans (((cell_far (p:=⟨gb404,_,none⟩) NB403_404.out _).trans (hHeld.1)))))),((cell_far (p:=⟨gb404,_,none⟩) NB403_404.out _).trans (((cell_far (p:=⟨gb404,_,none⟩) NB403_404.out _).trans (((cell_far (p:=⟨gb404,_,none⟩) NB403_404.out _).trans (hHeld.2.1)))))),((cell_far (p:=⟨gb404,_,none⟩) NB403_404.out _).trans (((cell_far (p:=⟨gb404,_,none⟩) NB403_404.out _).trans (((cell_far (p:=⟨gb404,_,none⟩) NB403_404.out _).trans (hHeld.2.2))))))⟩ (fun hHeld=>?_)
  clear hK K
  refine pur (i:=6) (N:=some 3) (bn 7 127) ?_
  refine done_ (by kernel_rfl) ?_
  try go_wp2
  refine bodyPost_ret (results_ct rfl _ _ gb404 29 #[.int .i64 t405,.int .i64 t406,.slice Ao12 t407.length co12] (0,0) _ rfl bP Try.underlying29 rfl (by kernel_rfl)) rfl ?_
  exact ⟨_,rfl,by (with_reducible repeat (first | apply Kd.N_alloc | apply Kd.N_drewN | apply Kd.N_drew));exact Kd.N_mono (nFN (g:=gb404) HO409.out (fun k_ hk=>hk.2.2)) (fun _ hk=>hk.1),bB⟩
 rw [if_neg c2] at H
 have c2b0:(a0_0 == 1) = false:=beq_eq_false_iff_ne.mpr c2
 have c2b1:(a0_0 != 1) = true:=bne_iff_ne.mpr c2
 by_cases c14:a0_0 = 2
 ·rw [if_pos c14] at H
  have c14b0:(a0_0 == 2) = true:=beq_iff_eq.mpr c14
  have c14b1:(a0_0 != 2) = false:=bne_eq_false_iff_eq.mpr c14
  clear c14
  by_cases c15:a0_1 = 1
  ·rw [if_pos c15] at H
   have c15b0:(a0_1 == 1) = true:=beq_iff_eq.mpr c15
   have c15b1:(a0_1 != 1) = false:=bne_eq_false_iff_eq.mpr c15
   clear c15
   by_cases c16:0 < (l0_2.length:Int);rotate_left
   ·rw [if_neg c16] at H
    exact absurd H (by simp)
   rw [if_pos c16] at H
   have c16b0:decide (0 < (l0_2.length:Int)) = true:=decide_eq_true c16
   have c16b1:decide (0 < l0_2.length) = true:=decide_eq_true (by omega)
   clear c16
   obtain ⟨⟨t411,t412,t413⟩,A17,H⟩:=bQ H
   dsimp only at H
   simp only [Option.some.injEq,Prod.mk.injEq] at H
   obtain ⟨rfl,rfl,rfl,rfl⟩:=H
   go_enter Try.func49,Try.ntmps49
   go_wp2_with (first | ((with_reducible refine gate_dst (N:=1) rfl ?_);refine box1 (N:=1) (cs:=#[.int .i64 a0_0,.int .i64 a0_1,.slice A0_2 l0_2.length c0_2]) (t:=29) ?_;intro gb403 hg w18 hbox hb;replace HO0_2:=aQ (Kd.V_below (Kd.V_elderB HO0_2.out gb403 (Nat.le_of_eq hg.symm)) hb);have BK403:=aQ (hbox);have GW403:=aQ (gB:w.heap.size ≤ gb403);have GE403:=GW403;replace HB:=aQ (below_step bB hb);clear hb hbox hg) | ((with_reducible refine gate_dst (N:=2) rfl ?_);refine box1 (N:=2) (cs:=#[.int .i64 0,.int .i64 0,.slice none 0 0]) (t:=29) ?_;intro gb404 hg w19 hbox hb;replace HO0_2:=aQ (Kd.V_below (Kd.V_elderB HO0_2.out gb404 (Nat.le_of_eq hg.symm)) hb);have BK404:=aQ (hbox);have GW404:=aQ (gB:w.heap.size ≤ gb404);have GE404:=GW404;replace HB:=aQ (below_step bB hb);have NB403_404:=aQ ((by rw [hg];exact Nat.ne_of_lt (blk_lt BK403.out):gb403 ≠ gb404));have NB404_403:=aQ NB403_404.out.symm;replace BK403:=aQ (blk_below BK403.out hb);clear hb hbox hg;have hnb20:=NB403_404.out;have hnc20:=NB404_403.out;obtain ⟨hcz21_0,hcz21_1,hcz21_2,hfz21_0,hfz21_1,hfz21_2⟩:=cz3 BK403.out;have p410:0 ≤ (0:Int):=(by omega);have q410:0 < (l0_2.length:Int):=of_decide_eq_true (by assumption);obtain ⟨ad410,A410_2,c410_2,e410,hx410_0,hx410_1,hx410_2,hl410_2,hi410_2⟩:=at_T29 (Kd.V_reads' HO0_2.out).2.2 0 p410 q410;cases e410;obtain ⟨ce410,hce410,hMe410,hcc410⟩:=Kd.V_get HO0_2.out z29 0 p410 (by first | exact q410 | exact of_decide_eq_true (by assumption) | (have e_:=(Kd.V_reads' HO0_2.out).1;omega));obtain ⟨ua410_2,uc410_2,rfl,ul410_2,ge410_2⟩:=k29_openF hMe410;have hv410_2:=hcc410 2 _ rfl;rw [add_field _ _ 2 (by omega)] at hv410_2;replace hv410_2:=Option.some.inj (hv410_2.symm.trans hx410_2);injection hv410_2 with hva_ hvn_ hvc_;rw [hva_] at ge410_2;rw [hvc_] at ul410_2;have HL410_2:=aQ (show Kd.V k29 29 _ w.heap.size _ _ ((rd_T29 l0_2 0).f2) from Kd.V_mk ul410_2 ge410_2);clear hva_ hvn_ hvc_ ge410_2 ul410_2;clear hcc410 hce410;have qi410:(0 < l0_2.length) = True:=eq_true (by omega);(try rw [show ((0:Int)).toNat = 0 from rfl,show 0 * 3 = 0 from rfl] at hx410_0 hx410_1 hx410_2);(try rw [Addr.add_zero'] at hx410_0);(try rw [Addr.add_zero'] at hx410_1);(try rw [Addr.add_zero'] at hx410_2);have HR410_2:=aQ hi410_2;have HC410_2:=aQ hl410_2;clear hi410_2 hl410_2;replace p410:=eq_true p410;replace q410:=eq_true q410) | ((with_reducible refine gate_callee (f:=48) rfl ?_);refine goesL_ (some 29) rfl rfl Try.func48 (by kernel_rfl) rfl #[.agg #[.int .i64 ((rd_T29 l0_2 0).f0),.int .i64 ((rd_T29 l0_2 0).f1),.slice A410_2 ((rd_T29 l0_2 0).f2).length c410_2]] rfl mP ?_;(with_reducible refine (impl_copyClock.calls k ((rd_T29 l0_2 0).f0) ((rd_T29 l0_2 0).f1) _ _ ((rd_T29 l0_2 0).f2) t411 t412 t413 _ ?side1 ?side2 A17.out).mono ?_);(case side1=>repeat (first | exact (nC HR410_2.out) | (with_reducible refine Kd.C_alloc ?_ _) | (with_reducible refine Kd.C_drewN ?_ _) | (with_reducible refine Kd.C_drew ?_)));(case side2=>exact HC410_2.out);rintro e w22 ⟨v414,rfl,ho0,hb⟩;refine ⟨_,rfl,?_⟩;replace HO0_2:=aQ (Kd.V_elder' HO0_2.out (Kd.N_base ho0) hb);replace HL410_2:=aQ (Kd.V_elder' HL410_2.out (Kd.N_base ho0) hb);have HO415:=aQ (Kd.N_lower (Kd.N_mono (ok':=fun k_=>(P0_2_ k_ ∨ w.heap.size ≤ k_)∧k_ ≠ gb403∧k_ ≠ gb404) ho0 (fun k_ hk_=>⟨(.inr (Nat.le_trans (below_size bB) hk_)),(Kd.freshB BK403.out k_ hk_),(Kd.freshB BK404.out k_ hk_)⟩)) (below_size bB));replace BK403:=aQ (blk_below BK403.out hb);replace BK404:=aQ (blk_below BK404.out hb);replace HR410_2:=aQ (Kd.C_below (nC HR410_2.out) hb);replace HB:=aQ (below_step bB hb);(try clear hb);(try clear ho0);obtain ⟨hcz23_0,hcz23_1,hcz23_2,hfz23_0,hfz23_1,hfz23_2⟩:=cz3 BK404.out;obtain ⟨Ao24,co24,eo24⟩:=Kd.N_slice HO415.out;subst eo24))
   refine bodyPost_ret (results_ct rfl _ _ gb404 29 #[.int .i64 t411,.int .i64 t412,.slice Ao24 t413.length co24] (0,0) _ rfl bP Try.underlying29 rfl (by kernel_rfl)) rfl ?_
   exact ⟨_,rfl,by exact Kd.N_mono (nFN (g:=gb404) HO415.out (fun k_ hk=>hk.2.2)) (fun _ hk=>hk.1),bB⟩
  rw [if_neg c15] at H
  have c15b0:(a0_1 == 1) = false:=beq_eq_false_iff_ne.mpr c15
  have c15b1:(a0_1 != 1) = true:=bne_iff_ne.mpr c15
  obtain ⟨⟨t416,t417,t418⟩,A25,H⟩:=bQ H
  dsimp only at H
  simp only [Option.some.injEq,Prod.mk.injEq] at H
  obtain ⟨rfl,rfl,rfl,rfl⟩:=H
  go_enter Try.func49,Try.ntmps49
  go_wp2_with (first | ((with_reducible refine gate_dst (N:=1) rfl ?_);refine box1 (N:=1) (cs:=#[.int .i64 a0_0,.int .i64 a0_1,.slice A0_2 l0_2.length c0_2]) (t:=29) ?_;intro gb403 hg w26 hbox hb;replace HO0_2:=aQ (Kd.V_below (Kd.V_elderB HO0_2.out gb403 (Nat.le_of_eq hg.symm)) hb);have BK403:=aQ (hbox);have GW403:=aQ (gB:w.heap.size ≤ gb403);have GE403:=GW403;replace HB:=aQ (below_step bB hb);clear hb hbox hg) | ((with_reducible refine gate_dst (N:=2) rfl ?_);refine box1 (N:=2) (cs:=#[.int .i64 0,.int .i64 0,.slice none 0 0]) (t:=29) ?_;intro gb404 hg w27 hbox hb;replace HO0_2:=aQ (Kd.V_below (Kd.V_elderB HO0_2.out gb404 (Nat.le_of_eq hg.symm)) hb);have BK404:=aQ (hbox);have GW404:=aQ (gB:w.heap.size ≤ gb404);have GE404:=GW404;replace HB:=aQ (below_step bB hb);have NB403_404:=aQ ((by rw [hg];exact Nat.ne_of_lt (blk_lt BK403.out):gb403 ≠ gb404));have NB404_403:=aQ NB403_404.out.symm;replace BK403:=aQ (blk_below BK403.out hb);clear hb hbox hg;have hnb28:=NB403_404.out;have hnc28:=NB404_403.out;obtain ⟨hcz29_0,hcz29_1,hcz29_2,hfz29_0,hfz29_1,hfz29_2⟩:=cz3 BK403.out) | ((with_reducible refine gate_callee (f:=48) rfl ?_);refine goesL_ (some 31) rfl rfl Try.func48 (by kernel_rfl) rfl #[.agg #[.int .i64 a0_0,.int .i64 a0_1,.slice A0_2 l0_2.length c0_2]] rfl mP ?_;(with_reducible refine (impl_copyClock.calls k a0_0 a0_1 _ _ l0_2 t416 t417 t418 _ ?side1 ?side2 A25.out).mono ?_);(case side1=>exact (Kd.V_reads' HO0_2.out).2.2);(case side2=>exact (Kd.V_reads' HO0_2.out).2.1);rintro e w30 ⟨v419,rfl,ho0,hb⟩;refine ⟨_,rfl,?_⟩;replace HO0_2:=aQ (Kd.V_elder' HO0_2.out (Kd.N_base ho0) hb);have HO420:=aQ (Kd.N_lower (Kd.N_mono (ok':=fun k_=>(P0_2_ k_ ∨ w.heap.size ≤ k_)∧k_ ≠ gb403∧k_ ≠ gb404) ho0 (fun k_ hk_=>⟨(.inr (Nat.le_trans (below_size bB) hk_)),(Kd.freshB BK403.out k_ hk_),(Kd.freshB BK404.out k_ hk_)⟩)) (below_size bB));replace BK403:=aQ (blk_below BK403.out hb);replace BK404:=aQ (blk_below BK404.out hb);replace HB:=aQ (below_step bB hb);(try clear hb);(try clear ho0)) | ((with_reducible refine gate_dst (N:=4) rfl ?_);refine box1 (N:=4) (cs:=#[.int .i64 0,.int .i64 0,.slice none 0 0]) (t:=29) ?_;intro gb421 hg w31 hbox hb;replace HO0_2:=aQ (Kd.V_below (Kd.V_elderB HO0_2.out gb421 (Nat.le_of_eq hg.symm)) hb);replace HO420:=aQ (Kd.N_below (Kd.N_elderB HO420.out gb421 (Nat.le_of_eq hg.symm)) hb);have BK421:=aQ (hbox);have GW421:=aQ (gB:w.heap.size ≤ gb421);have GE421:=GW421;replace HB:=aQ (below_step bB hb);have NB403_421:=aQ ((by rw [hg];exact Nat.ne_of_lt (blk_lt BK403.out):gb403 ≠ gb421));have NB421_403:=aQ NB403_421.out.symm;replace BK403:=aQ (blk_below BK403.out hb);have NB404_421:=aQ ((by rw [hg];exact Nat.ne_of_lt (blk_lt BK404.out):gb404 ≠ gb421));have NB421_404:=aQ NB404_421.out.symm;replace BK404:=aQ (blk_below BK404.out hb);clear hb hbox hg;have hnb32:=NB421_403.out;have hnc32:=NB403_421.out;have hnb33:=NB421_404.out;have hnc33:=NB404_421.out;obtain ⟨hcz34_0,hcz34_1,hcz34_2,hfz34_0,hfz34_1,hfz34_2⟩:=cz3 BK421.out;obtain ⟨Ao35,co35,eo35⟩:=Kd.N_slice HO420.out;subst eo35;have hdblk:((((w31.setCell ⟨gb421,0,none⟩ (.int .i64 t416)).setCell ⟨gb421,1,none⟩ (.int .i64 t417)).setCell ⟨gb421,2,none⟩ (.slice Ao35 t418.length co35)).setCell ⟨gb421,1,none⟩ (.int .i64 (wrap64 (t417 - 1)))).heap[gb421]? = some (.cells #[.int .i64 t416,.int .i64 (wrap64 (t417 - 1)),.slice Ao35 t418.length co35] 29 (0,0)):=(blk_put (cs:=#[.int .i64 t416,.int .i64 t417,.slice Ao35 t418.length co35]) (blk_put (cs:=#[.int .i64 t416,.int .i64 t417,.slice none 0 0]) (blk_put (cs:=#[.int .i64 t416,.int .i64 0,.slice none 0 0]) (blk_put (cs:=#[.int .i64 0,.int .i64 0,.slice none 0 0]) BK421.out 0 (.int .i64 t416) rfl) 1 (.int .i64 t417) rfl) 2 (.slice Ao35 t418.length co35) rfl) 1 (.int .i64 (wrap64 (t417 - 1))) rfl);have hdc0:((((w31.setCell ⟨gb421,0,none⟩ (.int .i64 t416)).setCell ⟨gb421,1,none⟩ (.int .i64 t417)).setCell ⟨gb421,2,none⟩ (.slice Ao35 t418.length co35)).setCell ⟨gb421,1,none⟩ (.int .i64 (wrap64 (t417 - 1)))).cell? ⟨gb421,0,none⟩ = some (.int .i64 t416):=(blk_cell hdblk 0).trans rfl;have hdc1:((((w31.setCell ⟨gb421,0,none⟩ (.int .i64 t416)).setCell ⟨gb421,1,none⟩ (.int .i64 t417)).setCell ⟨gb421,2,none⟩ (.slice Ao35 t418.length co35)).setCell ⟨gb421,1,none⟩ (.int .i64 (wrap64 (t417 - 1)))).cell? ⟨gb421,1,none⟩ = some (.int .i64 (wrap64 (t417 - 1))):=(blk_cell hdblk 1).trans rfl;have hdc2:((((w31.setCell ⟨gb421,0,none⟩ (.int .i64 t416)).setCell ⟨gb421,1,none⟩ (.int .i64 t417)).setCell ⟨gb421,2,none⟩ (.slice Ao35 t418.length co35)).setCell ⟨gb421,1,none⟩ (.int .i64 (wrap64 (t417 - 1)))).cell? ⟨gb421,2,none⟩ = some (.slice Ao35 t418.length co35):=(blk_cell hdblk 2).trans rfl;clear hdblk;obtain ⟨hcz36_0,hcz36_1,hcz36_2,hfz36_0,hfz36_1,hfz36_2⟩:=cz3 BK404.out))
  refine bodyPost_ret (results_ct rfl _ _ gb404 29 #[.int .i64 t416,.int .i64 (wrap64 (t417 - 1)),.slice Ao35 t418.length co35] (0,0) _ rfl (by (with_reducible repeat (first | refine blk_drewN ?_ _ | refine blk_drew ?_ | refine blk_alloc ?_ _));refine blk_put (cs:=#[.int .i64 t416,.int .i64 (wrap64 (t417 - 1)),.slice none 0 0]) ?_ 2 _ rfl;(with_reducible repeat (first | refine blk_drewN ?_ _ | refine blk_drew ?_ | refine blk_alloc ?_ _));refine blk_put (cs:=#[.int .i64 t416,.int .i64 0,.slice none 0 0]) ?_ 1 _ rfl;(with_reducible repeat (first | refine blk_drewN ?_ _ | refine blk_drew ?_ | refine blk_alloc ?_ _));refine blk_put (cs:=#[.int .i64 0,.int .i64 0,.slice none 0 0]) ?_ 0 _ rfl;(with_reducible repeat (first | refine blk_drewN ?_ _ | refine blk_drew ?_ | refine blk_alloc ?_ _));refine blk_far ?_ NB404_421.out _;(with_reducible repeat (first | refine blk_drewN ?_ _ | refine blk_drew ?_ | refine blk_alloc ?_ _));refine blk_far ?_ NB404_421.out _;(with_reducible repeat (first | refine blk_drewN ?_ _ | refine blk_drew ?_ | refine blk_alloc ?_ _));refine blk_far ?_ NB404_421.out _;(with_reducible repeat (first | refine blk_drewN ?_ _ | refine blk_drew ?_ | refine blk_alloc ?_ _));refine blk_far ?_ NB404_421.out _;(with_reducible repeat (first | refine blk_drewN ?_ _ | refine blk_drew ?_ | refine blk_alloc ?_ _));exact BK404.out) Try.underlying29 rfl (by kernel_rfl)) rfl ?_
  exact ⟨_,rfl,by exact Kd.N_mono (Kd.N_far (p:=⟨gb404,2,none⟩) (Kd.N_far (p:=⟨gb404,1,none⟩) (Kd.N_far (p:=⟨gb404,0,none⟩) (Kd.N_far (p:=⟨gb421,1,none⟩) (Kd.N_far (p:=⟨gb421,2,none⟩) (Kd.N_far (p:=⟨gb421,1,none⟩) (Kd.N_far (p:=⟨gb421,0,none⟩) (Kd.N_mono (Kd.N_mono HO420.out (fun k_ hk=>(⟨hk,hk.2⟩:_∧k_ ≠ gb421))) (fun k_ hk=>(⟨hk,hk.1.1.2.2⟩:_∧k_ ≠ gb404))) (fun _ hk=>hk.1.2) (.int .i64 t416)) (fun _ hk=>hk.1.2) (.int .i64 t417)) (fun _ hk=>hk.1.2) (.slice Ao35 t418.length co35)) (fun _ hk=>hk.1.2) (.int .i64 (wrap64 (t417 - 1)))) (fun _ hk=>hk.2) (.int .i64 t416)) (fun _ hk=>hk.2) (.int .i64 (wrap64 (t417 - 1)))) (fun _ hk=>hk.2) (.slice Ao35 t418.length co35)) (fun _ hk=>hk.1.1.1.1),bB⟩
 rw [if_neg c14] at H
 have c14b0:(a0_0 == 2) = false:=beq_eq_false_iff_ne.mpr c14
 have c14b1:(a0_0 != 2) = true:=bne_iff_ne.mpr c14
 have HC37:=aQ H
 clear H
 go_enter Try.func49,Try.ntmps49
 go_upto_if 37 with (first | ((with_reducible refine gate_dst (N:=1) rfl ?_);refine box1 (N:=1) (cs:=#[.int .i64 a0_0,.int .i64 a0_1,.slice A0_2 l0_2.length c0_2]) (t:=29) ?_;intro gb403 hg w38 hbox hb;replace HO0_2:=aQ (Kd.V_below (Kd.V_elderB HO0_2.out gb403 (Nat.le_of_eq hg.symm)) hb);have BK403:=aQ (hbox);have GW403:=aQ (gB:w.heap.size ≤ gb403);have GE403:=GW403;replace HB:=aQ (below_step bB hb);clear hb hbox hg) | ((with_reducible refine gate_dst (N:=2) rfl ?_);refine box1 (N:=2) (cs:=#[.int .i64 0,.int .i64 0,.slice none 0 0]) (t:=29) ?_;intro gb404 hg w39 hbox hb;replace HO0_2:=aQ (Kd.V_below (Kd.V_elderB HO0_2.out gb404 (Nat.le_of_eq hg.symm)) hb);have BK404:=aQ (hbox);have GW404:=aQ (gB:w.heap.size ≤ gb404);have GE404:=GW404;replace HB:=aQ (below_step bB hb);have NB403_404:=aQ ((by rw [hg];exact Nat.ne_of_lt (blk_lt BK403.out):gb403 ≠ gb404));have NB404_403:=aQ NB403_404.out.symm;replace BK403:=aQ (blk_below BK403.out hb);clear hb hbox hg;have hnb40:=NB403_404.out;have hnc40:=NB404_403.out;obtain ⟨hcz41_0,hcz41_1,hcz41_2,hfz41_0,hfz41_1,hfz41_2⟩:=cz3 BK403.out))
 (try simp only [Act.put,List.setIfInBounds_toArray,List.set_cons_zero,List.set_cons_succ])
 go_cut [37] (fun v37 wc=>∃ (kq:Nat) (x37_36:Bool),v37 = .bool x37_36∧Aside0 (impl_pass.j0 kq x37_36 a0_0 a0_1 l0_2 = some (r1,r2,r3,r4))∧Aside0 (kq ≤ k)∧Aside0 (Kd.V k29 29 wc w.heap.size (fun k_=>(P0_2_ k_ ∨ w.heap.size ≤ k_)∧k_ ≠ gb403∧k_ ≠ gb404) (.slice A0_2 l0_2.length c0_2) l0_2)∧Aside0 (wc.heap[gb403]? = some (.cells #[.int .i64 a0_0,.int .i64 a0_1,(.slice A0_2 l0_2.length c0_2)] 29 (0,0)))∧Aside0 (wc.heap[gb404]? = some (.cells #[.int .i64 0,.int .i64 0,(.slice none 0 0)] 29 (0,0)))∧Aside0 (Below w.heap.size w wc))
 case first =>
  have H:=HC37.out
  clear HC37
  by_cases c42:a0_0 = 3;rotate_left
  ·rw [if_neg c42] at H
   have c42b0:(a0_0 == 3) = false:=beq_eq_false_iff_ne.mpr c42
   have c42b1:(a0_0 != 3) = true:=bne_iff_ne.mpr c42
   (first | rw [c42b0] | (simp only [i64_w,i32_w];rw [c42b0]) | skip)
   have H':=aQ H
   clear H
   go_wp2
   go_meet
   case rel=>exact ⟨_,((a0_0 == 4)),rfl,H',⟨by first | omega | exact Nat.le_refl _⟩,⟨by exact Kd.V_mono HO0_2.out (fun _ hk=>⟨hk.1.1,⟨hk.1.2,hk.2⟩⟩)⟩,⟨BK403.out⟩,⟨BK404.out⟩,⟨bB⟩⟩
  rw [if_pos c42] at H
  have c42b0:(a0_0 == 3) = true:=beq_iff_eq.mpr c42
  have c42b1:(a0_0 != 3) = false:=bne_eq_false_iff_eq.mpr c42
  clear c42
  (first | rw [c42b0] | (simp only [i64_w,i32_w];rw [c42b0]) | skip)
  have H':=aQ H
  clear H
  go_wp2
  go_meet
  case rel=>exact ⟨_,((a0_0 == 3)),eS,H',⟨by first | omega | exact Nat.le_refl _⟩,⟨by exact Kd.V_mono HO0_2.out (fun _ hk=>⟨hk.1.1,⟨hk.1.2,hk.2⟩⟩)⟩,⟨BK403.out⟩,⟨BK404.out⟩,⟨bB⟩⟩
 case rest =>
  clear HC37
  try clear c2
  try clear c2b0
  try clear c2b1
  try clear c14
  try clear c14b0
  try clear c14b1
  try clear hcz41_0
  try clear hcz41_1
  try clear hcz41_2
  try clear hfz41_0
  try clear hfz41_1
  try clear hfz41_2
  obtain ⟨kq,x37_36,rfl,HA,HJ36,HO_404002,BK403,BK404,HB⟩:=hcut
  cases kq with
  | zero=>exact absurd HA.out (by simp [impl_pass.j0])
  | succ kj36 =>
   have H:=HA.out
   clear HA
   simp only [impl_pass.j0] at H
   by_cases c43:x37_36 = true
   ·subst c43
    have H1:(if 0 < (l0_2.length:Int) then ((impl_pass.f kj36 ((rd_T29 l0_2 0).f0) ((rd_T29 l0_2 0).f1) ((rd_T29 l0_2 0).f2)).bind fun bt423=>(if 1 < (l0_2.length:Int) then ((impl_pass.f kj36 ((rd_T29 l0_2 1).f0) ((rd_T29 l0_2 1).f1) ((rd_T29 l0_2 1).f2)).bind fun bt431=>(if bt423.2.2.2 = true then (impl_pass.j1 kj36 (!bt431.2.2.2) a0_0 a0_1 l0_2 bt423.1 bt423.2.1 bt423.2.2.1 bt431.1 bt431.2.1 bt431.2.2.1) else (impl_pass.j1 kj36 true a0_0 a0_1 l0_2 bt423.1 bt423.2.1 bt423.2.2.1 bt431.1 bt431.2.1 bt431.2.2.1))) else (none))) else (none)) = some (r1,r2,r3,r4):=by rw [if_pos rfl] at H;exact H
    clear H
    have H:=H1
    clear H1
    by_cases c44:0 < (l0_2.length:Int);rotate_left
    ·rw [if_neg c44] at H
     exact absurd H (by simp)
    rw [if_pos c44] at H
    have c44b0:decide (0 < (l0_2.length:Int)) = true:=decide_eq_true c44
    have c44b1:decide (0 < l0_2.length) = true:=decide_eq_true (by omega)
    clear c44
    obtain ⟨⟨t423,t424,t425,t428⟩,A45,H⟩:=bQ H
    dsimp only at H
    by_cases c46:1 < (l0_2.length:Int);rotate_left
    ·rw [if_neg c46] at H
     exact absurd H (by simp)
    rw [if_pos c46] at H
    have c46b0:decide (1 < (l0_2.length:Int)) = true:=decide_eq_true c46
    have c46b1:decide (1 < l0_2.length) = true:=decide_eq_true (by omega)
    clear c46
    obtain ⟨⟨t431,t432,t433,t436⟩,A47,H⟩:=bQ H
    dsimp only at H
    have HC48:=aQ H
    clear H
    have hnb49:=NB403_404.out
    have hnc49:=NB404_403.out
    obtain ⟨hcz50_0,hcz50_1,hcz50_2,hfz50_0,hfz50_1,hfz50_2⟩:=cz3 BK403.out
    have p422:0 ≤ (0:Int):=(by omega)
    have q422:0 < (l0_2.length:Int):=of_decide_eq_true (by assumption)
    obtain ⟨ad422,A422_2,c422_2,e422,hx422_0,hx422_1,hx422_2,hl422_2,hi422_2⟩:=at_T29 (Kd.V_reads' HO_404002.out).2.2 0 p422 q422
    cases e422
    obtain ⟨ce422,hce422,hMe422,hcc422⟩:=Kd.V_get HO_404002.out z29 0 p422 (by first | exact q422 | exact of_decide_eq_true (by assumption) | (have e_:=(Kd.V_reads' HO_404002.out).1;omega))
    obtain ⟨ua422_2,uc422_2,rfl,ul422_2,ge422_2⟩:=k29_openF hMe422
    have hv422_2:=hcc422 2 _ rfl
    rw [add_field _ _ 2 (by omega)] at hv422_2
    replace hv422_2:=Option.some.inj (hv422_2.symm.trans hx422_2)
    injection hv422_2 with hva_ hvn_ hvc_
    rw [hva_] at ge422_2
    rw [hvc_] at ul422_2
    have HL422_2:=aQ (show Kd.V k29 29 _ w.heap.size _ _ ((rd_T29 l0_2 0).f2) from Kd.V_mk ul422_2 ge422_2)
    clear hva_ hvn_ hvc_ ge422_2 ul422_2
    clear hcc422 hce422
    have qi422:(0 < l0_2.length) = True:=eq_true (by omega)
    (try rw [show ((0:Int)).toNat = 0 from rfl,show 0 * 3 = 0 from rfl] at hx422_0 hx422_1 hx422_2)
    (try rw [Addr.add_zero'] at hx422_0)
    (try rw [Addr.add_zero'] at hx422_1)
    (try rw [Addr.add_zero'] at hx422_2)
    have HR422_2:=aQ hi422_2
    have HC422_2:=aQ hl422_2
    clear hi422_2 hl422_2
    replace p422:=eq_true p422
    replace q422:=eq_true q422
    go_upto_region 14 with (first | ((with_reducible refine gate_callee (f:=49) rfl ?_);refine goesL_ (some 45) rfl rfl Try.func49 (by kernel_rfl) rfl #[.agg #[.int .i64 ((rd_T29 l0_2 0).f0),.int .i64 ((rd_T29 l0_2 0).f1),.slice A422_2 ((rd_T29 l0_2 0).f2).length c422_2]] rfl mP ?_;(with_reducible refine (ih kj36 (by have:=HJ36.out;omega) ((rd_T29 l0_2 0).f0) ((rd_T29 l0_2 0).f1) (fun k_=>((P0_2_ k_ ∨ w.heap.size ≤ k_)∧(k_ ≠ gb403∧k_ ≠ gb404))) _ _ ((rd_T29 l0_2 0).f2) t423 t424 t425 t428 _ ?side1 A45.out).mono ?_);(case side1=>exact HL422_2.out);rintro e w51 ⟨v426,rfl,ho0,hb⟩;refine ⟨_,rfl,?_⟩;replace HO_404002:=aQ (Kd.V_elder' (nV HO_404002.out) (Kd.N_base ho0) hb);replace HL422_2:=aQ (Kd.V_elder' (nV HL422_2.out) (Kd.N_base ho0) hb);have HO427:=aQ (Kd.N_lower (Kd.N_mono (ok':=fun k_=>(P0_2_ k_ ∨ w.heap.size ≤ k_)∧k_ ≠ gb403∧k_ ≠ gb404) ho0 (fun k_ hk_=>⟨Or.elim hk_ (fun hs_=>hs_.1) (fun hn_=>(.inr (Nat.le_trans (below_size bB) hn_))),Or.elim hk_ (fun hs_=>hs_.2.1) (fun hn_=>(Kd.freshB (nB BK403.out) k_ hn_)),Or.elim hk_ (fun hs_=>hs_.2.2) (fun hn_=>(Kd.freshB (nB BK404.out) k_ hn_))⟩)) (below_size bB));replace BK403:=aQ (blk_below (nB BK403.out) hb);replace BK404:=aQ (blk_below (nB BK404.out) hb);replace HR422_2:=aQ (Kd.C_below (nC HR422_2.out) hb);replace HB:=aQ (below_step bB hb);(try clear hb);(try clear ho0)) | ((with_reducible refine gate_dst (N:=5) rfl ?_);refine box1 (N:=5) (cs:=#[.int .i64 0,.int .i64 0,.slice none 0 0]) (t:=29) ?_;intro gb429 hg w52 hbox hb;replace HO_404002:=aQ (Kd.V_below (Kd.V_elderB (nV HO_404002.out) gb429 (Nat.le_of_eq hg.symm)) hb);replace HL422_2:=aQ (Kd.V_below (Kd.V_elderB (nV HL422_2.out) gb429 (Nat.le_of_eq hg.symm)) hb);replace HO427:=aQ (Kd.N_below (Kd.N_elderB (nN HO427.out) gb429 (Nat.le_of_eq hg.symm)) hb);replace HR422_2:=aQ (Kd.C_below (nC HR422_2.out) hb);have BK429:=aQ (hbox);have GW429:=aQ (gB:w.heap.size ≤ gb429);have GE429:=GW429;replace HB:=aQ (below_step bB hb);have NB403_429:=aQ ((by rw [hg];exact Nat.ne_of_lt (blk_lt (nB BK403.out)):gb403 ≠ gb429));have NB429_403:=aQ NB403_429.out.symm;replace BK403:=aQ (blk_below (nB BK403.out) hb);have NB404_429:=aQ ((by rw [hg];exact Nat.ne_of_lt (blk_lt (nB BK404.out)):gb404 ≠ gb429));have NB429_404:=aQ NB404_429.out.symm;replace BK404:=aQ (blk_below (nB BK404.out) hb);clear hb hbox hg;have hnb53:=NB429_403.out;have hnc53:=NB403_429.out;have hnb54:=NB429_404.out;have hnc54:=NB404_429.out;obtain ⟨hcz55_0,hcz55_1,hcz55_2,hfz55_0,hfz55_1,hfz55_2⟩:=cz3 BK429.out;obtain ⟨Ao56,co56,eo56⟩:=Kd.N_slice HO427.out;subst eo56) | ((with_reducible refine gate_store (t:=29) (p:=5) rfl ?_);refine store_event (t:=29) (p:=5) (v:=?vo_w57) (w1:=(((w52.setCell ⟨gb429,0,none⟩ (.int .i64 t423)).setCell ⟨gb429,1,none⟩ (.int .i64 t424)).setCell ⟨gb429,2,none⟩ (.slice Ao56 t425.length co56))) ?hg ?ho ?hn ?hr ?_;(case ho=>rfl);(case hg=>rfl);(case hn=>rfl);(case hr=>first | (go_simp;done) | (go_simp;rfl));intro w57 hw;have n0_:Aside0 (Kd.V k29 29 w57 w.heap.size (fun k_=>(P0_2_ k_ ∨ w.heap.size ≤ k_)∧some k_ ≠ (.slice Ao56 t425.length co56:Value).ownBlock∧k_ ≠ gb403∧k_ ≠ gb404∧k_ ≠ gb429) (.slice (some ad422) l0_2.length c0_2) l0_2):=⟨(by rw [hw];exact (Kd.V_mono (nFV (g:=gb429) HO_404002.out (fun k_ hk=>hk.2)) (fun _ hk=>⟨hk.1.1.1,⟨hk.1.2,⟨hk.1.1.2.1,⟨hk.1.1.2.2,hk.2⟩⟩⟩⟩)))⟩;have n1_:Aside0 (Kd.V k29 29 w57 w.heap.size (fun k_=>(P0_2_ k_ ∨ w.heap.size ≤ k_)∧some k_ ≠ (.slice Ao56 t425.length co56:Value).ownBlock∧k_ ≠ gb403∧k_ ≠ gb404∧k_ ≠ gb429) (.slice A422_2 ((rd_T29 l0_2 0).f2).length c422_2) ((rd_T29 l0_2 0).f2)):=⟨(by rw [hw];exact (Kd.V_mono (nFV (g:=gb429) HL422_2.out (fun k_ hk=>hk.2)) (fun _ hk=>⟨hk.1.1.1,⟨hk.1.2,⟨hk.1.1.2.1,⟨hk.1.1.2.2,hk.2⟩⟩⟩⟩)))⟩;have n2_:Aside0 (Kd.N k29 29 w57 w.heap.size (fun k_=>(P0_2_ k_ ∨ w.heap.size ≤ k_)∧k_ ≠ gb403∧k_ ≠ gb404∧k_ ≠ gb429) (.slice Ao56 t425.length co56) t425):=⟨(by rw [hw];exact (Kd.N_mono (nFN (g:=gb429) HO427.out (fun k_ hk=>hk.2)) (fun _ hk=>⟨hk.1.1,⟨hk.1.2.1,⟨hk.1.2.2,hk.2⟩⟩⟩)))⟩;have n3_:Aside0 (w57.heap[gb403]? = some (.cells #[.int .i64 a0_0,.int .i64 a0_1,.slice (some ad422) l0_2.length c0_2] 29 (0,0))):=⟨(by rw [hw];exact bF)⟩;have n4_:Aside0 (w57.heap[gb404]? = some (.cells #[.int .i64 0,.int .i64 0,.slice none 0 0] 29 (0,0))):=⟨(by rw [hw];exact bF)⟩;have n5_:Aside0 (w57.heap[gb429]? = some (.cells #[.int .i64 t423,.int .i64 t424,.slice Ao56 t425.length co56] 29 (0,0))):=⟨(by rw [hw];exact bP)⟩;have n6_:Aside0 (Below w.heap.size w w57):=⟨(by rw [hw];exact bB)⟩;clear hw;clear HO_404002;clear HL422_2;clear HO427;clear BK403;clear BK404;clear BK429;clear HB;have HO_404002:=n0_;have HL422_2:=n1_;have HO427:=n2_;have BK403:=n3_;have BK404:=n4_;have BK429:=n5_;have HB:=n6_;clear n0_ n1_ n2_ n3_ n4_ n5_ n6_;obtain ⟨hcz58_0,hcz58_1,hcz58_2,hfz58_0,hfz58_1,hfz58_2⟩:=cz3 BK403.out;have p430:0 ≤ (1:Int):=(by omega);have q430:1 < (l0_2.length:Int):=of_decide_eq_true (by first | (with_reducible assumption) | assumption);obtain ⟨ad430,A430_2,c430_2,e430,hx430_0,hx430_1,hx430_2,hl430_2,hi430_2⟩:=at_T29 (Kd.V_reads' HO_404002.out).2.2 1 p430 q430;obtain rfl:ad422 = ad430:=(by injection e430);obtain ⟨ce430,hce430,hMe430,hcc430⟩:=Kd.V_get HO_404002.out z29 1 p430 (by first | exact q430 | exact of_decide_eq_true (by first | (with_reducible assumption) | assumption) | (have e_:=(Kd.V_reads' HO_404002.out).1;omega));obtain ⟨ua430_2,uc430_2,rfl,ul430_2,ge430_2⟩:=k29_openF hMe430;have hv430_2:=hcc430 2 _ rfl;rw [add_field _ _ 2 (by omega)] at hv430_2;replace hv430_2:=Option.some.inj (hv430_2.symm.trans hx430_2);injection hv430_2 with hva_ hvn_ hvc_;rw [hva_] at ge430_2;rw [hvc_] at ul430_2;have HL430_2:=aQ (show Kd.V k29 29 _ w.heap.size _ _ ((rd_T29 l0_2 1).f2) from Kd.V_mk ul430_2 ge430_2);clear hva_ hvn_ hvc_ ge430_2 ul430_2;clear hcc430 hce430;(try simp only [show (1:Int).toNat = 1 from rfl,Nat.reduceMul,Nat.reduceEqDiff,Go.Addr.add,↓reduceIte] at hx430_0);(try simp only [show (1:Int).toNat = 1 from rfl,Nat.reduceMul,Nat.reduceEqDiff,Go.Addr.add,↓reduceIte] at hx430_1);(try simp only [show (1:Int).toNat = 1 from rfl,Nat.reduceMul,Nat.reduceEqDiff,Go.Addr.add,↓reduceIte] at hx430_2);have qi430:(1 < l0_2.length) = True:=eq_true (by omega);(try rw [show ((1:Int)).toNat = 1 from rfl,show 1 * 3 = 3 from rfl] at hx430_0 hx430_1 hx430_2);have HR430_2:=aQ hi430_2;have HC430_2:=aQ hl430_2;clear hi430_2 hl430_2;replace p430:=eq_true p430;replace q430:=eq_true q430) | ((with_reducible refine gate_callee (f:=49) rfl ?_);refine goesL_ (some 53) rfl rfl Try.func49 (by kernel_rfl) rfl #[.agg #[.int .i64 ((rd_T29 l0_2 1).f0),.int .i64 ((rd_T29 l0_2 1).f1),.slice A430_2 ((rd_T29 l0_2 1).f2).length c430_2]] rfl mP ?_;(with_reducible refine (ih kj36 (by have:=HJ36.out;omega) ((rd_T29 l0_2 1).f0) ((rd_T29 l0_2 1).f1) (fun k_=>((P0_2_ k_ ∨ w.heap.size ≤ k_)∧(some k_ ≠ (.slice Ao56 t425.length co56:Value).ownBlock∧(k_ ≠ gb403∧(k_ ≠ gb404∧k_ ≠ gb429))))) _ _ ((rd_T29 l0_2 1).f2) t431 t432 t433 t436 _ ?side1 A47.out).mono ?_);(case side1=>exact HL430_2.out);rintro e w59 ⟨v434,rfl,ho0,hb⟩;refine ⟨_,rfl,?_⟩;have n0_:=aQ (Kd.V_elder' (nV HO_404002.out) (Kd.N_base ho0) hb);have n1_:=aQ (Kd.V_elder' (nV HL422_2.out) (Kd.N_base ho0) hb);have n2_:=aQ (Kd.N_elder' (nN HO427.out) (Kd.N_base ho0) hb);have n3_:=aQ (Kd.V_elder' (nV HL430_2.out) (Kd.N_base ho0) hb);have n4_:=aQ (Kd.N_lower (Kd.N_mono (ok':=fun k_=>(P0_2_ k_ ∨ w.heap.size ≤ k_)∧some k_ ≠ (.slice Ao56 t425.length co56:Value).ownBlock∧k_ ≠ gb403∧k_ ≠ gb404∧k_ ≠ gb429) ho0 (fun k_ hk_=>⟨Or.elim hk_ (fun hs_=>hs_.1) (fun hn_=>(.inr (Nat.le_trans (below_size bB) hn_))),Or.elim hk_ (fun hs_=>hs_.2.1) (fun hn_=>(Kd.fresh' (Kd.N_lt (nN HO427.out)) k_ hn_)),Or.elim hk_ (fun hs_=>hs_.2.2.1) (fun hn_=>(Kd.freshB (nB BK403.out) k_ hn_)),Or.elim hk_ (fun hs_=>hs_.2.2.2.1) (fun hn_=>(Kd.freshB (nB BK404.out) k_ hn_)),Or.elim hk_ (fun hs_=>hs_.2.2.2.2) (fun hn_=>(Kd.freshB (nB BK429.out) k_ hn_))⟩)) (below_size bB));have n5_:=aQ (blk_below (nB BK403.out) hb);have n6_:=aQ (blk_below (nB BK404.out) hb);have n8_:=aQ (blk_below (nB BK429.out) hb);have n9_:=aQ (Kd.C_below (nC HR430_2.out) hb);have n10_:=aQ (below_step bB hb);clear HO_404002;clear HL422_2;clear HO427;clear HL430_2;clear BK403;clear BK404;(try clear HR422_2);clear BK429;clear HR430_2;clear HB;have HO_404002:=n0_;have HL422_2:=n1_;have HO427:=n2_;have HL430_2:=n3_;have HO435:=n4_;have BK403:=n5_;have BK404:=n6_;have BK429:=n8_;have HR430_2:=n9_;have HB:=n10_;clear n0_ n1_ n2_ n3_ n4_ n5_ n6_ n8_ n9_ n10_;(try clear hb);(try clear ho0)) | ((with_reducible refine gate_dst (N:=7) rfl ?_);refine box1 (N:=7) (cs:=#[.int .i64 0,.int .i64 0,.slice none 0 0]) (t:=29) ?_;intro gb437 hg w60 hbox hb;have n0_:=aQ (Kd.V_below (Kd.V_elderB (nV HO_404002.out) gb437 (Nat.le_of_eq hg.symm)) hb);have n1_:=aQ (Kd.V_below (Kd.V_elderB (nV HL422_2.out) gb437 (Nat.le_of_eq hg.symm)) hb);have n2_:=aQ (Kd.N_below (Kd.N_elderB (nN HO427.out) gb437 (Nat.le_of_eq hg.symm)) hb);have n3_:=aQ (Kd.V_below (Kd.V_elderB (nV HL430_2.out) gb437 (Nat.le_of_eq hg.symm)) hb);have n4_:=aQ (Kd.N_below (Kd.N_elderB (nN HO435.out) gb437 (Nat.le_of_eq hg.symm)) hb);have n5_:=aQ (blk_below (nB BK403.out) hb);have n6_:=aQ (blk_below (nB BK404.out) hb);have n8_:=aQ (blk_below (nB BK429.out) hb);have n9_:=aQ (Kd.C_below (nC HR430_2.out) hb);have n10_:=aQ (below_step bB hb);have n11_:=aQ (hbox);have n12_:=aQ ((by rw [hg];exact (below_size bB):w.heap.size ≤ gb437));have n13_:=aQ ((by rw [hg];exact (below_size bB):w.heap.size ≤ gb437));have n14_:=aQ ((by rw [hg];exact Nat.ne_of_lt (blk_lt (nB BK403.out)):gb403 ≠ gb437));have n15_:=aQ ((by rw [hg];exact Nat.ne_of_gt (blk_lt (nB BK403.out)):gb437 ≠ gb403));have n16_:=aQ ((by rw [hg];exact Nat.ne_of_lt (blk_lt (nB BK404.out)):gb404 ≠ gb437));have n17_:=aQ ((by rw [hg];exact Nat.ne_of_gt (blk_lt (nB BK404.out)):gb437 ≠ gb404));have n18_:=aQ ((by rw [hg];exact Nat.ne_of_lt (blk_lt (nB BK429.out)):gb429 ≠ gb437));have n19_:=aQ ((by rw [hg];exact Nat.ne_of_gt (blk_lt (nB BK429.out)):gb437 ≠ gb429));clear HO_404002;clear HL422_2;clear HO427;clear HL430_2;clear HO435;clear BK403;clear BK404;clear BK429;clear HR430_2;clear HB;have HO_404002:=n0_;have HL422_2:=n1_;have HO427:=n2_;have HL430_2:=n3_;have HO435:=n4_;have BK403:=n5_;have BK404:=n6_;have BK429:=n8_;have HR430_2:=n9_;have HB:=n10_;have BK437:=n11_;have GW437:=n12_;have GE437:=n13_;have NB403_437:=n14_;have NB437_403:=n15_;have NB404_437:=n16_;have NB437_404:=n17_;have NB429_437:=n18_;have NB437_429:=n19_;clear n0_ n1_ n2_ n3_ n4_ n5_ n6_ n8_ n9_ n10_ n11_ n12_ n13_ n14_ n15_ n16_ n17_ n18_ n19_;clear hb hbox hg;have hnb61:=NB437_403.out;have hnc61:=NB403_437.out;have hnb62:=NB437_404.out;have hnc62:=NB404_437.out;have hnb63:=NB437_429.out;have hnc63:=NB429_437.out;obtain ⟨hcz64_0,hcz64_1,hcz64_2,hfz64_0,hfz64_1,hfz64_2⟩:=cz3 BK437.out;obtain ⟨Ao65,co65,eo65⟩:=Kd.N_slice HO435.out;subst eo65))
    (try simp only [Act.put,List.setIfInBounds_toArray,List.set_cons_zero,List.set_cons_succ])
    go_cut [61] (fun v61 wc=>∃ (kq:Nat) (x61_47:Bool),v61 = .bool x61_47∧Aside0 (impl_pass.j1 kq x61_47 a0_0 a0_1 l0_2 t423 t424 t425 t431 t432 t433 = some (r1,r2,r3,r4))∧Aside0 (kq ≤ kj36)∧Aside0 (Kd.V k29 29 wc w.heap.size (fun k_=>(P0_2_ k_ ∨ w.heap.size ≤ k_)∧some k_ ≠ ((.slice Ao56 t425.length co56):Value).ownBlock∧some k_ ≠ ((.slice Ao65 t433.length co65):Value).ownBlock∧k_ ≠ gb403∧k_ ≠ gb404∧k_ ≠ gb429∧k_ ≠ gb437) (.slice (some ad422) l0_2.length c0_2) l0_2)∧Aside0 (Kd.N k29 29 wc w.heap.size (fun k_=>(P0_2_ k_ ∨ w.heap.size ≤ k_)∧some k_ ≠ ((.slice Ao65 t433.length co65):Value).ownBlock∧k_ ≠ gb403∧k_ ≠ gb404∧k_ ≠ gb429∧k_ ≠ gb437) (.slice Ao56 t425.length co56) t425)∧Aside0 (Kd.N k29 29 wc w.heap.size (fun k_=>(P0_2_ k_ ∨ w.heap.size ≤ k_)∧some k_ ≠ ((.slice Ao56 t425.length co56):Value).ownBlock∧k_ ≠ gb403∧k_ ≠ gb404∧k_ ≠ gb429∧k_ ≠ gb437) (.slice Ao65 t433.length co65) t433)∧Aside0 (wc.heap[gb403]? = some (.cells #[.int .i64 a0_0,.int .i64 a0_1,(.slice (some ad422) l0_2.length c0_2)] 29 (0,0)))∧Aside0 (wc.heap[gb404]? = some (.cells #[.int .i64 0,.int .i64 0,(.slice none 0 0)] 29 (0,0)))∧Aside0 (wc.heap[gb429]? = some (.cells #[.int .i64 t423,.int .i64 t424,(.slice Ao56 t425.length co56)] 29 (0,0)))∧Aside0 (wc.heap[gb437]? = some (.cells #[.int .i64 t431,.int .i64 t432,(.slice Ao65 t433.length co65)] 29 (0,0)))∧Aside0 (Kd.C k29 wc A422_2 ((rd_T29 l0_2 0).f2).length ((rd_T29 l0_2 0).f2))∧Aside0 (Kd.C k29 wc A430_2 ((rd_T29 l0_2 1).f2).length ((rd_T29 l0_2 1).f2))∧Aside0 (Below w.heap.size w wc))
    case first =>
     have H:=HC48.out
     clear HC48
     by_cases c66:t428 = true
     ·subst c66
      have H1:(impl_pass.j1 kj36 (!t436) a0_0 a0_1 l0_2 t423 t424 t425 t431 t432 t433) = some (r1,r2,r3,r4):=by rw [if_pos rfl] at H;exact H
      clear H
      have H:=H1
      clear H1
      have H':=aQ H
      clear H
      go_wp2
      go_meet
      case rel=>exact ⟨_,(!t436),rfl,H',⟨by have:=HJ36.out;first | omega | exact Nat.le_refl _⟩,⟨by exact Kd.V_mono (nFV (g:=gb437) HO_404002.out (fun k_ hk=>hk.2)) (fun _ hk=>⟨hk.1.1.1,⟨hk.1.1.2.1,⟨hk.1.2,⟨hk.1.1.2.2.1,⟨hk.1.1.2.2.2.1,⟨hk.1.1.2.2.2.2,hk.2⟩⟩⟩⟩⟩⟩)⟩,⟨by exact Kd.N_mono (nFN (g:=gb437) HO427.out (fun k_ hk=>hk.2)) (fun _ hk=>⟨hk.1.1.1,⟨hk.1.2,⟨hk.1.1.2.1,⟨hk.1.1.2.2.1,⟨hk.1.1.2.2.2,hk.2⟩⟩⟩⟩⟩)⟩,⟨by exact Kd.N_mono (nFN (g:=gb437) HO435.out (fun k_ hk=>hk.2)) (fun _ hk=>⟨hk.1.1,⟨hk.1.2.1,⟨hk.1.2.2.1,⟨hk.1.2.2.2.1,⟨hk.1.2.2.2.2,hk.2⟩⟩⟩⟩⟩)⟩,⟨bF⟩,⟨bF⟩,⟨bF⟩,⟨bP⟩,⟨(Kd.V_reads' (by exact (Kd.V_mono (Kd.V_far (p:=⟨gb437,2,none⟩) (Kd.V_far (p:=⟨gb437,1,none⟩) (Kd.V_far (p:=⟨gb437,0,none⟩) (Kd.V_mono HL422_2.out (fun k_ hk=>(⟨hk,hk.2⟩:_∧k_ ≠ gb437))) (fun _ hk=>hk.2) (.int .i64 t431)) (fun _ hk=>hk.2) (.int .i64 t432)) (fun _ hk=>hk.2) (.slice Ao65 t433.length co65)) (fun _ h_=>h_.1)))).2.2⟩,⟨(Kd.V_reads' (by exact (Kd.V_mono (Kd.V_far (p:=⟨gb437,2,none⟩) (Kd.V_far (p:=⟨gb437,1,none⟩) (Kd.V_far (p:=⟨gb437,0,none⟩) (Kd.V_mono HL430_2.out (fun k_ hk=>(⟨hk,hk.2⟩:_∧k_ ≠ gb437))) (fun _ hk=>hk.2) (.int .i64 t431)) (fun _ hk=>hk.2) (.int .i64 t432)) (fun _ hk=>hk.2) (.slice Ao65 t433.length co65)) (fun _ h_=>h_.1)))).2.2⟩,⟨bB⟩⟩
     ·replace c66:=Bool.eq_false_iff.mpr c66
      subst c66
      have H1:(impl_pass.j1 kj36 true a0_0 a0_1 l0_2 t423 t424 t425 t431 t432 t433) = some (r1,r2,r3,r4):=by rw [if_neg (show ¬ (false = true) by decide)] at H;exact H
      clear H
      have H:=H1
      clear H1
      have H':=aQ H
      clear H
      go_wp2
      go_meet
      case rel=>exact ⟨_,(true),rfl,H',⟨by have:=HJ36.out;first | omega | exact Nat.le_refl _⟩,⟨by exact Kd.V_mono (nFV (g:=gb437) HO_404002.out (fun k_ hk=>hk.2)) (fun _ hk=>⟨hk.1.1.1,⟨hk.1.1.2.1,⟨hk.1.2,⟨hk.1.1.2.2.1,⟨hk.1.1.2.2.2.1,⟨hk.1.1.2.2.2.2,hk.2⟩⟩⟩⟩⟩⟩)⟩,⟨by exact Kd.N_mono (nFN (g:=gb437) HO427.out (fun k_ hk=>hk.2)) (fun _ hk=>⟨hk.1.1.1,⟨hk.1.2,⟨hk.1.1.2.1,⟨hk.1.1.2.2.1,⟨hk.1.1.2.2.2,hk.2⟩⟩⟩⟩⟩)⟩,⟨by exact Kd.N_mono (nFN (g:=gb437) HO435.out (fun k_ hk=>hk.2)) (fun _ hk=>⟨hk.1.1,⟨hk.1.2.1,⟨hk.1.2.2.1,⟨hk.1.2.2.2.1,⟨hk.1.2.2.2.2,hk.2⟩⟩⟩⟩⟩)⟩,⟨bF⟩,⟨bF⟩,⟨bF⟩,⟨bP⟩,⟨(Kd.V_reads' (by exact (Kd.V_mono (Kd.V_far (p:=⟨gb437,2,none⟩) (Kd.V_far (p:=⟨gb437,1,none⟩) (Kd.V_far (p:=⟨gb437,0,none⟩) (Kd.V_mono HL422_2.out (fun k_ hk=>(⟨hk,hk.2⟩:_∧k_ ≠ gb437))) (fun _ hk=>hk.2) (.int .i64 t431)) (fun _ hk=>hk.2) (.int .i64 t432)) (fun _ hk=>hk.2) (.slice Ao65 t433.length co65)) (fun _ h_=>h_.1)))).2.2⟩,⟨(Kd.V_reads' (by exact (Kd.V_mono (Kd.V_far (p:=⟨gb437,2,none⟩) (Kd.V_far (p:=⟨gb437,1,none⟩) (Kd.V_far (p:=⟨gb437,0,none⟩) (Kd.V_mono HL430_2.out (fun k_ hk=>(⟨hk,hk.2⟩:_∧k_ ≠ gb437))) (fun _ hk=>hk.2) (.int .i64 t431)) (fun _ hk=>hk.2) (.int .i64 t432)) (fun _ hk=>hk.2) (.slice Ao65 t433.length co65)) (fun _ h_=>h_.1)))).2.2⟩,⟨bB⟩⟩
    case rest =>
     clear HC48
     try clear c44b0
     try clear c44b1
     try clear c46b0
     try clear c46b1
     try clear hcz50_0
     try clear hcz50_1
     try clear hcz50_2
     try clear hcz55_0
     try clear hcz55_1
     try clear hcz55_2
     try clear hcz58_0
     try clear hcz58_1
     try clear hcz58_2
     try clear hcz64_0
     try clear hcz64_1
     try clear hcz64_2
     try clear hfz50_0
     try clear hfz50_1
     try clear hfz50_2
     try clear hfz55_0
     try clear hfz55_1
     try clear hfz55_2
     try clear hfz58_0
     try clear hfz58_1
     try clear hfz58_2
     try clear hfz64_0
     try clear hfz64_1
     try clear hfz64_2
     try clear hx422_0
     try clear hx422_1
     try clear hx422_2
     try clear hx430_0
     try clear hx430_1
     try clear hx430_2
     try clear p422
     try clear p430
     try clear q422
     try clear q430
     obtain ⟨kq,x61_47,rfl,HA,HJ47,HO_404002,HO_430002,HO_438002,BK403,BK404,BK429,BK437,HR422_2,HR430_2,HB⟩:=hcut
     cases kq with
     | zero=>exact absurd HA.out (by simp [impl_pass.j1])
     | succ kj47 =>
      have H:=HA.out
      clear HA
      simp only [impl_pass.j1] at H
      by_cases c67:x61_47 = true
      ·subst c67
       have H1:(some (0,0,([]:List (S29)),false)) = some (r1,r2,r3,r4):=by rw [if_pos rfl] at H;exact H
       clear H
       have H:=H1
       clear H1
       simp only [Option.some.injEq,Prod.mk.injEq] at H
       obtain ⟨rfl,rfl,rfl,rfl⟩:=H
       have hnb68:=NB404_403.out
       have hnc68:=NB403_404.out
       have hnb69:=NB404_429.out
       have hnc69:=NB429_404.out
       have hnb70:=NB404_437.out
       have hnc70:=NB437_404.out
       obtain ⟨hcz71_0,hcz71_1,hcz71_2,hfz71_0,hfz71_1,hfz71_2⟩:=cz3 BK404.out
       go_wp2
       refine bodyPost_ret (results_ct rfl _ _ gb404 29 #[.int .i64 0,.int .i64 0,.slice none 0 0] (0,0) _ rfl bP Try.underlying29 rfl (by kernel_rfl)) rfl ?_
       exact ⟨_,rfl,by first | exact Kd.R_nil _ _ _ _ _ | exact Kd.N_nil _ _ _ _ _ | exact Kd.V_nil _ _ _ _ _ | exact Kd.Q_nil _ _ _ _ _ | exact Kd.S_nil _ _ _ _ _,bB⟩
      ·replace c67:=Bool.eq_false_iff.mpr c67
       subst c67
       have H1:(if a0_0 = 4 then (if 0 < (l0_2.length:Int) then ((impl_ticksOf.f kj47 ((rd_T29 l0_2 0).f0) ((rd_T29 l0_2 0).f1) ((rd_T29 l0_2 0).f2)).bind fun t439=>(impl_pass.l0 kj47 t439 (t439.length:Int) 0 a0_0 a0_1 l0_2 t423 t424 t425 t431 t432 t433)) else (none)) else (some (a0_0,0,(([(⟨t423,t424,t425⟩:S29),(⟨t431,t432,t433⟩:S29)]:List (S29))),true))) = some (r1,r2,r3,r4):=by rw [if_neg (show ¬ (false = true) by decide)] at H;exact H
       clear H
       have H:=H1
       clear H1
       by_cases c72:a0_0 = 4;rotate_left
       ·rw [if_neg c72] at H
        have c72b0:(a0_0 == 4) = false:=beq_eq_false_iff_ne.mpr c72
        have c72b1:(a0_0 != 4) = true:=bne_iff_ne.mpr c72
        obtain ⟨y452,hy452⟩:∃ y_:List (S29),y_ = (([(⟨t423,t424,t425⟩:S29),(⟨t431,t432,t433⟩:S29)]:List (S29))):=⟨_,rfl⟩
        replace H:(some (a0_0,0,y452,true)) = some (r1,r2,r3,r4):=by rw [hy452];exact H
        have Ny452:=aQ hy452
        clear hy452
        simp only [Option.some.injEq,Prod.mk.injEq] at H
        obtain ⟨rfl,rfl,rfl,rfl⟩:=H
        have hnb141:=NB403_404.out
        have hnc141:=NB404_403.out
        have hnb142:=NB403_429.out
        have hnc142:=NB429_403.out
        have hnb143:=NB403_437.out
        have hnc143:=NB437_403.out
        obtain ⟨hcz144_0,hcz144_1,hcz144_2,hfz144_0,hfz144_1,hfz144_2⟩:=cz3 BK403.out
        have hnb145:=NB429_404.out
        have hnc145:=NB404_429.out
        have hnb146:=NB429_437.out
        have hnc146:=NB437_429.out
        obtain ⟨hcz147_0,hcz147_1,hcz147_2,hfz147_0,hfz147_1,hfz147_2⟩:=cz3 BK429.out
        have hnb148:=NB437_404.out
        have hnc148:=NB404_437.out
        obtain ⟨hcz149_0,hcz149_1,hcz149_2,hfz149_0,hfz149_1,hfz149_2⟩:=cz3 BK437.out
        go_wp2_with (first | ((with_reducible refine gate_dst (N:=94) rfl ?_);refine Kd.N_lit k29 _ 29 ?hg (N':=94) ?hd (xs:=([(⟨t423,t424,t425⟩:S29),(⟨t431,t432,t433⟩:S29)]:List (S29))) (inner:=[.int .i64 t423,.int .i64 t424,.slice Ao56 t425.length co56,.int .i64 t431,.int .i64 t432,.slice Ao65 t433.length co65]) (ok:=(fun k_=>(P0_2_ k_ ∨ w.heap.size ≤ k_)∧k_ ≠ gb403∧k_ ≠ gb404∧k_ ≠ gb429∧k_ ≠ gb437)) (okp:=(fun k_=>(P0_2_ k_ ∨ w.heap.size ≤ k_)∧k_ ≠ gb403∧k_ ≠ gb404∧k_ ≠ gb429∧k_ ≠ gb437)) ?hr ?hp (fun _ hk=>hk) ((show ∀ k_,wc.heap.size ≤ k_ → (fun k_=>(P0_2_ k_ ∨ w.heap.size ≤ k_)∧k_ ≠ gb403∧k_ ≠ gb404∧k_ ≠ gb429∧k_ ≠ gb437) k_ from fun k_ hk=>⟨(.inr (Nat.le_trans (below_size bB) hk)),Kd.freshB BK403.out k_ hk,Kd.freshB BK404.out k_ hk,Kd.freshB BK429.out k_ hk,Kd.freshB BK437.out k_ hk⟩) _ (Nat.le_refl _)) (Below.refl _ _) (Nat.le_refl _) (by simp) ?_;(case hd=>rfl);(case hg=>rfl);(case hr=>first | (go_simp;done) | (go_simp;rfl));(case hp=>exact (Reps.c3 (show Kd.FK k29 _ _ (⟨t423,t424,t425⟩:S29) [.int .i64 t423,.int .i64 t424,.slice Ao56 t425.length co56] from (k29_mkF _ _ (⟨t423,t424,t425⟩:S29) (Kd.N_reads' (Kd.N_mono (ok':=(fun k_=>(P0_2_ k_ ∨ w.heap.size ≤ k_)∧k_ ≠ gb403∧k_ ≠ gb404∧k_ ≠ gb429∧k_ ≠ gb437)) (HO_430002.out) (fun k_ hk=>⟨hk.1,⟨hk.2.2.1,⟨hk.2.2.2.1,⟨hk.2.2.2.2.1,hk.2.2.2.2.2⟩⟩⟩⟩))).2.1 (Kd.N_F (Kd.N_mono (ok':=(fun k_=>(P0_2_ k_ ∨ w.heap.size ≤ k_)∧k_ ≠ gb403∧k_ ≠ gb404∧k_ ≠ gb429∧k_ ≠ gb437)) (HO_430002.out) (fun k_ hk=>⟨hk.1,⟨hk.2.2.1,⟨hk.2.2.2.1,⟨hk.2.2.2.2.1,hk.2.2.2.2.2⟩⟩⟩⟩))))) (Reps.c3 (show Kd.FK k29 _ _ (⟨t431,t432,t433⟩:S29) [.int .i64 t431,.int .i64 t432,.slice Ao65 t433.length co65] from (k29_mkF _ _ (⟨t431,t432,t433⟩:S29) (Kd.N_reads' (Kd.N_mono (ok':=(fun k_=>(P0_2_ k_ ∨ w.heap.size ≤ k_)∧k_ ≠ gb403∧k_ ≠ gb404∧k_ ≠ gb429∧k_ ≠ gb437)) (HO_438002.out) (fun k_ hk=>⟨hk.1,⟨hk.2.2.1,⟨hk.2.2.2.1,⟨hk.2.2.2.2.1,hk.2.2.2.2.2⟩⟩⟩⟩))).2.1 (Kd.N_F (Kd.N_mono (ok':=(fun k_=>(P0_2_ k_ ∨ w.heap.size ≤ k_)∧k_ ≠ gb403∧k_ ≠ gb404∧k_ ≠ gb429∧k_ ≠ gb437)) (HO_438002.out) (fun k_ hk=>⟨hk.1,⟨hk.2.2.1,⟨hk.2.2.2.1,⟨hk.2.2.2.2.1,hk.2.2.2.2.2⟩⟩⟩⟩))))) (Reps.none _ _))));intro v453 w150 ho151 hb hg_ hnew_;clear hg_ hnew_;(first | rw [← Ny452.out] at ho151 | (simp only [Int.reduceToNat] at ho151;rw [← Ny452.out] at ho151));have n0_:=aQ (Kd.V_elder' HO_404002.out (Kd.N_base ho151) hb);have n1_:=aQ (Kd.N_lower ho151 (below_size bB));have n2_:=aQ (blk_below BK403.out hb);have n3_:=aQ (blk_below BK404.out hb);have n4_:=aQ (blk_below BK429.out hb);have n5_:=aQ (blk_below BK437.out hb);have n6_:=aQ (Kd.C_below (nC HR422_2.out) hb);have n7_:=aQ (Kd.C_below (nC HR430_2.out) hb);have n8_:=aQ (below_step bB hb);clear HO_404002;clear BK403;clear BK404;clear BK429;clear BK437;clear HR422_2;clear HR430_2;clear HB;clear HO_430002;clear HO_438002;have HO_404002:=n0_;have HO454:=n1_;have BK403:=n2_;have BK404:=n3_;have BK429:=n4_;have BK437:=n5_;have HR422_2:=n6_;have HR430_2:=n7_;have HB:=n8_;clear n0_ n1_ n2_ n3_ n4_ n5_ n6_ n7_ n8_;clear hb ho151;obtain ⟨Ao152,co152,eo152⟩:=Kd.N_slice HO454.out;subst eo152;obtain ⟨hcz153_0,hcz153_1,hcz153_2,hfz153_0,hfz153_1,hfz153_2⟩:=cz3 BK404.out))
        refine bodyPost_ret (results_ct rfl _ _ gb404 29 #[.int .i64 a0_0,.int .i64 0,.slice Ao152 y452.length co152] (0,0) _ rfl bP Try.underlying29 rfl (by kernel_rfl)) rfl ?_
        exact ⟨_,rfl,by exact Kd.N_mono (nFN (g:=gb404) HO454.out (fun k_ hk=>hk.2.2.1)) (fun _ hk=>hk.1),bB⟩
       rw [if_pos c72] at H
       have c72b0:(a0_0 == 4) = true:=beq_iff_eq.mpr c72
       have c72b1:(a0_0 != 4) = false:=bne_eq_false_iff_eq.mpr c72
       clear c72
       by_cases c73:0 < (l0_2.length:Int);rotate_left
       ·rw [if_neg c73] at H
        exact absurd H (by simp)
       rw [if_pos c73] at H
       have c73b0:decide (0 < (l0_2.length:Int)) = true:=decide_eq_true c73
       have c73b1:decide (0 < l0_2.length) = true:=decide_eq_true (by omega)
       clear c73
       obtain ⟨t439,A74,H⟩:=bQ H
       (try dsimp only at H)
       have H':=aQ H
       clear H
       have hnb75:=NB403_404.out
       have hnc75:=NB404_403.out
       have hnb76:=NB403_429.out
       have hnc76:=NB429_403.out
       have hnb77:=NB403_437.out
       have hnc77:=NB437_403.out
       obtain ⟨hcz78_0,hcz78_1,hcz78_2,hfz78_0,hfz78_1,hfz78_2⟩:=cz3 BK403.out
       have p438:0 ≤ (0:Int):=(by omega)
       have q438:0 < (l0_2.length:Int):=of_decide_eq_true (by assumption)
       obtain ⟨ad438,A438_2,c438_2,e438,hx438_0,hx438_1,hx438_2,hl438_2,hi438_2⟩:=at_T29 (Kd.V_reads' HO_404002.out).2.2 0 p438 q438
       obtain rfl:ad422 = ad438:=(by injection e438)
       obtain ⟨ce438,hce438,hMe438,hcc438⟩:=Kd.V_get HO_404002.out z29 0 p438 (by first | exact q438 | exact of_decide_eq_true (by assumption) | (have e_:=(Kd.V_reads' HO_404002.out).1;omega))
       obtain ⟨ua438_2,uc438_2,rfl,ul438_2,ge438_2⟩:=k29_openF hMe438
       have hv438_2:=hcc438 2 _ rfl
       rw [add_field _ _ 2 (by omega)] at hv438_2
       replace hv438_2:=Option.some.inj (hv438_2.symm.trans hx438_2)
       injection hv438_2 with hva_ hvn_ hvc_
       rw [hva_] at ge438_2
       rw [hvc_] at ul438_2
       have HL438_2:=aQ (show Kd.V k29 29 _ w.heap.size _ _ ((rd_T29 l0_2 0).f2) from Kd.V_mk ul438_2 ge438_2)
       clear hva_ hvn_ hvc_ ge438_2 ul438_2
       clear hcc438 hce438
       have qi438:(0 < l0_2.length) = True:=eq_true (by omega)
       (try rw [show ((0:Int)).toNat = 0 from rfl,show 0 * 3 = 0 from rfl] at hx438_0 hx438_1 hx438_2)
       (try rw [Addr.add_zero'] at hx438_0)
       (try rw [Addr.add_zero'] at hx438_1)
       (try rw [Addr.add_zero'] at hx438_2)
       have HR438_2:=aQ hi438_2
       have HC438_2:=aQ hl438_2
       clear hi438_2 hl438_2
       replace p438:=eq_true p438
       replace q438:=eq_true q438
       go_wp2_with (first | ((with_reducible refine gate_callee (f:=47) rfl ?_);refine goesL_ (some 70) rfl rfl Try.func47 (by kernel_rfl) rfl #[.agg #[.int .i64 ((rd_T29 l0_2 0).f0),.int .i64 ((rd_T29 l0_2 0).f1),.slice A438_2 ((rd_T29 l0_2 0).f2).length c438_2]] rfl mP ?_;(with_reducible refine (impl_ticksOf.calls kj47 ((rd_T29 l0_2 0).f0) ((rd_T29 l0_2 0).f1) (fun k_=>((P0_2_ k_ ∨ w.heap.size ≤ k_)∧(some k_ ≠ (.slice Ao56 t425.length co56:Value).ownBlock∧(some k_ ≠ (.slice Ao65 t433.length co65:Value).ownBlock∧(k_ ≠ gb403∧(k_ ≠ gb404∧(k_ ≠ gb429∧k_ ≠ gb437))))))) _ _ ((rd_T29 l0_2 0).f2) t439 _ ?side1 A74.out).mono ?_);(case side1=>exact HL438_2.out);rintro e w79 ⟨v440,rfl,ho0,hb⟩;refine ⟨_,rfl,?_⟩;replace HO_404002:=aQ (Kd.V_elder' HO_404002.out (Kd.N_base ho0) hb);replace HL438_2:=aQ (Kd.V_elder' HL438_2.out (Kd.N_base ho0) hb);have HO441:=aQ (Kd.N_lower (Kd.N_mono (ok':=fun k_=>(P0_2_ k_ ∨ w.heap.size ≤ k_)∧some k_ ≠ (.slice Ao56 t425.length co56:Value).ownBlock∧some k_ ≠ (.slice Ao65 t433.length co65:Value).ownBlock∧k_ ≠ gb403∧k_ ≠ gb404∧k_ ≠ gb429∧k_ ≠ gb437) ho0 (fun k_ hk_=>⟨Or.elim hk_ (fun hs_=>hs_.1) (fun hn_=>(.inr (Nat.le_trans (below_size bB) hn_))),Or.elim hk_ (fun hs_=>hs_.2.1) (fun hn_=>(Kd.fresh' (Kd.N_lt HO_430002.out) k_ hn_)),Or.elim hk_ (fun hs_=>hs_.2.2.1) (fun hn_=>(Kd.fresh' (Kd.N_lt HO_438002.out) k_ hn_)),Or.elim hk_ (fun hs_=>hs_.2.2.2.1) (fun hn_=>(Kd.freshB BK403.out k_ hn_)),Or.elim hk_ (fun hs_=>hs_.2.2.2.2.1) (fun hn_=>(Kd.freshB BK404.out k_ hn_)),Or.elim hk_ (fun hs_=>hs_.2.2.2.2.2.1) (fun hn_=>(Kd.freshB BK429.out k_ hn_)),Or.elim hk_ (fun hs_=>hs_.2.2.2.2.2.2) (fun hn_=>(Kd.freshB BK437.out k_ hn_))⟩)) (below_size bB));replace HO_430002:=aQ (Kd.N_elder' HO_430002.out (Kd.N_base ho0) hb);replace HO_438002:=aQ (Kd.N_elder' HO_438002.out (Kd.N_base ho0) hb);replace BK403:=aQ (blk_below BK403.out hb);replace BK404:=aQ (blk_below BK404.out hb);replace BK429:=aQ (blk_below BK429.out hb);replace BK437:=aQ (blk_below BK437.out hb);replace HR422_2:=aQ (Kd.C_below (nC HR422_2.out) hb);replace HR430_2:=aQ (Kd.C_below (nC HR430_2.out) hb);replace HR438_2:=aQ (Kd.C_below (nC HR438_2.out) hb);replace HB:=aQ (below_step bB hb);(try clear hb);(try clear ho0);obtain ⟨Ao80,co80,eo80⟩:=Kd.N_slice HO441.out;subst eo80))
       go_loopg [72] kj47 (fun kq v72 w'=>∃ (x72_3:Int) (x405000_3:Int) (x405001_3:Int),v72 = .int .i64 x72_3∧Aside0 (impl_pass.l0 kq t439 (t439.length:Int) x72_3 a0_0 a0_1 l0_2 t423 t424 t425 t431 t432 t433 = some (r1,r2,r3,r4))∧Aside0 (kq ≤ kj47)∧Aside0 (Kd.N k44 44 w' w.heap.size (fun k_=>(P0_2_ k_ ∨ w.heap.size ≤ k_)∧some k_ ≠ ((.slice Ao56 t425.length co56):Value).ownBlock∧some k_ ≠ ((.slice Ao65 t433.length co65):Value).ownBlock∧k_ ≠ gb403∧k_ ≠ gb404∧k_ ≠ gb429∧k_ ≠ gb437) (.slice Ao80 t439.length co80) t439)∧Aside0 (Kd.V k29 29 w' w.heap.size (fun k_=>(P0_2_ k_ ∨ w.heap.size ≤ k_)∧some k_ ≠ ((.slice Ao80 t439.length co80):Value).ownBlock∧some k_ ≠ ((.slice Ao56 t425.length co56):Value).ownBlock∧some k_ ≠ ((.slice Ao65 t433.length co65):Value).ownBlock∧k_ ≠ gb403∧k_ ≠ gb404∧k_ ≠ gb429∧k_ ≠ gb437) (.slice (some ad422) l0_2.length c0_2) l0_2)∧Aside0 (Kd.N k29 29 w' w.heap.size (fun k_=>(P0_2_ k_ ∨ w.heap.size ≤ k_)∧some k_ ≠ ((.slice Ao80 t439.length co80):Value).ownBlock∧some k_ ≠ ((.slice Ao65 t433.length co65):Value).ownBlock∧k_ ≠ gb403∧k_ ≠ gb404∧k_ ≠ gb429∧k_ ≠ gb437) (.slice Ao56 t425.length co56) t425)∧Aside0 (Kd.N k29 29 w' w.heap.size (fun k_=>(P0_2_ k_ ∨ w.heap.size ≤ k_)∧some k_ ≠ ((.slice Ao80 t439.length co80):Value).ownBlock∧some k_ ≠ ((.slice Ao56 t425.length co56):Value).ownBlock∧k_ ≠ gb403∧k_ ≠ gb404∧k_ ≠ gb429∧k_ ≠ gb437) (.slice Ao65 t433.length co65) t433)∧Aside0 (w'.heap[gb403]? = some (.cells #[.int .i64 a0_0,.int .i64 a0_1,(.slice (some ad422) l0_2.length c0_2)] 29 (0,0)))∧Aside0 (w'.heap[gb404]? = some (.cells #[.int .i64 x405000_3,.int .i64 x405001_3,(.slice none 0 0)] 29 (0,0)))∧Aside0 (w'.heap[gb429]? = some (.cells #[.int .i64 t423,.int .i64 t424,(.slice Ao56 t425.length co56)] 29 (0,0)))∧Aside0 (w'.heap[gb437]? = some (.cells #[.int .i64 t431,.int .i64 t432,(.slice Ao65 t433.length co65)] 29 (0,0)))∧Aside0 (Below w.heap.size w w'))
       case atStart=>exact ⟨(0),(0),(0),rfl,H',⟨Nat.le_refl _⟩,⟨HO441.out⟩,⟨by exact Kd.V_mono HO_404002.out (fun _ hk=>⟨hk.1.1,⟨hk.2,⟨hk.1.2.1,⟨hk.1.2.2.1,⟨hk.1.2.2.2.1,⟨hk.1.2.2.2.2.1,⟨hk.1.2.2.2.2.2.1,hk.1.2.2.2.2.2.2⟩⟩⟩⟩⟩⟩⟩)⟩,⟨by exact Kd.N_mono HO_430002.out (fun _ hk=>⟨hk.1.1,⟨hk.2,⟨hk.1.2.1,⟨hk.1.2.2.1,⟨hk.1.2.2.2.1,⟨hk.1.2.2.2.2.1,hk.1.2.2.2.2.2⟩⟩⟩⟩⟩⟩)⟩,⟨by exact Kd.N_mono HO_438002.out (fun _ hk=>⟨hk.1.1,⟨hk.2,⟨hk.1.2.1,⟨hk.1.2.2.1,⟨hk.1.2.2.2.1,⟨hk.1.2.2.2.2.1,hk.1.2.2.2.2.2⟩⟩⟩⟩⟩⟩)⟩,⟨BK403.out⟩,⟨BK404.out⟩,⟨BK429.out⟩,⟨BK437.out⟩,⟨bB⟩⟩
       case round =>
        clear H'
        try clear c72b0
        try clear c72b1
        try clear c73b0
        try clear c73b1
        try clear hcz78_0
        try clear hcz78_1
        try clear hcz78_2
        try clear hfz78_0
        try clear hfz78_1
        try clear hfz78_2
        try clear hx438_0
        try clear hx438_1
        try clear hx438_2
        try clear p438
        try clear q438
        repeat (first | clear HO_70 | clear HO_404002 | clear HO_430002 | clear HO_438002 | clear BK403 | clear BK404 | clear BK429 | clear BK437 | clear HB)
        obtain ⟨x72_3,x405000_3,x405001_3,rfl,HA,HK3,HO_70,HO_404002,HO_430002,HO_438002,BK403,BK404,BK429,BK437,HB⟩:=hrel
        cases gk with
        | zero=>exact absurd HA.out (by simp [impl_pass.l0])
        | succ k3 =>
         have H:=HA.out
         clear HA
         simp only [impl_pass.l0] at H
         by_cases c81:x72_3 < (t439.length:Int);rotate_left
         ·rw [if_neg c81] at H
          have c81b0:decide (x72_3 < (t439.length:Int)) = false:=decide_eq_false c81
          clear c81
          obtain ⟨y442,hy442⟩:∃ y_:List (S29),y_ = (([(⟨t423,t424,t425⟩:S29),(⟨t431,t432,t433⟩:S29)]:List (S29))):=⟨_,rfl⟩
          replace H:(some (a0_0,0,y442,true)) = some (r1,r2,r3,r4):=by rw [hy442];exact H
          have Ny442:=aQ hy442
          clear hy442
          simp only [Option.some.injEq,Prod.mk.injEq] at H
          obtain ⟨rfl,rfl,rfl,rfl⟩:=H
          have hnb128:=NB403_404.out
          have hnc128:=NB404_403.out
          have hnb129:=NB403_429.out
          have hnc129:=NB429_403.out
          have hnb130:=NB403_437.out
          have hnc130:=NB437_403.out
          obtain ⟨hcz131_0,hcz131_1,hcz131_2,hfz131_0,hfz131_1,hfz131_2⟩:=cz3 BK403.out
          have hnb132:=NB429_404.out
          have hnc132:=NB404_429.out
          have hnb133:=NB429_437.out
          have hnc133:=NB437_429.out
          obtain ⟨hcz134_0,hcz134_1,hcz134_2,hfz134_0,hfz134_1,hfz134_2⟩:=cz3 BK429.out
          have hnb135:=NB437_404.out
          have hnc135:=NB404_437.out
          obtain ⟨hcz136_0,hcz136_1,hcz136_2,hfz136_0,hfz136_1,hfz136_2⟩:=cz3 BK437.out
          go_wp2_with (first | ((with_reducible refine gate_dst (N:=94) rfl ?_);refine Kd.N_lit k29 _ 29 ?hg (N':=94) ?hd (xs:=([(⟨t423,t424,t425⟩:S29),(⟨t431,t432,t433⟩:S29)]:List (S29))) (inner:=[.int .i64 t423,.int .i64 t424,.slice Ao56 t425.length co56,.int .i64 t431,.int .i64 t432,.slice Ao65 t433.length co65]) (ok:=(fun k_=>(P0_2_ k_ ∨ w.heap.size ≤ k_)∧some k_ ≠ (.slice Ao80 t439.length co80:Value).ownBlock∧k_ ≠ gb403∧k_ ≠ gb404∧k_ ≠ gb429∧k_ ≠ gb437)) (okp:=(fun k_=>(P0_2_ k_ ∨ w.heap.size ≤ k_)∧some k_ ≠ (.slice Ao80 t439.length co80:Value).ownBlock∧k_ ≠ gb403∧k_ ≠ gb404∧k_ ≠ gb429∧k_ ≠ gb437)) ?hr ?hp (fun _ hk=>hk) ((show ∀ k_,wr.heap.size ≤ k_ → (fun k_=>(P0_2_ k_ ∨ w.heap.size ≤ k_)∧some k_ ≠ (.slice Ao80 t439.length co80:Value).ownBlock∧k_ ≠ gb403∧k_ ≠ gb404∧k_ ≠ gb429∧k_ ≠ gb437) k_ from fun k_ hk=>⟨(.inr (Nat.le_trans (below_size bB) hk)),Kd.fresh' (Kd.N_lt HO_70.out) k_ hk,Kd.freshB BK403.out k_ hk,Kd.freshB BK404.out k_ hk,Kd.freshB BK429.out k_ hk,Kd.freshB BK437.out k_ hk⟩) _ (Nat.le_refl _)) (Below.refl _ _) (Nat.le_refl _) (by simp) ?_;(case hd=>rfl);(case hg=>rfl);(case hr=>first | (go_simp;done) | (go_simp;rfl));(case hp=>exact (Reps.c3 (show Kd.FK k29 _ _ (⟨t423,t424,t425⟩:S29) [.int .i64 t423,.int .i64 t424,.slice Ao56 t425.length co56] from (k29_mkF _ _ (⟨t423,t424,t425⟩:S29) (Kd.N_reads' (Kd.N_mono (ok':=(fun k_=>(P0_2_ k_ ∨ w.heap.size ≤ k_)∧some k_ ≠ (.slice Ao80 t439.length co80:Value).ownBlock∧k_ ≠ gb403∧k_ ≠ gb404∧k_ ≠ gb429∧k_ ≠ gb437)) (HO_430002.out) (fun k_ hk=>⟨hk.1,⟨hk.2.1,⟨hk.2.2.2.1,⟨hk.2.2.2.2.1,⟨hk.2.2.2.2.2.1,hk.2.2.2.2.2.2⟩⟩⟩⟩⟩))).2.1 (Kd.N_F (Kd.N_mono (ok':=(fun k_=>(P0_2_ k_ ∨ w.heap.size ≤ k_)∧some k_ ≠ (.slice Ao80 t439.length co80:Value).ownBlock∧k_ ≠ gb403∧k_ ≠ gb404∧k_ ≠ gb429∧k_ ≠ gb437)) (HO_430002.out) (fun k_ hk=>⟨hk.1,⟨hk.2.1,⟨hk.2.2.2.1,⟨hk.2.2.2.2.1,⟨hk.2.2.2.2.2.1,hk.2.2.2.2.2.2⟩⟩⟩⟩⟩))))) (Reps.c3 (show Kd.FK k29 _ _ (⟨t431,t432,t433⟩:S29) [.int .i64 t431,.int .i64 t432,.slice Ao65 t433.length co65] from (k29_mkF _ _ (⟨t431,t432,t433⟩:S29) (Kd.N_reads' (Kd.N_mono (ok':=(fun k_=>(P0_2_ k_ ∨ w.heap.size ≤ k_)∧some k_ ≠ (.slice Ao80 t439.length co80:Value).ownBlock∧k_ ≠ gb403∧k_ ≠ gb404∧k_ ≠ gb429∧k_ ≠ gb437)) (HO_438002.out) (fun k_ hk=>⟨hk.1,⟨hk.2.1,⟨hk.2.2.2.1,⟨hk.2.2.2.2.1,⟨hk.2.2.2.2.2.1,hk.2.2.2.2.2.2⟩⟩⟩⟩⟩))).2.1 (Kd.N_F (Kd.N_mono (ok':=(fun k_=>(P0_2_ k_ ∨ w.heap.size ≤ k_)∧some k_ ≠ (.slice Ao80 t439.length co80:Value).ownBlock∧k_ ≠ gb403∧k_ ≠ gb404∧k_ ≠ gb429∧k_ ≠ gb437)) (HO_438002.out) (fun k_ hk=>⟨hk.1,⟨hk.2.1,⟨hk.2.2.2.1,⟨hk.2.2.2.2.1,⟨hk.2.2.2.2.2.1,hk.2.2.2.2.2.2⟩⟩⟩⟩⟩))))) (Reps.none _ _))));intro v443 w137 ho138 hb hg_ hnew_;clear hg_ hnew_;(first | rw [← Ny442.out] at ho138 | (simp only [Int.reduceToNat] at ho138;rw [← Ny442.out] at ho138));have n0_:=aQ (Kd.N_elder' HO_70.out (Kd.N_base ho138) hb);have n1_:=aQ (Kd.V_elder' HO_404002.out (Kd.N_base ho138) hb);have n2_:=aQ (Kd.N_lower ho138 (below_size bB));have n3_:=aQ (blk_below BK403.out hb);have n4_:=aQ (blk_below BK404.out hb);have n5_:=aQ (blk_below BK429.out hb);have n6_:=aQ (blk_below BK437.out hb);have n7_:=aQ (below_step bB hb);clear HO_70;clear HO_404002;clear BK403;clear BK404;clear BK429;clear BK437;clear HB;clear HO_430002;clear HO_438002;have HO_70:=n0_;have HO_404002:=n1_;have HO444:=n2_;have BK403:=n3_;have BK404:=n4_;have BK429:=n5_;have BK437:=n6_;have HB:=n7_;clear n0_ n1_ n2_ n3_ n4_ n5_ n6_ n7_;clear hb ho138;obtain ⟨Ao139,co139,eo139⟩:=Kd.N_slice HO444.out;subst eo139;obtain ⟨hcz140_0,hcz140_1,hcz140_2,hfz140_0,hfz140_1,hfz140_2⟩:=cz3 BK404.out))
          refine bodyPost_ret (results_ct rfl _ _ gb404 29 #[.int .i64 a0_0,.int .i64 0,.slice Ao139 y442.length co139] (0,0) _ rfl bP Try.underlying29 rfl (by kernel_rfl)) rfl ?_
          exact ⟨_,rfl,by exact Kd.N_mono (nFN (g:=gb404) HO444.out (fun k_ hk=>hk.2.2.2.1)) (fun _ hk=>hk.1),bB⟩
         rw [if_pos c81] at H
         have c81b0:decide (x72_3 < (t439.length:Int)) = true:=decide_eq_true c81
         clear c81
         by_cases c82:0 ≤ x72_3;rotate_left
         ·rw [if_neg c82] at H
          exact absurd H (by simp)
         rw [if_pos c82] at H
         have c82b0:decide (0 ≤ x72_3) = true:=decide_eq_true c82
         clear c82
         by_cases c83:x72_3 < (t439.length:Int);rotate_left
         ·rw [if_neg c83] at H
          exact absurd H (by simp)
         rw [if_pos c83] at H
         have c83b0:decide (x72_3 < (t439.length:Int)) = true:=decide_eq_true c83
         clear c83
         by_cases c84:((rd_T44 t439 x72_3).f0) = 0
         ·rw [if_pos c84] at H
          have c84b0:(((rd_T44 t439 x72_3).f0) == 0) = true:=beq_iff_eq.mpr c84
          have c84b1:(((rd_T44 t439 x72_3).f0) != 0) = false:=bne_eq_false_iff_eq.mpr c84
          clear c84
          have H':=aQ H
          clear H
          have p445:0 ≤ (x72_3:Int):=of_decide_eq_true (by assumption)
          have q445:x72_3 < (t439.length:Int):=of_decide_eq_true (by assumption)
          obtain ⟨ad445,A445_3,c445_3,e445,hx445_0,hx445_1,hx445_2,hx445_3,hl445_3,hi445_3⟩:=at_T44 (Kd.N_reads' HO_70.out).2.2 x72_3 p445 q445
          cases e445
          obtain ⟨ce445,hce445,hMe445,hcc445⟩:=Kd.N_get HO_70.out z44 x72_3 p445 (by first | exact q445 | exact of_decide_eq_true (by assumption) | (have e_:=(Kd.N_reads' HO_70.out).1;omega))
          obtain ⟨ua445_3,uc445_3,rfl,ul445_3,ge445_3⟩:=k44_openF hMe445
          have hv445_3:=hcc445 3 _ rfl
          rw [add_field _ _ 3 (by omega)] at hv445_3
          replace hv445_3:=Option.some.inj (hv445_3.symm.trans hx445_3)
          injection hv445_3 with hva_ hvn_ hvc_
          rw [hva_] at ge445_3
          rw [hvc_] at ul445_3
          have HL445_3:=aQ (show Kd.V k29 29 _ w.heap.size _ _ ((rd_T44 t439 x72_3).f1.f2) from Kd.V_mk ul445_3 ge445_3)
          clear hva_ hvn_ hvc_ ge445_3 ul445_3
          clear hcc445 hce445
          have HR445_3:=aQ hi445_3
          have HC445_3:=aQ hl445_3
          clear hi445_3 hl445_3
          replace p445:=eq_true p445
          replace q445:=eq_true q445
          go_wp2_with (first | ((with_reducible refine gate_dst (N:=10) rfl ?_);refine box1 (N:=10) (cs:=#[.int .i64 0,.int .i64 0,.int .i64 0,.slice none 0 0]) (t:=44) ?_;intro gb446 hg w85 hbox hb;replace HO_70:=aQ (Kd.N_below (Kd.N_elderB HO_70.out gb446 (Nat.le_of_eq hg.symm)) hb);replace HO_404002:=aQ (Kd.V_below (Kd.V_elderB HO_404002.out gb446 (Nat.le_of_eq hg.symm)) hb);replace HO_430002:=aQ (Kd.N_below (Kd.N_elderB HO_430002.out gb446 (Nat.le_of_eq hg.symm)) hb);replace HO_438002:=aQ (Kd.N_below (Kd.N_elderB HO_438002.out gb446 (Nat.le_of_eq hg.symm)) hb);replace HL445_3:=aQ (Kd.V_below (Kd.V_elderB HL445_3.out gb446 (Nat.le_of_eq hg.symm)) hb);replace HR445_3:=aQ (Kd.C_below (nC HR445_3.out) hb);have BK446:=aQ (hbox);have GW446:=aQ (gB:w.heap.size ≤ gb446);have GE446:=GW446;replace HB:=aQ (below_step bB hb);have NB403_446:=aQ ((by rw [hg];exact Nat.ne_of_lt (blk_lt BK403.out):gb403 ≠ gb446));have NB446_403:=aQ NB403_446.out.symm;replace BK403:=aQ (blk_below BK403.out hb);have NB404_446:=aQ ((by rw [hg];exact Nat.ne_of_lt (blk_lt BK404.out):gb404 ≠ gb446));have NB446_404:=aQ NB404_446.out.symm;replace BK404:=aQ (blk_below BK404.out hb);have NB429_446:=aQ ((by rw [hg];exact Nat.ne_of_lt (blk_lt BK429.out):gb429 ≠ gb446));have NB446_429:=aQ NB429_446.out.symm;replace BK429:=aQ (blk_below BK429.out hb);have NB437_446:=aQ ((by rw [hg];exact Nat.ne_of_lt (blk_lt BK437.out):gb437 ≠ gb446));have NB446_437:=aQ NB437_446.out.symm;replace BK437:=aQ (blk_below BK437.out hb);clear hb hbox hg;have hnb86:=NB446_403.out;have hnc86:=NB403_446.out;have hnb87:=NB446_404.out;have hnc87:=NB404_446.out;have hnb88:=NB446_429.out;have hnc88:=NB429_446.out;have hnb89:=NB446_437.out;have hnc89:=NB437_446.out;have hcz90_0:w85.cell? ⟨gb446,0,none⟩ = some (.int .i64 0):=(blk_cell BK446.out 0).trans rfl;have hcz90_1:w85.cell? ⟨gb446,1,none⟩ = some (.int .i64 0):=(blk_cell BK446.out 1).trans rfl;have hcz90_2:w85.cell? ⟨gb446,2,none⟩ = some (.int .i64 0):=(blk_cell BK446.out 2).trans rfl;have hcz90_3:w85.cell? ⟨gb446,3,none⟩ = some (.slice none 0 0):=(blk_cell BK446.out 3).trans rfl;have hfz90_0:=blk_frozen BK446.out 0;have hfz90_1:=blk_frozen BK446.out 1;have hfz90_2:=blk_frozen BK446.out 2;have hfz90_3:=blk_frozen BK446.out 3))
          go_roundg k3
          case measure=>have:=HJ36.out;have:=HJ47.out;have:=HK3.out;omega
          case rel=>exact ⟨(wrap64 (x72_3 + 1)),(x405000_3),(x405001_3),rfl,H',⟨by have:=HJ36.out;have:=HJ47.out;have:=HK3.out;omega⟩,⟨by exact Kd.N_mono (nFN (g:=gb446) HO_70.out (fun k_ hk=>hk.2)) (fun _ hk=>⟨hk.1.1,⟨hk.1.2.1,⟨hk.1.2.2.1,⟨hk.1.2.2.2.1,⟨hk.1.2.2.2.2.1,⟨hk.1.2.2.2.2.2.1,hk.1.2.2.2.2.2.2⟩⟩⟩⟩⟩⟩)⟩,⟨by exact Kd.V_mono (nFV (g:=gb446) HO_404002.out (fun k_ hk=>hk.2)) (fun _ hk=>⟨hk.1.1,⟨hk.1.2.1,⟨hk.1.2.2.1,⟨hk.1.2.2.2.1,⟨hk.1.2.2.2.2.1,⟨hk.1.2.2.2.2.2.1,⟨hk.1.2.2.2.2.2.2.1,hk.1.2.2.2.2.2.2.2⟩⟩⟩⟩⟩⟩⟩)⟩,⟨by exact Kd.N_mono (nFN (g:=gb446) HO_430002.out (fun k_ hk=>hk.2)) (fun _ hk=>⟨hk.1.1,⟨hk.1.2.1,⟨hk.1.2.2.1,⟨hk.1.2.2.2.1,⟨hk.1.2.2.2.2.1,⟨hk.1.2.2.2.2.2.1,hk.1.2.2.2.2.2.2⟩⟩⟩⟩⟩⟩)⟩,⟨by exact Kd.N_mono (nFN (g:=gb446) HO_438002.out (fun k_ hk=>hk.2)) (fun _ hk=>⟨hk.1.1,⟨hk.1.2.1,⟨hk.1.2.2.1,⟨hk.1.2.2.2.1,⟨hk.1.2.2.2.2.1,⟨hk.1.2.2.2.2.2.1,hk.1.2.2.2.2.2.2⟩⟩⟩⟩⟩⟩)⟩,⟨bF⟩,⟨bF⟩,⟨bF⟩,⟨bF⟩,⟨bB⟩⟩
         rw [if_neg c84] at H
         have c84b0:(((rd_T44 t439 x72_3).f0) == 0) = false:=beq_eq_false_iff_ne.mpr c84
         have c84b1:(((rd_T44 t439 x72_3).f0) != 0) = true:=bne_iff_ne.mpr c84
         by_cases c91:1 < (l0_2.length:Int);rotate_left
         ·rw [if_neg c91] at H
          exact absurd H (by simp)
         rw [if_pos c91] at H
         have c91b0:decide (1 < (l0_2.length:Int)) = true:=decide_eq_true c91
         have c91b1:decide (1 < l0_2.length) = true:=decide_eq_true (by omega)
         clear c91
         obtain ⟨t448,A92,H⟩:=bQ H
         (try dsimp only at H)
         obtain ⟨t451,A93,H⟩:=bQ H
         (try dsimp only at H)
         by_cases c94:t451 = true
         ·subst c94
          have H1:(some (0,0,([]:List (S29)),false)) = some (r1,r2,r3,r4):=by rw [if_pos rfl] at H;exact H
          clear H
          have H:=H1
          clear H1
          simp only [Option.some.injEq,Prod.mk.injEq] at H
          obtain ⟨rfl,rfl,rfl,rfl⟩:=H
          have p445:0 ≤ (x72_3:Int):=of_decide_eq_true (by assumption)
          have q445:x72_3 < (t439.length:Int):=of_decide_eq_true (by assumption)
          obtain ⟨ad445,A445_3,c445_3,e445,hx445_0,hx445_1,hx445_2,hx445_3,hl445_3,hi445_3⟩:=at_T44 (Kd.N_reads' HO_70.out).2.2 x72_3 p445 q445
          cases e445
          obtain ⟨ce445,hce445,hMe445,hcc445⟩:=Kd.N_get HO_70.out z44 x72_3 p445 (by first | exact q445 | exact of_decide_eq_true (by assumption) | (have e_:=(Kd.N_reads' HO_70.out).1;omega))
          obtain ⟨ua445_3,uc445_3,rfl,ul445_3,ge445_3⟩:=k44_openF hMe445
          have hv445_3:=hcc445 3 _ rfl
          rw [add_field _ _ 3 (by omega)] at hv445_3
          replace hv445_3:=Option.some.inj (hv445_3.symm.trans hx445_3)
          injection hv445_3 with hva_ hvn_ hvc_
          rw [hva_] at ge445_3
          rw [hvc_] at ul445_3
          have HL445_3:=aQ (show Kd.V k29 29 _ w.heap.size _ _ ((rd_T44 t439 x72_3).f1.f2) from Kd.V_mk ul445_3 ge445_3)
          clear hva_ hvn_ hvc_ ge445_3 ul445_3
          clear hcc445 hce445
          have HR445_3:=aQ hi445_3
          have HC445_3:=aQ hl445_3
          clear hi445_3 hl445_3
          replace p445:=eq_true p445
          replace q445:=eq_true q445
          go_wp2_with (first | ((with_reducible refine gate_dst (N:=10) rfl ?_);refine box1 (N:=10) (cs:=#[.int .i64 0,.int .i64 0,.int .i64 0,.slice none 0 0]) (t:=44) ?_;intro gb446 hg w95 hbox hb;replace HO_70:=aQ (Kd.N_below (Kd.N_elderB HO_70.out gb446 (Nat.le_of_eq hg.symm)) hb);replace HO_404002:=aQ (Kd.V_below (Kd.V_elderB HO_404002.out gb446 (Nat.le_of_eq hg.symm)) hb);replace HO_430002:=aQ (Kd.N_below (Kd.N_elderB HO_430002.out gb446 (Nat.le_of_eq hg.symm)) hb);replace HO_438002:=aQ (Kd.N_below (Kd.N_elderB HO_438002.out gb446 (Nat.le_of_eq hg.symm)) hb);replace HL445_3:=aQ (Kd.V_below (Kd.V_elderB HL445_3.out gb446 (Nat.le_of_eq hg.symm)) hb);replace HR445_3:=aQ (Kd.C_below (nC HR445_3.out) hb);have BK446:=aQ (hbox);have GW446:=aQ (gB:w.heap.size ≤ gb446);have GE446:=GW446;replace HB:=aQ (below_step bB hb);have NB403_446:=aQ ((by rw [hg];exact Nat.ne_of_lt (blk_lt BK403.out):gb403 ≠ gb446));have NB446_403:=aQ NB403_446.out.symm;replace BK403:=aQ (blk_below BK403.out hb);have NB404_446:=aQ ((by rw [hg];exact Nat.ne_of_lt (blk_lt BK404.out):gb404 ≠ gb446));have NB446_404:=aQ NB404_446.out.symm;replace BK404:=aQ (blk_below BK404.out hb);have NB429_446:=aQ ((by rw [hg];exact Nat.ne_of_lt (blk_lt BK429.out):gb429 ≠ gb446));have NB446_429:=aQ NB429_446.out.symm;replace BK429:=aQ (blk_below BK429.out hb);have NB437_446:=aQ ((by rw [hg];exact Nat.ne_of_lt (blk_lt BK437.out):gb437 ≠ gb446));have NB446_437:=aQ NB437_446.out.symm;replace BK437:=aQ (blk_below BK437.out hb);clear hb hbox hg;have hnb96:=NB446_403.out;have hnc96:=NB403_446.out;have hnb97:=NB446_404.out;have hnc97:=NB404_446.out;have hnb98:=NB446_429.out;have hnc98:=NB429_446.out;have hnb99:=NB446_437.out;have hnc99:=NB437_446.out;have hcz100_0:w95.cell? ⟨gb446,0,none⟩ = some (.int .i64 0):=(blk_cell BK446.out 0).trans rfl;have hcz100_1:w95.cell? ⟨gb446,1,none⟩ = some (.int .i64 0):=(blk_cell BK446.out 1).trans rfl;have hcz100_2:w95.cell? ⟨gb446,2,none⟩ = some (.int .i64 0):=(blk_cell BK446.out 2).trans rfl;have hcz100_3:w95.cell? ⟨gb446,3,none⟩ = some (.slice none 0 0):=(blk_cell BK446.out 3).trans rfl;have hfz100_0:=blk_frozen BK446.out 0;have hfz100_1:=blk_frozen BK446.out 1;have hfz100_2:=blk_frozen BK446.out 2;have hfz100_3:=blk_frozen BK446.out 3) | ((with_reducible refine gate_store (t:=44) (p:=10) rfl ?_);refine store_event (t:=44) (p:=10) (v:=?vo_w101) (w1:=((((w95.setCell ⟨gb446,0,none⟩ (.int .i64 ((rd_T44 t439 x72_3).f0))).setCell ⟨gb446,1,none⟩ (.int .i64 ((rd_T44 t439 x72_3).f1.f0))).setCell ⟨gb446,2,none⟩ (.int .i64 ((rd_T44 t439 x72_3).f1.f1))).setCell ⟨gb446,3,none⟩ (.slice A445_3 ((rd_T44 t439 x72_3).f1.f2).length c445_3))) ?hg ?ho ?hn ?hr ?_;(case ho=>rfl);(case hg=>rfl);(case hn=>rfl);(case hr=>first | (go_simp;done) | (go_simp;rfl));intro w101 hw;have n0_:Aside0 (Kd.N k44 44 w101 w.heap.size (fun k_=>(P0_2_ k_ ∨ w.heap.size ≤ k_)∧some k_ ≠ (.slice Ao56 t425.length co56:Value).ownBlock∧some k_ ≠ (.slice Ao65 t433.length co65:Value).ownBlock∧k_ ≠ gb403∧k_ ≠ gb404∧k_ ≠ gb429∧k_ ≠ gb437∧k_ ≠ gb446) (.slice (some ad445) t439.length co80) t439):=⟨(by rw [hw];exact (by exact Kd.N_mono (nFN (g:=gb446) HO_70.out (fun k_ hk=>hk.2)) (fun _ hk=>⟨hk.1.1,⟨hk.1.2.1,⟨hk.1.2.2.1,⟨hk.1.2.2.2.1,⟨hk.1.2.2.2.2.1,⟨hk.1.2.2.2.2.2.1,⟨hk.1.2.2.2.2.2.2,hk.2⟩⟩⟩⟩⟩⟩⟩)))⟩;have n1_:Aside0 (Kd.V k29 29 w101 w.heap.size (fun k_=>(P0_2_ k_ ∨ w.heap.size ≤ k_)∧some k_ ≠ (.slice (some ad445) t439.length co80:Value).ownBlock∧some k_ ≠ (.slice Ao56 t425.length co56:Value).ownBlock∧some k_ ≠ (.slice Ao65 t433.length co65:Value).ownBlock∧k_ ≠ gb403∧k_ ≠ gb404∧k_ ≠ gb429∧k_ ≠ gb437∧k_ ≠ gb446) (.slice (some ad422) l0_2.length c0_2) l0_2):=⟨(by rw [hw];exact (by exact Kd.V_mono (nFV (g:=gb446) HO_404002.out (fun k_ hk=>hk.2)) (fun _ hk=>⟨hk.1.1,⟨hk.1.2.1,⟨hk.1.2.2.1,⟨hk.1.2.2.2.1,⟨hk.1.2.2.2.2.1,⟨hk.1.2.2.2.2.2.1,⟨hk.1.2.2.2.2.2.2.1,⟨hk.1.2.2.2.2.2.2.2,hk.2⟩⟩⟩⟩⟩⟩⟩⟩)))⟩;have n2_:Aside0 (Kd.N k29 29 w101 w.heap.size (fun k_=>(P0_2_ k_ ∨ w.heap.size ≤ k_)∧some k_ ≠ (.slice (some ad445) t439.length co80:Value).ownBlock∧some k_ ≠ (.slice Ao65 t433.length co65:Value).ownBlock∧k_ ≠ gb403∧k_ ≠ gb404∧k_ ≠ gb429∧k_ ≠ gb437∧k_ ≠ gb446) (.slice Ao56 t425.length co56) t425):=⟨(by rw [hw];exact (by exact Kd.N_mono (nFN (g:=gb446) HO_430002.out (fun k_ hk=>hk.2)) (fun _ hk=>⟨hk.1.1,⟨hk.1.2.1,⟨hk.1.2.2.1,⟨hk.1.2.2.2.1,⟨hk.1.2.2.2.2.1,⟨hk.1.2.2.2.2.2.1,⟨hk.1.2.2.2.2.2.2,hk.2⟩⟩⟩⟩⟩⟩⟩)))⟩;have n3_:Aside0 (Kd.N k29 29 w101 w.heap.size (fun k_=>(P0_2_ k_ ∨ w.heap.size ≤ k_)∧some k_ ≠ (.slice (some ad445) t439.length co80:Value).ownBlock∧some k_ ≠ (.slice Ao56 t425.length co56:Value).ownBlock∧k_ ≠ gb403∧k_ ≠ gb404∧k_ ≠ gb429∧k_ ≠ gb437∧k_ ≠ gb446) (.slice Ao65 t433.length co65) t433):=⟨(by rw [hw];exact (by exact Kd.N_mono (nFN (g:=gb446) HO_438002.out (fun k_ hk=>hk.2)) (fun _ hk=>⟨hk.1.1,⟨hk.1.2.1,⟨hk.1.2.2.1,⟨hk.1.2.2.2.1,⟨hk.1.2.2.2.2.1,⟨hk.1.2.2.2.2.2.1,⟨hk.1.2.2.2.2.2.2,hk.2⟩⟩⟩⟩⟩⟩⟩)))⟩;have n4_:Aside0 (Kd.V k29 29 w101 w.heap.size (fun k_=>(P0_2_ k_ ∨ w.heap.size ≤ k_)∧some k_ ≠ (.slice (some ad445) t439.length co80:Value).ownBlock∧some k_ ≠ (.slice Ao56 t425.length co56:Value).ownBlock∧some k_ ≠ (.slice Ao65 t433.length co65:Value).ownBlock∧k_ ≠ gb403∧k_ ≠ gb404∧k_ ≠ gb429∧k_ ≠ gb437∧k_ ≠ gb446) (.slice A445_3 ((rd_T44 t439 x72_3).f1.f2).length c445_3) ((rd_T44 t439 x72_3).f1.f2)):=⟨(by rw [hw];exact (by exact Kd.V_mono (nFV (g:=gb446) HL445_3.out (fun k_ hk=>hk.2)) (fun _ hk=>⟨hk.1.1.1,⟨hk.1.2,⟨hk.1.1.2.1,⟨hk.1.1.2.2.1,⟨hk.1.1.2.2.2.1,⟨hk.1.1.2.2.2.2.1,⟨hk.1.1.2.2.2.2.2.1,⟨hk.1.1.2.2.2.2.2.2,hk.2⟩⟩⟩⟩⟩⟩⟩⟩)))⟩;have n5_:Aside0 (w101.heap[gb403]? = some (.cells #[.int .i64 a0_0,.int .i64 a0_1,.slice (some ad422) l0_2.length c0_2] 29 (0,0))):=⟨(by rw [hw];exact bF)⟩;have n6_:Aside0 (w101.heap[gb404]? = some (.cells #[.int .i64 x405000_3,.int .i64 x405001_3,.slice none 0 0] 29 (0,0))):=⟨(by rw [hw];exact bF)⟩;have n7_:Aside0 (w101.heap[gb429]? = some (.cells #[.int .i64 t423,.int .i64 t424,.slice Ao56 t425.length co56] 29 (0,0))):=⟨(by rw [hw];exact bF)⟩;have n8_:Aside0 (w101.heap[gb437]? = some (.cells #[.int .i64 t431,.int .i64 t432,.slice Ao65 t433.length co65] 29 (0,0))):=⟨(by rw [hw];exact bF)⟩;have n9_:Aside0 (w101.heap[gb446]? = some (.cells #[.int .i64 ((rd_T44 t439 x72_3).f0),.int .i64 ((rd_T44 t439 x72_3).f1.f0),.int .i64 ((rd_T44 t439 x72_3).f1.f1),.slice A445_3 ((rd_T44 t439 x72_3).f1.f2).length c445_3] 44 (0,0))):=⟨(by rw [hw];exact bP)⟩;have n10_:Aside0 (Below w.heap.size w w101):=⟨(by rw [hw];exact bB)⟩;clear hw;clear HO_70;clear HO_404002;clear HO_430002;clear HO_438002;clear HL445_3;clear BK403;clear BK404;clear BK429;clear BK437;clear BK446;clear HB;have HO_70:=n0_;have HO_404002:=n1_;have HO_430002:=n2_;have HO_438002:=n3_;have HL445_3:=n4_;have BK403:=n5_;have BK404:=n6_;have BK429:=n7_;have BK437:=n8_;have BK446:=n9_;have HB:=n10_;clear n0_ n1_ n2_ n3_ n4_ n5_ n6_ n7_ n8_ n9_ n10_;have hcz102_0:w101.cell? ⟨gb446,0,none⟩ = some (.int .i64 ((rd_T44 t439 x72_3).f0)):=(blk_cell BK446.out 0).trans rfl;have hcz102_1:w101.cell? ⟨gb446,1,none⟩ = some (.int .i64 ((rd_T44 t439 x72_3).f1.f0)):=(blk_cell BK446.out 1).trans rfl;have hcz102_2:w101.cell? ⟨gb446,2,none⟩ = some (.int .i64 ((rd_T44 t439 x72_3).f1.f1)):=(blk_cell BK446.out 2).trans rfl;have hcz102_3:w101.cell? ⟨gb446,3,none⟩ = some (.slice A445_3 ((rd_T44 t439 x72_3).f1.f2).length c445_3):=(blk_cell BK446.out 3).trans rfl;have hfz102_0:=blk_frozen BK446.out 0;have hfz102_1:=blk_frozen BK446.out 1;have hfz102_2:=blk_frozen BK446.out 2;have hfz102_3:=blk_frozen BK446.out 3;have hnb103:=NB403_404.out;have hnc103:=NB404_403.out;have hnb104:=NB403_429.out;have hnc104:=NB429_403.out;have hnb105:=NB403_437.out;have hnc105:=NB437_403.out;obtain ⟨hcz106_0,hcz106_1,hcz106_2,hfz106_0,hfz106_1,hfz106_2⟩:=cz3 BK403.out;have p447:0 ≤ (1:Int):=(by omega);have q447:1 < (l0_2.length:Int):=of_decide_eq_true (by assumption);obtain ⟨ad447,A447_2,c447_2,e447,hx447_0,hx447_1,hx447_2,hl447_2,hi447_2⟩:=at_T29 (Kd.V_reads' HO_404002.out).2.2 1 p447 q447;obtain rfl:ad422 = ad447:=(by injection e447);obtain ⟨ce447,hce447,hMe447,hcc447⟩:=Kd.V_get HO_404002.out z29 1 p447 (by first | exact q447 | exact of_decide_eq_true (by assumption) | (have e_:=(Kd.V_reads' HO_404002.out).1;omega));obtain ⟨ua447_2,uc447_2,rfl,ul447_2,ge447_2⟩:=k29_openF hMe447;have hv447_2:=hcc447 2 _ rfl;rw [add_field _ _ 2 (by omega)] at hv447_2;replace hv447_2:=Option.some.inj (hv447_2.symm.trans hx447_2);injection hv447_2 with hva_ hvn_ hvc_;rw [hva_] at ge447_2;rw [hvc_] at ul447_2;have HL447_2:=aQ (show Kd.V k29 29 _ w.heap.size _ _ ((rd_T29 l0_2 1).f2) from Kd.V_mk ul447_2 ge447_2);clear hva_ hvn_ hvc_ ge447_2 ul447_2;clear hcc447 hce447;(try simp only [show (1:Int).toNat = 1 from rfl,Nat.reduceMul,Nat.reduceEqDiff,Go.Addr.add,↓reduceIte] at hx447_0);(try simp only [show (1:Int).toNat = 1 from rfl,Nat.reduceMul,Nat.reduceEqDiff,Go.Addr.add,↓reduceIte] at hx447_1);(try simp only [show (1:Int).toNat = 1 from rfl,Nat.reduceMul,Nat.reduceEqDiff,Go.Addr.add,↓reduceIte] at hx447_2);have qi447:(1 < l0_2.length) = True:=eq_true (by omega);(try rw [show ((1:Int)).toNat = 1 from rfl,show 1 * 3 = 3 from rfl] at hx447_0 hx447_1 hx447_2);have HR447_2:=aQ hi447_2;have HC447_2:=aQ hl447_2;clear hi447_2 hl447_2;replace p447:=eq_true p447;replace q447:=eq_true q447) | (go_at_call 47;(with_reducible refine (impl_ticksOf.calls k3 ((rd_T29 l0_2 1).f0) ((rd_T29 l0_2 1).f1) (fun k_=>((P0_2_ k_ ∨ w.heap.size ≤ k_)∧(some k_ ≠ (.slice (some ad445) t439.length co80:Value).ownBlock∧(some k_ ≠ (.slice Ao56 t425.length co56:Value).ownBlock∧(some k_ ≠ (.slice Ao65 t433.length co65:Value).ownBlock∧(k_ ≠ gb403∧(k_ ≠ gb404∧(k_ ≠ gb429∧(k_ ≠ gb437∧k_ ≠ gb446))))))))) _ _ ((rd_T29 l0_2 1).f2) t448 _ ?side1 A92.out).mono ?_);(case side1=>exact HL447_2.out);rintro e w107 ⟨v449,rfl,ho0,hb⟩;have n0_:=aQ (Kd.N_elder' HO_70.out (Kd.N_base ho0) hb);have n1_:=aQ (Kd.V_elder' HO_404002.out (Kd.N_base ho0) hb);have n2_:=aQ (Kd.N_elder' HO_430002.out (Kd.N_base ho0) hb);have n3_:=aQ (Kd.N_elder' HO_438002.out (Kd.N_base ho0) hb);have n4_:=aQ (Kd.V_elder' HL445_3.out (Kd.N_base ho0) hb);have n5_:=aQ (Kd.V_elder' HL447_2.out (Kd.N_base ho0) hb);have n6_:=aQ (Kd.N_lower (Kd.N_mono (ok':=fun k_=>(P0_2_ k_ ∨ w.heap.size ≤ k_)∧some k_ ≠ (.slice (some ad445) t439.length co80:Value).ownBlock∧some k_ ≠ (.slice Ao56 t425.length co56:Value).ownBlock∧some k_ ≠ (.slice Ao65 t433.length co65:Value).ownBlock∧k_ ≠ gb403∧k_ ≠ gb404∧k_ ≠ gb429∧k_ ≠ gb437∧k_ ≠ gb446) ho0 (fun k_ hk_=>⟨Or.elim hk_ (fun hs_=>hs_.1) (fun hn_=>(.inr (Nat.le_trans (below_size bB) hn_))),Or.elim hk_ (fun hs_=>hs_.2.1) (fun hn_=>(Kd.fresh' (Kd.N_lt HO_70.out) k_ hn_)),Or.elim hk_ (fun hs_=>hs_.2.2.1) (fun hn_=>(Kd.fresh' (Kd.N_lt HO_430002.out) k_ hn_)),Or.elim hk_ (fun hs_=>hs_.2.2.2.1) (fun hn_=>(Kd.fresh' (Kd.N_lt HO_438002.out) k_ hn_)),Or.elim hk_ (fun hs_=>hs_.2.2.2.2.1) (fun hn_=>(Kd.freshB BK403.out k_ hn_)),Or.elim hk_ (fun hs_=>hs_.2.2.2.2.2.1) (fun hn_=>(Kd.freshB BK404.out k_ hn_)),Or.elim hk_ (fun hs_=>hs_.2.2.2.2.2.2.1) (fun hn_=>(Kd.freshB BK429.out k_ hn_)),Or.elim hk_ (fun hs_=>hs_.2.2.2.2.2.2.2.1) (fun hn_=>(Kd.freshB BK437.out k_ hn_)),Or.elim hk_ (fun hs_=>hs_.2.2.2.2.2.2.2.2) (fun hn_=>(Kd.freshB BK446.out k_ hn_))⟩)) (below_size bB));have n7_:=aQ (blk_below BK403.out hb);have n8_:=aQ (blk_below BK404.out hb);have n9_:=aQ (blk_below BK429.out hb);have n10_:=aQ (blk_below BK437.out hb);have n12_:=aQ (blk_below BK446.out hb);have n13_:=aQ (Kd.C_below (nC HR447_2.out) hb);have n14_:=aQ (below_step bB hb);clear HO_70;clear HO_404002;clear HO_430002;clear HO_438002;clear HL445_3;clear HL447_2;clear BK403;clear BK404;clear BK429;clear BK437;(try clear HR445_3);clear BK446;clear HR447_2;clear HB;have HO_70:=n0_;have HO_404002:=n1_;have HO_430002:=n2_;have HO_438002:=n3_;have HL445_3:=n4_;have HL447_2:=n5_;have HO450:=n6_;have BK403:=n7_;have BK404:=n8_;have BK429:=n9_;have BK437:=n10_;have BK446:=n12_;have HR447_2:=n13_;have HB:=n14_;clear n0_ n1_ n2_ n3_ n4_ n5_ n6_ n7_ n8_ n9_ n10_ n12_ n13_ n14_;(try clear hb);(try clear ho0);obtain ⟨Ao108,co108,eo108⟩:=Kd.N_slice HO450.out;subst eo108) | (go_at_call 63;(with_reducible refine (impl_partner.calls gb446 ((rd_T44 t439 x72_3).f1.f0) ((rd_T44 t439 x72_3).f1.f1) (.slice A445_3 ((rd_T44 t439 x72_3).f1.f2).length c445_3) _ _ t448 ((rd_T44 t439 x72_3).f0) true _ ?side0 ?side1 ?side2 A93.out).mono ?_);(case side0=>exact BK446.out);(case side1=>exact (Kd.N_reads' HO450.out).2.2);(case side2=>exact (Kd.N_reads' HO450.out).2.1);rintro e w109 ⟨rfl,hb⟩;have n0_:=aQ (Kd.N_below HO_70.out hb);have n1_:=aQ (Kd.V_below HO_404002.out hb);have n2_:=aQ (Kd.N_below HO_430002.out hb);have n3_:=aQ (Kd.N_below HO_438002.out hb);have n4_:=aQ (Kd.V_below HL445_3.out hb);have n5_:=aQ (Kd.V_below HL447_2.out hb);have n6_:=aQ (Kd.N_below HO450.out hb);have n7_:=aQ (blk_below BK403.out hb);have n8_:=aQ (blk_below BK404.out hb);have n9_:=aQ (blk_below BK429.out hb);have n10_:=aQ (blk_below BK437.out hb);have n12_:=aQ (blk_below BK446.out hb);have n13_:=aQ (Kd.C_below (nC HR447_2.out) hb);have n14_:=aQ (below_step bB hb);clear HO_70;clear HO_404002;clear HO_430002;clear HO_438002;clear HL445_3;clear HL447_2;clear HO450;clear BK403;clear BK404;clear BK429;clear BK437;clear BK446;clear HR447_2;clear HB;have HO_70:=n0_;have HO_404002:=n1_;have HO_430002:=n2_;have HO_438002:=n3_;have HL445_3:=n4_;have HL447_2:=n5_;have HO450:=n6_;have BK403:=n7_;have BK404:=n8_;have BK429:=n9_;have BK437:=n10_;have BK446:=n12_;have HR447_2:=n13_;have HB:=n14_;clear n0_ n1_ n2_ n3_ n4_ n5_ n6_ n7_ n8_ n9_ n10_ n12_ n13_ n14_;(try clear hb);have hnb110:=NB404_429.out;have hnc110:=NB429_404.out;have hnb111:=NB404_437.out;have hnc111:=NB437_404.out;obtain ⟨hcz112_0,hcz112_1,hcz112_2,hfz112_0,hfz112_1,hfz112_2⟩:=cz3 BK404.out))
          refine bodyPost_ret (results_ct rfl _ _ gb404 29 #[.int .i64 0,.int .i64 0,.slice none 0 0] (0,0) _ rfl bP Try.underlying29 rfl (by kernel_rfl)) rfl ?_
          exact ⟨_,rfl,by first | exact Kd.R_nil _ _ _ _ _ | exact Kd.N_nil _ _ _ _ _ | exact Kd.V_nil _ _ _ _ _ | exact Kd.Q_nil _ _ _ _ _ | exact Kd.S_nil _ _ _ _ _,bB⟩
         ·replace c94:=Bool.eq_false_iff.mpr c94
          subst c94
          have H1:(impl_pass.l0 k3 t439 (t439.length:Int) (wrap64 (x72_3 + 1)) a0_0 a0_1 l0_2 t423 t424 t425 t431 t432 t433) = some (r1,r2,r3,r4):=by rw [if_neg (show ¬ (false = true) by decide)] at H;exact H
          clear H
          have H:=H1
          clear H1
          have H':=aQ H
          clear H
          have p445:0 ≤ (x72_3:Int):=of_decide_eq_true (by assumption)
          have q445:x72_3 < (t439.length:Int):=of_decide_eq_true (by assumption)
          obtain ⟨ad445,A445_3,c445_3,e445,hx445_0,hx445_1,hx445_2,hx445_3,hl445_3,hi445_3⟩:=at_T44 (Kd.N_reads' HO_70.out).2.2 x72_3 p445 q445
          cases e445
          obtain ⟨ce445,hce445,hMe445,hcc445⟩:=Kd.N_get HO_70.out z44 x72_3 p445 (by first | exact q445 | exact of_decide_eq_true (by assumption) | (have e_:=(Kd.N_reads' HO_70.out).1;omega))
          obtain ⟨ua445_3,uc445_3,rfl,ul445_3,ge445_3⟩:=k44_openF hMe445
          have hv445_3:=hcc445 3 _ rfl
          rw [add_field _ _ 3 (by omega)] at hv445_3
          replace hv445_3:=Option.some.inj (hv445_3.symm.trans hx445_3)
          injection hv445_3 with hva_ hvn_ hvc_
          rw [hva_] at ge445_3
          rw [hvc_] at ul445_3
          have HL445_3:=aQ (show Kd.V k29 29 _ w.heap.size _ _ ((rd_T44 t439 x72_3).f1.f2) from Kd.V_mk ul445_3 ge445_3)
          clear hva_ hvn_ hvc_ ge445_3 ul445_3
          clear hcc445 hce445
          have HR445_3:=aQ hi445_3
          have HC445_3:=aQ hl445_3
          clear hi445_3 hl445_3
          replace p445:=eq_true p445
          replace q445:=eq_true q445
          go_wp2_with (first | ((with_reducible refine gate_dst (N:=10) rfl ?_);refine box1 (N:=10) (cs:=#[.int .i64 0,.int .i64 0,.int .i64 0,.slice none 0 0]) (t:=44) ?_;intro gb446 hg w113 hbox hb;replace HO_70:=aQ (Kd.N_below (Kd.N_elderB HO_70.out gb446 (Nat.le_of_eq hg.symm)) hb);replace HO_404002:=aQ (Kd.V_below (Kd.V_elderB HO_404002.out gb446 (Nat.le_of_eq hg.symm)) hb);replace HO_430002:=aQ (Kd.N_below (Kd.N_elderB HO_430002.out gb446 (Nat.le_of_eq hg.symm)) hb);replace HO_438002:=aQ (Kd.N_below (Kd.N_elderB HO_438002.out gb446 (Nat.le_of_eq hg.symm)) hb);replace HL445_3:=aQ (Kd.V_below (Kd.V_elderB HL445_3.out gb446 (Nat.le_of_eq hg.symm)) hb);replace HR445_3:=aQ (Kd.C_below (nC HR445_3.out) hb);have BK446:=aQ (hbox);have GW446:=aQ (gB:w.heap.size ≤ gb446);have GE446:=GW446;replace HB:=aQ (below_step bB hb);have NB403_446:=aQ ((by rw [hg];exact Nat.ne_of_lt (blk_lt BK403.out):gb403 ≠ gb446));have NB446_403:=aQ NB403_446.out.symm;replace BK403:=aQ (blk_below BK403.out hb);have NB404_446:=aQ ((by rw [hg];exact Nat.ne_of_lt (blk_lt BK404.out):gb404 ≠ gb446));have NB446_404:=aQ NB404_446.out.symm;replace BK404:=aQ (blk_below BK404.out hb);have NB429_446:=aQ ((by rw [hg];exact Nat.ne_of_lt (blk_lt BK429.out):gb429 ≠ gb446));have NB446_429:=aQ NB429_446.out.symm;replace BK429:=aQ (blk_below BK429.out hb);have NB437_446:=aQ ((by rw [hg];exact Nat.ne_of_lt (blk_lt BK437.out):gb437 ≠ gb446));have NB446_437:=aQ NB437_446.out.symm;replace BK437:=aQ (blk_below BK437.out hb);clear hb hbox hg;have hnb114:=NB446_403.out;have hnc114:=NB403_446.out;have hnb115:=NB446_404.out;have hnc115:=NB404_446.out;have hnb116:=NB446_429.out;have hnc116:=NB429_446.out;have hnb117:=NB446_437.out;have hnc117:=NB437_446.out;have hcz118_0:w113.cell? ⟨gb446,0,none⟩ = some (.int .i64 0):=(blk_cell BK446.out 0).trans rfl;have hcz118_1:w113.cell? ⟨gb446,1,none⟩ = some (.int .i64 0):=(blk_cell BK446.out 1).trans rfl;have hcz118_2:w113.cell? ⟨gb446,2,none⟩ = some (.int .i64 0):=(blk_cell BK446.out 2).trans rfl;have hcz118_3:w113.cell? ⟨gb446,3,none⟩ = some (.slice none 0 0):=(blk_cell BK446.out 3).trans rfl;have hfz118_0:=blk_frozen BK446.out 0;have hfz118_1:=blk_frozen BK446.out 1;have hfz118_2:=blk_frozen BK446.out 2;have hfz118_3:=blk_frozen BK446.out 3) | ((with_reducible refine gate_store (t:=44) (p:=10) rfl ?_);refine store_event (t:=44) (p:=10) (v:=?vo_w119) (w1:=((((w113.setCell ⟨gb446,0,none⟩ (.int .i64 ((rd_T44 t439 x72_3).f0))).setCell ⟨gb446,1,none⟩ (.int .i64 ((rd_T44 t439 x72_3).f1.f0))).setCell ⟨gb446,2,none⟩ (.int .i64 ((rd_T44 t439 x72_3).f1.f1))).setCell ⟨gb446,3,none⟩ (.slice A445_3 ((rd_T44 t439 x72_3).f1.f2).length c445_3))) ?hg ?ho ?hn ?hr ?_;(case ho=>rfl);(case hg=>rfl);(case hn=>rfl);(case hr=>first | (go_simp;done) | (go_simp;rfl));intro w119 hw;have n0_:Aside0 (Kd.N k44 44 w119 w.heap.size (fun k_=>(P0_2_ k_ ∨ w.heap.size ≤ k_)∧some k_ ≠ (.slice Ao56 t425.length co56:Value).ownBlock∧some k_ ≠ (.slice Ao65 t433.length co65:Value).ownBlock∧k_ ≠ gb403∧k_ ≠ gb404∧k_ ≠ gb429∧k_ ≠ gb437∧k_ ≠ gb446) (.slice (some ad445) t439.length co80) t439):=⟨(by rw [hw];exact (by exact Kd.N_mono (nFN (g:=gb446) HO_70.out (fun k_ hk=>hk.2)) (fun _ hk=>⟨hk.1.1,⟨hk.1.2.1,⟨hk.1.2.2.1,⟨hk.1.2.2.2.1,⟨hk.1.2.2.2.2.1,⟨hk.1.2.2.2.2.2.1,⟨hk.1.2.2.2.2.2.2,hk.2⟩⟩⟩⟩⟩⟩⟩)))⟩;have n1_:Aside0 (Kd.V k29 29 w119 w.heap.size (fun k_=>(P0_2_ k_ ∨ w.heap.size ≤ k_)∧some k_ ≠ (.slice (some ad445) t439.length co80:Value).ownBlock∧some k_ ≠ (.slice Ao56 t425.length co56:Value).ownBlock∧some k_ ≠ (.slice Ao65 t433.length co65:Value).ownBlock∧k_ ≠ gb403∧k_ ≠ gb404∧k_ ≠ gb429∧k_ ≠ gb437∧k_ ≠ gb446) (.slice (some ad422) l0_2.length c0_2) l0_2):=⟨(by rw [hw];exact (by exact Kd.V_mono (nFV (g:=gb446) HO_404002.out (fun k_ hk=>hk.2)) (fun _ hk=>⟨hk.1.1,⟨hk.1.2.1,⟨hk.1.2.2.1,⟨hk.1.2.2.2.1,⟨hk.1.2.2.2.2.1,⟨hk.1.2.2.2.2.2.1,⟨hk.1.2.2.2.2.2.2.1,⟨hk.1.2.2.2.2.2.2.2,hk.2⟩⟩⟩⟩⟩⟩⟩⟩)))⟩;have n2_:Aside0 (Kd.N k29 29 w119 w.heap.size (fun k_=>(P0_2_ k_ ∨ w.heap.size ≤ k_)∧some k_ ≠ (.slice (some ad445) t439.length co80:Value).ownBlock∧some k_ ≠ (.slice Ao65 t433.length co65:Value).ownBlock∧k_ ≠ gb403∧k_ ≠ gb404∧k_ ≠ gb429∧k_ ≠ gb437∧k_ ≠ gb446) (.slice Ao56 t425.length co56) t425):=⟨(by rw [hw];exact (by exact Kd.N_mono (nFN (g:=gb446) HO_430002.out (fun k_ hk=>hk.2)) (fun _ hk=>⟨hk.1.1,⟨hk.1.2.1,⟨hk.1.2.2.1,⟨hk.1.2.2.2.1,⟨hk.1.2.2.2.2.1,⟨hk.1.2.2.2.2.2.1,⟨hk.1.2.2.2.2.2.2,hk.2⟩⟩⟩⟩⟩⟩⟩)))⟩;have n3_:Aside0 (Kd.N k29 29 w119 w.heap.size (fun k_=>(P0_2_ k_ ∨ w.heap.size ≤ k_)∧some k_ ≠ (.slice (some ad445) t439.length co80:Value).ownBlock∧some k_ ≠ (.slice Ao56 t425.length co56:Value).ownBlock∧k_ ≠ gb403∧k_ ≠ gb404∧k_ ≠ gb429∧k_ ≠ gb437∧k_ ≠ gb446) (.slice Ao65 t433.length co65) t433):=⟨(by rw [hw];exact (by exact Kd.N_mono (nFN (g:=gb446) HO_438002.out (fun k_ hk=>hk.2)) (fun _ hk=>⟨hk.1.1,⟨hk.1.2.1,⟨hk.1.2.2.1,⟨hk.1.2.2.2.1,⟨hk.1.2.2.2.2.1,⟨hk.1.2.2.2.2.2.1,⟨hk.1.2.2.2.2.2.2,hk.2⟩⟩⟩⟩⟩⟩⟩)))⟩;have n4_:Aside0 (Kd.V k29 29 w119 w.heap.size (fun k_=>(P0_2_ k_ ∨ w.heap.size ≤ k_)∧some k_ ≠ (.slice (some ad445) t439.length co80:Value).ownBlock∧some k_ ≠ (.slice Ao56 t425.length co56:Value).ownBlock∧some k_ ≠ (.slice Ao65 t433.length co65:Value).ownBlock∧k_ ≠ gb403∧k_ ≠ gb404∧k_ ≠ gb429∧k_ ≠ gb437∧k_ ≠ gb446) (.slice A445_3 ((rd_T44 t439 x72_3).f1.f2).length c445_3) ((rd_T44 t439 x72_3).f1.f2)):=⟨(by rw [hw];exact (by exact Kd.V_mono (nFV (g:=gb446) HL445_3.out (fun k_ hk=>hk.2)) (fun _ hk=>⟨hk.1.1.1,⟨hk.1.2,⟨hk.1.1.2.1,⟨hk.1.1.2.2.1,⟨hk.1.1.2.2.2.1,⟨hk.1.1.2.2.2.2.1,⟨hk.1.1.2.2.2.2.2.1,⟨hk.1.1.2.2.2.2.2.2,hk.2⟩⟩⟩⟩⟩⟩⟩⟩)))⟩;have n5_:Aside0 (w119.heap[gb403]? = some (.cells #[.int .i64 a0_0,.int .i64 a0_1,.slice (some ad422) l0_2.length c0_2] 29 (0,0))):=⟨(by rw [hw];exact bF)⟩;have n6_:Aside0 (w119.heap[gb404]? = some (.cells #[.int .i64 x405000_3,.int .i64 x405001_3,.slice none 0 0] 29 (0,0))):=⟨(by rw [hw];exact bF)⟩;have n7_:Aside0 (w119.heap[gb429]? = some (.cells #[.int .i64 t423,.int .i64 t424,.slice Ao56 t425.length co56] 29 (0,0))):=⟨(by rw [hw];exact bF)⟩;have n8_:Aside0 (w119.heap[gb437]? = some (.cells #[.int .i64 t431,.int .i64 t432,.slice Ao65 t433.length co65] 29 (0,0))):=⟨(by rw [hw];exact bF)⟩;have n9_:Aside0 (w119.heap[gb446]? = some (.cells #[.int .i64 ((rd_T44 t439 x72_3).f0),.int .i64 ((rd_T44 t439 x72_3).f1.f0),.int .i64 ((rd_T44 t439 x72_3).f1.f1),.slice A445_3 ((rd_T44 t439 x72_3).f1.f2).length c445_3] 44 (0,0))):=⟨(by rw [hw];exact bP)⟩;have n10_:Aside0 (Below w.heap.size w w119):=⟨(by rw [hw];exact bB)⟩;clear hw;clear HO_70;clear HO_404002;clear HO_430002;clear HO_438002;clear HL445_3;clear BK403;clear BK404;clear BK429;clear BK437;clear BK446;clear HB;have HO_70:=n0_;have HO_404002:=n1_;have HO_430002:=n2_;have HO_438002:=n3_;have HL445_3:=n4_;have BK403:=n5_;have BK404:=n6_;have BK429:=n7_;have BK437:=n8_;have BK446:=n9_;have HB:=n10_;clear n0_ n1_ n2_ n3_ n4_ n5_ n6_ n7_ n8_ n9_ n10_;have hcz120_0:w119.cell? ⟨gb446,0,none⟩ = some (.int .i64 ((rd_T44 t439 x72_3).f0)):=(blk_cell BK446.out 0).trans rfl;have hcz120_1:w119.cell? ⟨gb446,1,none⟩ = some (.int .i64 ((rd_T44 t439 x72_3).f1.f0)):=(blk_cell BK446.out 1).trans rfl;have hcz120_2:w119.cell? ⟨gb446,2,none⟩ = some (.int .i64 ((rd_T44 t439 x72_3).f1.f1)):=(blk_cell BK446.out 2).trans rfl;have hcz120_3:w119.cell? ⟨gb446,3,none⟩ = some (.slice A445_3 ((rd_T44 t439 x72_3).f1.f2).length c445_3):=(blk_cell BK446.out 3).trans rfl;have hfz120_0:=blk_frozen BK446.out 0;have hfz120_1:=blk_frozen BK446.out 1;have hfz120_2:=blk_frozen BK446.out 2;have hfz120_3:=blk_frozen BK446.out 3;have hnb121:=NB403_404.out;have hnc121:=NB404_403.out;have hnb122:=NB403_429.out;have hnc122:=NB429_403.out;have hnb123:=NB403_437.out;have hnc123:=NB437_403.out;obtain ⟨hcz124_0,hcz124_1,hcz124_2,hfz124_0,hfz124_1,hfz124_2⟩:=cz3 BK403.out;have p447:0 ≤ (1:Int):=(by omega);have q447:1 < (l0_2.length:Int):=of_decide_eq_true (by assumption);obtain ⟨ad447,A447_2,c447_2,e447,hx447_0,hx447_1,hx447_2,hl447_2,hi447_2⟩:=at_T29 (Kd.V_reads' HO_404002.out).2.2 1 p447 q447;obtain rfl:ad422 = ad447:=(by injection e447);obtain ⟨ce447,hce447,hMe447,hcc447⟩:=Kd.V_get HO_404002.out z29 1 p447 (by first | exact q447 | exact of_decide_eq_true (by assumption) | (have e_:=(Kd.V_reads' HO_404002.out).1;omega));obtain ⟨ua447_2,uc447_2,rfl,ul447_2,ge447_2⟩:=k29_openF hMe447;have hv447_2:=hcc447 2 _ rfl;rw [add_field _ _ 2 (by omega)] at hv447_2;replace hv447_2:=Option.some.inj (hv447_2.symm.trans hx447_2);injection hv447_2 with hva_ hvn_ hvc_;rw [hva_] at ge447_2;rw [hvc_] at ul447_2;have HL447_2:=aQ (show Kd.V k29 29 _ w.heap.size _ _ ((rd_T29 l0_2 1).f2) from Kd.V_mk ul447_2 ge447_2);clear hva_ hvn_ hvc_ ge447_2 ul447_2;clear hcc447 hce447;(try simp only [show (1:Int).toNat = 1 from rfl,Nat.reduceMul,Nat.reduceEqDiff,Go.Addr.add,↓reduceIte] at hx447_0);(try simp only [show (1:Int).toNat = 1 from rfl,Nat.reduceMul,Nat.reduceEqDiff,Go.Addr.add,↓reduceIte] at hx447_1);(try simp only [show (1:Int).toNat = 1 from rfl,Nat.reduceMul,Nat.reduceEqDiff,Go.Addr.add,↓reduceIte] at hx447_2);have qi447:(1 < l0_2.length) = True:=eq_true (by omega);(try rw [show ((1:Int)).toNat = 1 from rfl,show 1 * 3 = 3 from rfl] at hx447_0 hx447_1 hx447_2);have HR447_2:=aQ hi447_2;have HC447_2:=aQ hl447_2;clear hi447_2 hl447_2;replace p447:=eq_true p447;replace q447:=eq_true q447) | (go_at_call 47;(with_reducible refine (impl_ticksOf.calls k3 ((rd_T29 l0_2 1).f0) ((rd_T29 l0_2 1).f1) (fun k_=>((P0_2_ k_ ∨ w.heap.size ≤ k_)∧(some k_ ≠ (.slice (some ad445) t439.length co80:Value).ownBlock∧(some k_ ≠ (.slice Ao56 t425.length co56:Value).ownBlock∧(some k_ ≠ (.slice Ao65 t433.length co65:Value).ownBlock∧(k_ ≠ gb403∧(k_ ≠ gb404∧(k_ ≠ gb429∧(k_ ≠ gb437∧k_ ≠ gb446))))))))) _ _ ((rd_T29 l0_2 1).f2) t448 _ ?side1 A92.out).mono ?_);(case side1=>exact HL447_2.out);rintro e w125 ⟨v449,rfl,ho0,hb⟩;have n0_:=aQ (Kd.N_elder' HO_70.out (Kd.N_base ho0) hb);have n1_:=aQ (Kd.V_elder' HO_404002.out (Kd.N_base ho0) hb);have n2_:=aQ (Kd.N_elder' HO_430002.out (Kd.N_base ho0) hb);have n3_:=aQ (Kd.N_elder' HO_438002.out (Kd.N_base ho0) hb);have n4_:=aQ (Kd.V_elder' HL445_3.out (Kd.N_base ho0) hb);have n5_:=aQ (Kd.V_elder' HL447_2.out (Kd.N_base ho0) hb);have n6_:=aQ (Kd.N_lower (Kd.N_mono (ok':=fun k_=>(P0_2_ k_ ∨ w.heap.size ≤ k_)∧some k_ ≠ (.slice (some ad445) t439.length co80:Value).ownBlock∧some k_ ≠ (.slice Ao56 t425.length co56:Value).ownBlock∧some k_ ≠ (.slice Ao65 t433.length co65:Value).ownBlock∧k_ ≠ gb403∧k_ ≠ gb404∧k_ ≠ gb429∧k_ ≠ gb437∧k_ ≠ gb446) ho0 (fun k_ hk_=>⟨Or.elim hk_ (fun hs_=>hs_.1) (fun hn_=>(.inr (Nat.le_trans (below_size bB) hn_))),Or.elim hk_ (fun hs_=>hs_.2.1) (fun hn_=>(Kd.fresh' (Kd.N_lt HO_70.out) k_ hn_)),Or.elim hk_ (fun hs_=>hs_.2.2.1) (fun hn_=>(Kd.fresh' (Kd.N_lt HO_430002.out) k_ hn_)),Or.elim hk_ (fun hs_=>hs_.2.2.2.1) (fun hn_=>(Kd.fresh' (Kd.N_lt HO_438002.out) k_ hn_)),Or.elim hk_ (fun hs_=>hs_.2.2.2.2.1) (fun hn_=>(Kd.freshB BK403.out k_ hn_)),Or.elim hk_ (fun hs_=>hs_.2.2.2.2.2.1) (fun hn_=>(Kd.freshB BK404.out k_ hn_)),Or.elim hk_ (fun hs_=>hs_.2.2.2.2.2.2.1) (fun hn_=>(Kd.freshB BK429.out k_ hn_)),Or.elim hk_ (fun hs_=>hs_.2.2.2.2.2.2.2.1) (fun hn_=>(Kd.freshB BK437.out k_ hn_)),Or.elim hk_ (fun hs_=>hs_.2.2.2.2.2.2.2.2) (fun hn_=>(Kd.freshB BK446.out k_ hn_))⟩)) (below_size bB));have n7_:=aQ (blk_below BK403.out hb);have n8_:=aQ (blk_below BK404.out hb);have n9_:=aQ (blk_below BK429.out hb);have n10_:=aQ (blk_below BK437.out hb);have n12_:=aQ (blk_below BK446.out hb);have n13_:=aQ (Kd.C_below (nC HR447_2.out) hb);have n14_:=aQ (below_step bB hb);clear HO_70;clear HO_404002;clear HO_430002;clear HO_438002;clear HL445_3;clear HL447_2;clear BK403;clear BK404;clear BK429;clear BK437;(try clear HR445_3);clear BK446;clear HR447_2;clear HB;have HO_70:=n0_;have HO_404002:=n1_;have HO_430002:=n2_;have HO_438002:=n3_;have HL445_3:=n4_;have HL447_2:=n5_;have HO450:=n6_;have BK403:=n7_;have BK404:=n8_;have BK429:=n9_;have BK437:=n10_;have BK446:=n12_;have HR447_2:=n13_;have HB:=n14_;clear n0_ n1_ n2_ n3_ n4_ n5_ n6_ n7_ n8_ n9_ n10_ n12_ n13_ n14_;(try clear hb);(try clear ho0);obtain ⟨Ao126,co126,eo126⟩:=Kd.N_slice HO450.out;subst eo126) | (go_at_call 63;(with_reducible refine (impl_partner.calls gb446 ((rd_T44 t439 x72_3).f1.f0) ((rd_T44 t439 x72_3).f1.f1) (.slice A445_3 ((rd_T44 t439 x72_3).f1.f2).length c445_3) _ _ t448 ((rd_T44 t439 x72_3).f0) false _ ?side0 ?side1 ?side2 A93.out).mono ?_);(case side0=>exact BK446.out);(case side1=>exact (Kd.N_reads' HO450.out).2.2);(case side2=>exact (Kd.N_reads' HO450.out).2.1);rintro e w127 ⟨rfl,hb⟩;have n0_:=aQ (Kd.N_below HO_70.out hb);have n1_:=aQ (Kd.V_below HO_404002.out hb);have n2_:=aQ (Kd.N_below HO_430002.out hb);have n3_:=aQ (Kd.N_below HO_438002.out hb);have n4_:=aQ (Kd.V_below HL445_3.out hb);have n5_:=aQ (Kd.V_below HL447_2.out hb);have n6_:=aQ (Kd.N_below HO450.out hb);have n7_:=aQ (blk_below BK403.out hb);have n8_:=aQ (blk_below BK404.out hb);have n9_:=aQ (blk_below BK429.out hb);have n10_:=aQ (blk_below BK437.out hb);have n12_:=aQ (blk_below BK446.out hb);have n13_:=aQ (Kd.C_below (nC HR447_2.out) hb);have n14_:=aQ (below_step bB hb);clear HO_70;clear HO_404002;clear HO_430002;clear HO_438002;clear HL445_3;clear HL447_2;clear HO450;clear BK403;clear BK404;clear BK429;clear BK437;clear BK446;clear HR447_2;clear HB;have HO_70:=n0_;have HO_404002:=n1_;have HO_430002:=n2_;have HO_438002:=n3_;have HL445_3:=n4_;have HL447_2:=n5_;have HO450:=n6_;have BK403:=n7_;have BK404:=n8_;have BK429:=n9_;have BK437:=n10_;have BK446:=n12_;have HR447_2:=n13_;have HB:=n14_;clear n0_ n1_ n2_ n3_ n4_ n5_ n6_ n7_ n8_ n9_ n10_ n12_ n13_ n14_;(try clear hb)))
          go_roundg k3
          case measure=>have:=HJ36.out;have:=HJ47.out;have:=HK3.out;omega
          case rel=>exact ⟨(wrap64 (x72_3 + 1)),(x405000_3),(x405001_3),rfl,H',⟨by have:=HJ36.out;have:=HJ47.out;have:=HK3.out;omega⟩,⟨by exact Kd.N_mono HO_70.out (fun _ hk=>⟨hk.1.1,⟨hk.1.2.1,⟨hk.1.2.2.1,⟨hk.1.2.2.2.1,⟨hk.1.2.2.2.2.1,⟨hk.1.2.2.2.2.2.1,hk.1.2.2.2.2.2.2.1⟩⟩⟩⟩⟩⟩)⟩,⟨by exact Kd.V_mono HO_404002.out (fun _ hk=>⟨hk.1.1,⟨hk.1.2.1,⟨hk.1.2.2.1,⟨hk.1.2.2.2.1,⟨hk.1.2.2.2.2.1,⟨hk.1.2.2.2.2.2.1,⟨hk.1.2.2.2.2.2.2.1,hk.1.2.2.2.2.2.2.2.1⟩⟩⟩⟩⟩⟩⟩)⟩,⟨by exact Kd.N_mono HO_430002.out (fun _ hk=>⟨hk.1.1,⟨hk.1.2.1,⟨hk.1.2.2.1,⟨hk.1.2.2.2.1,⟨hk.1.2.2.2.2.1,⟨hk.1.2.2.2.2.2.1,hk.1.2.2.2.2.2.2.1⟩⟩⟩⟩⟩⟩)⟩,⟨by exact Kd.N_mono HO_438002.out (fun _ hk=>⟨hk.1.1,⟨hk.1.2.1,⟨hk.1.2.2.1,⟨hk.1.2.2.2.1,⟨hk.1.2.2.2.2.1,⟨hk.1.2.2.2.2.2.1,hk.1.2.2.2.2.2.2.1⟩⟩⟩⟩⟩⟩)⟩,⟨BK403.out⟩,⟨BK404.out⟩,⟨BK429.out⟩,⟨BK437.out⟩,⟨bB⟩⟩
   ·replace c43:=Bool.eq_false_iff.mpr c43
    subst c43
    have H1:((impl_copyClock.f kj36 a0_0 a0_1 l0_2).bind fun bt455=>(some (bt455.1,bt455.2.1,bt455.2.2,true))) = some (r1,r2,r3,r4):=by rw [if_neg (show ¬ (false = true) by decide)] at H;exact H
    clear H
    have H:=H1
    clear H1
    obtain ⟨⟨t455,t456,t457⟩,A154,H⟩:=bQ H
    dsimp only at H
    simp only [Option.some.injEq,Prod.mk.injEq] at H
    obtain ⟨rfl,rfl,rfl,rfl⟩:=H
    have hnb155:=NB403_404.out
    have hnc155:=NB404_403.out
    obtain ⟨hcz156_0,hcz156_1,hcz156_2,hfz156_0,hfz156_1,hfz156_2⟩:=cz3 BK403.out
    go_wp2_with (first | ((with_reducible refine gate_callee (f:=48) rfl ?_);refine goesL_ (some 97) rfl rfl Try.func48 (by kernel_rfl) rfl #[.agg #[.int .i64 a0_0,.int .i64 a0_1,.slice A0_2 l0_2.length c0_2]] rfl mP ?_;(with_reducible refine (impl_copyClock.calls kj36 a0_0 a0_1 _ _ l0_2 t455 t456 t457 _ ?side1 ?side2 A154.out).mono ?_);(case side1=>exact (Kd.V_reads' HO_404002.out).2.2);(case side2=>exact (Kd.V_reads' HO_404002.out).2.1);rintro e w157 ⟨v458,rfl,ho0,hb⟩;refine ⟨_,rfl,?_⟩;replace HO_404002:=aQ (Kd.V_elder' HO_404002.out (Kd.N_base ho0) hb);have HO459:=aQ (Kd.N_lower (Kd.N_mono (ok':=fun k_=>(P0_2_ k_ ∨ w.heap.size ≤ k_)∧k_ ≠ gb403∧k_ ≠ gb404) ho0 (fun k_ hk_=>⟨(.inr (Nat.le_trans (below_size bB) hk_)),(Kd.freshB BK403.out k_ hk_),(Kd.freshB BK404.out k_ hk_)⟩)) (below_size bB));replace BK403:=aQ (blk_below BK403.out hb);replace BK404:=aQ (blk_below BK404.out hb);replace HB:=aQ (below_step bB hb);(try clear hb);(try clear ho0);obtain ⟨hcz158_0,hcz158_1,hcz158_2,hfz158_0,hfz158_1,hfz158_2⟩:=cz3 BK404.out;obtain ⟨Ao159,co159,eo159⟩:=Kd.N_slice HO459.out;subst eo159))
    refine bodyPost_ret (results_ct rfl _ _ gb404 29 #[.int .i64 t455,.int .i64 t456,.slice Ao159 t457.length co159] (0,0) _ rfl bP Try.underlying29 rfl (by kernel_rfl)) rfl ?_
    exact ⟨_,rfl,by exact Kd.N_mono (nFN (g:=gb404) HO459.out (fun k_ hk=>hk.2.2)) (fun _ hk=>hk.1),bB⟩
end Go.Proofs.Ytnkgcjdlfenepaa.P
