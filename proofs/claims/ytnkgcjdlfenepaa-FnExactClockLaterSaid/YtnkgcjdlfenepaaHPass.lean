/- A unit of time passes (impl.pass), with the closure that it hands to slices.ContainsFunc. No condition. -/
import Derived.Test.YtnkgcjdlfenepaaP0
import Derived.Test.YtnkgcjdlfenepaaP1
import Derived.Test.YtnkgcjdlfenepaaCut
import Derived.Test.YtnkgcjdlfenepaaAny
namespace Go.Proofs.Ytnkgcjdlfenepaa.P
open Go.RowKit Go.Proofs.YtnkgcjdlfenepaaW.PrintWords Go.Proofs.YtnkgcjdlfenepaaW.PrintLast Go.Proofs.YtnkgcjdlfenepaaW.PrintMore Go.Proofs.Ytnkgcjdlfenepaa.Any
attribute [local go_sem] max2_int min2_int max_two min_two max_three min_three max_four min_four
set_option linter.unusedVariables false
set_option linter.unusedSimpArgs false
def Pred44 (g:Nat) (lb:Array Value) (p:S44 → Option Bool) (w:World):Prop :=
 ∀ (x:S44) (A:Option Addr) (c:Nat) (b:Bool) (W:World),Below w.heap.size w W → Kd.C k29 W A x.f1.f2.length x.f1.f2 → x.f1.f2.length ≤ c → p x = some b →
  Calls Try.prog g (#[.agg #[.int .i64 x.f0,.int .i64 x.f1.f0,.int .i64 x.f1.f1,.slice A x.f1.f2.length c]] ++ lb) W fun e w'=>e = .returned (.bool b)∧Below W.heap.size W w'
set_option maxHeartbeats 8000000 in
set_option maxRecDepth 100000 in
theorem idx44 (g:Nat) (lb:Array Value) (eg:∀ args w,(callFunc g args).run Try.prog w = .ok (.enter g args) w) (p:S44 → Option Bool) (A:Option Addr) (c:Nat) (xs:List S44) (w:World)
  (hp:Pred44 g lb p w) (hr:Kd.C k44 w A xs.length xs) (hc:xs.length ≤ c) (r:Int) (h:idxOf p xs 0 = some r) :
  Calls Try.prog 69 #[.slice A xs.length c,.func (.func g) #[] lb] w fun e w'=>e = .returned (.int .i64 r)∧Below w.heap.size w w':=by
 have hu44:=Try.underlying44
 have HR:=aQ hr
 have hn:xs.length ≤ 9223372036854775807:=hr.2.1
 clear hr
 have HP:=aQ hp
 clear hp
 have H:=aQ h
 clear h
 go_enter Try.func69,Try.ntmps69
 go_wp2
 go_loopg [5,8] xs.length (fun gg _ s8 wr=>∃ kk:Nat,kk ≤ xs.length∧xs.length - kk ≤ gg∧s8 = .int .i64 kk∧Aside0 (idxOf p (xs.drop kk) kk = some r)∧Aside0 (Below w.heap.size w wr))
 case atStart=>exact ⟨0,Nat.zero_le _,Nat.le_refl _,rfl,H,⟨Below.refl _ _⟩⟩
 case round =>
  clear H
  obtain ⟨kk,hkk,hg,rfl,HA,HB⟩:=hrel
  by_cases hlt:kk < xs.length
  ·have hltz:decide ((kk:Int) < (xs.length:Int)) = true:=decide_eq_true (by omega)
   have hltz2:decide (kk < xs.length) = true:=decide_eq_true hlt
   have H:=HA.out
   rw [idxOf_drop hlt] at H
   obtain ⟨b,hb,H⟩:=Option.bind_eq_some_iff.1 H
   have hx:rd_T44 xs (kk:Int) = xs[kk]:=by simp [rd_T44,List.getD_eq_getElem?_getD,List.getElem?_eq_getElem hlt]
   obtain ⟨ad,A2,c2,e2,h0,h1,h2,h3,Za,Zb⟩:=at_T44 HR.out (kk:Int) (by omega) (by omega)
   rw [hx] at h0 h1 h2 h3 Za Zb
   simp only [Int.toNat_natCast] at h0 h1 h2 h3
   cases e2
   replace h0:=(HB.out.cell (World.block_lt_of_cell? w _ h0)).trans h0
   replace h1:=(HB.out.cell (World.block_lt_of_cell? w _ h1)).trans h1
   replace h2:=(HB.out.cell (World.block_lt_of_cell? w _ h2)).trans h2
   replace h3:=(HB.out.cell (World.block_lt_of_cell? w _ h3)).trans h3
   have hcall:=HP.out xs[kk] A2 c2 b wr HB.out (Kd.C_below Zb HB.out) Za hb
   generalize xs[kk] = y at h0 h1 h2 h3 hcall
   clear hx Za Zb hb
   have p1:(0 ≤ (kk:Int)) = True:=eq_true (by omega)
   have p2:((kk:Int) < (xs.length:Int)) = True:=eq_true (by omega)
   have HH:=aQ H
   clear H HA
   cases b with
   | true =>
    go_wp2_with (((with_reducible refine hcall.mono ?_);rintro e w' ⟨rfl,hb'⟩))
    go_ret
    have hr0:(kk:Int) = r:=Option.some.inj HH.out
    subst hr0
    exact ⟨rfl,below_step HB.out hb'⟩
   | false =>
    go_wp2_with (((with_reducible refine hcall.mono ?_);rintro e w' ⟨rfl,hb'⟩))
    go_roundg (xs.length - (kk + 1))
    case measure=>omega
    case rel=>exact ⟨kk + 1,by omega,by omega,by go_num,⟨HH.out⟩,⟨below_step HB.out hb'⟩⟩
  ·have hltz:decide ((kk:Int) < (xs.length:Int)) = false:=decide_eq_false (by omega)
   have hltz2:decide (kk < xs.length) = false:=decide_eq_false hlt
   have H:=HA.out
   rw [List.drop_eq_nil_of_le (by omega)] at H
   have hr0:(-1:Int) = r:=Option.some.inj H
   clear H HA
   go_wp2
   go_ret
   subst hr0
   exact ⟨rfl,HB.out⟩
set_option maxHeartbeats 8000000 in
set_option maxRecDepth 100000 in
theorem any44 (g:Nat) (lb:Array Value) (eg:∀ args w,(callFunc g args).run Try.prog w = .ok (.enter g args) w) (p:S44 → Option Bool) (A:Option Addr) (c:Nat) (xs:List S44) (w:World)
  (hp:Pred44 g lb p w) (hr:Kd.C k44 w A xs.length xs) (hc:xs.length ≤ c) (b:Bool) (h:anyOf p xs = some b) :
  Calls Try.prog 63 #[.slice A xs.length c,.func (.func g) #[] lb] w fun e w'=>e = .returned (.bool b)∧Below w.heap.size w w':=by
 obtain ⟨r,hr0,rfl⟩:=anyOf_idx xs 0 (by omega) b h
 have hcall:=idx44 g lb eg p A c xs w hp hr hc r hr0
 clear hp hr hc h hr0 eg
 go_enter Try.func63,Try.ntmps63
 go_wp2_with (go_at_call 69;refine hcall.mono ?_;rintro e w' ⟨rfl,hb'⟩)
 go_ret
 exact ⟨by first | rfl | simp,hb'⟩
def impl_partner.f (l:List S44) (a:Int):Option Bool:=anyOf (fun y=>some (a == wrap64 (-y.f0))) l
set_option maxHeartbeats 8000000 in
set_option maxRecDepth 100000 in
theorem partner44 (g:Nat) (a b c:Int) (v:Value) (w:World) (hbox:w.heap[g]? = some (.cells #[.int .i64 a,.int .i64 b,.int .i64 c,v] 44 (0,0))):Pred44 64 #[.pointer (some ⟨g,0,none⟩)] (fun y=>some (a == wrap64 (-y.f0))) w:=by
 intro x A cc bb W hB hC hc hp
 obtain rfl:=Option.some.inj hp
 have Za:=aQ (blk_below hbox hB)
 obtain ⟨x0,x1,x2,l3⟩:=x
 dsimp only
 clear hC hc hp hbox hB
 have HB:=aQ (Below.refl W.heap.size W)
 have hu44:=Try.underlying44
 show Calls Try.prog 64 #[.agg #[.int .i64 x0,.int .i64 x1,.int .i64 x2,.slice A l3.length cc],.pointer (some ⟨g,0,none⟩)] W _
 go_enter Try.func64,Try.ntmps64
 go_wp2_with (first | ((with_reducible refine gate_dst (N:=2) rfl ?_);refine box1 (N:=2) (cs:=#[.int .i64 x0,.int .i64 x1,.int .i64 x2,.slice A l3.length cc]) (t:=44) ?_;intro gb hg w5 hbox hb;have n0_:=aQ (below_step HB.out hb);have BK:=aQ hbox;have Zb:=aQ (blk_below Za.out hb);clear HB;have HB:=n0_;clear n0_ hb hbox hg;have Zc:w5.cell? ⟨gb,0,none⟩ = some (.int .i64 x0):=(blk_cell BK.out 0).trans rfl;have Zd:w5.cell? ⟨g,0,none⟩ = some (.int .i64 a):=(blk_cell Zb.out 0).trans rfl))
 go_ret
 exact ⟨by first | rfl | (simp [i64_w];done) | (simp only [i64_w];rfl),HB.out⟩
theorem impl_partner.calls (g:Nat) (b c:Int) (v:Value) (A0:Option Addr) (c0:Nat) (l0:List S44) (a:Int) (r:Bool) (w:World) (hbox:w.heap[g]? = some (.cells #[.int .i64 a,.int .i64 b,.int .i64 c,v] 44 (0,0))) (hr0:Kd.C k44 w A0 l0.length l0) (hc0:l0.length ≤ c0) (h:impl_partner.f l0 a = some r) :
  Calls Try.prog 63 #[.slice A0 l0.length c0,.func (.func 64) #[] #[.pointer (some ⟨g,0,none⟩)]] w fun e w'=>e = .returned (.bool r)∧Below w.heap.size w w' :=
 any44 64 #[.pointer (some ⟨g,0,none⟩)] (fun args w=>by rfl) _ A0 c0 l0 w (partner44 g a b c v w hbox) hr0 hc0 r h
mutual
def impl_pass.j0:Nat → Bool → Int → Int → List (S29) → Option (Int × Int × (List (S29)) × Bool)
 | 0,_,_,_,_=>none
 | k + 1,x37,x404000,x404001,x404002=>if x37 = true then (if 0 < (x404002.length:Int) then ((impl_pass.f k ((rd_T29 x404002 0).f0) ((rd_T29 x404002 0).f1) ((rd_T29 x404002 0).f2)).bind fun bt423=>(if 1 < (x404002.length:Int) then ((impl_pass.f k ((rd_T29 x404002 1).f0) ((rd_T29 x404002 1).f1) ((rd_T29 x404002 1).f2)).bind fun bt431=>(if bt423.2.2.2 = true then (impl_pass.j1 k (!bt431.2.2.2) x404000 x404001 x404002 bt423.1 bt423.2.1 bt423.2.2.1 bt431.1 bt431.2.1 bt431.2.2.1) else (impl_pass.j1 k true x404000 x404001 x404002 bt423.1 bt423.2.1 bt423.2.2.1 bt431.1 bt431.2.1 bt431.2.2.1))) else (none))) else (none)) else ((impl_copyClock.f k x404000 x404001 x404002).bind fun bt455=>(some (bt455.1,bt455.2.1,bt455.2.2,true)))
def impl_pass.j1:Nat → Bool → Int → Int → List (S29) → Int → Int → List (S29) → Int → Int → List (S29) → Option (Int × Int × (List (S29)) × Bool)
 | 0,_,_,_,_,_,_,_,_,_,_=>none
 | k + 1,x61,x404000,x404001,x404002,x430000,x430001,x430002,x438000,x438001,x438002=>if x61 = true then (some (0,0,([]:List (S29)),false)) else (if x404000 = 4 then (if 0 < (x404002.length:Int) then ((impl_ticksOf.f k ((rd_T29 x404002 0).f0) ((rd_T29 x404002 0).f1) ((rd_T29 x404002 0).f2)).bind fun t439=>(impl_pass.l0 k t439 (t439.length:Int) 0 x404000 x404001 x404002 x430000 x430001 x430002 x438000 x438001 x438002)) else (none)) else (some (x404000,0,(([(⟨x430000,x430001,x430002⟩:S29),(⟨x438000,x438001,x438002⟩:S29)]:List (S29))),true)))
def impl_pass.l0:Nat → List (S44) → Int → Int → Int → Int → List (S29) → Int → Int → List (S29) → Int → Int → List (S29) → Option (Int × Int × (List (S29)) × Bool)
 | 0,_,_,_,_,_,_,_,_,_,_,_,_=>none
 | k + 1,x70,x71,x72,x404000,x404001,x404002,x430000,x430001,x430002,x438000,x438001,x438002=>if x72 < x71 then (if 0 ≤ x72 then (if x72 < (x70.length:Int) then (if ((rd_T44 x70 x72).f0) = 0 then (impl_pass.l0 k x70 x71 (wrap64 (x72 + 1)) x404000 x404001 x404002 x430000 x430001 x430002 x438000 x438001 x438002) else (if 1 < (x404002.length:Int) then ((impl_ticksOf.f k ((rd_T29 x404002 1).f0) ((rd_T29 x404002 1).f1) ((rd_T29 x404002 1).f2)).bind fun t448=>((impl_partner.f t448 ((rd_T44 x70 x72).f0)).bind fun t451=>(if t451 = true then (some (0,0,([]:List (S29)),false)) else (impl_pass.l0 k x70 x71 (wrap64 (x72 + 1)) x404000 x404001 x404002 x430000 x430001 x430002 x438000 x438001 x438002)))) else (none))) else (none)) else (none)) else (some (x404000,0,(([(⟨x430000,x430001,x430002⟩:S29),(⟨x438000,x438001,x438002⟩:S29)]:List (S29))),true))
def impl_pass.f:Nat → Int → Int → List (S29) → Option (Int × Int × (List (S29)) × Bool)
 | 0,_,_,_=>none
 | k + 1,a0_0,a0_1,l0_2=>if a0_0 = 1 then ((impl_copyClock.f k a0_0 a0_1 l0_2).bind fun bt405=>(some (bt405.1,bt405.2.1,bt405.2.2,(a0_1 != 0)))) else (if a0_0 = 2 then (if a0_1 = 1 then (if 0 < (l0_2.length:Int) then ((impl_copyClock.f k ((rd_T29 l0_2 0).f0) ((rd_T29 l0_2 0).f1) ((rd_T29 l0_2 0).f2)).bind fun bt411=>(some (bt411.1,bt411.2.1,bt411.2.2,true))) else (none)) else ((impl_copyClock.f k a0_0 a0_1 l0_2).bind fun bt416=>(some (bt416.1,wrap64 (bt416.2.1 - 1),bt416.2.2,true)))) else (if a0_0 = 3 then (impl_pass.j0 k (a0_0 == 3) a0_0 a0_1 l0_2) else (impl_pass.j0 k (a0_0 == 4) a0_0 a0_1 l0_2)))
end
theorem impl_pass.mono_l:∀ k,(∀ y0 y1 y2,LeO (impl_pass.f k y0 y1 y2) (impl_pass.f (k + 1) y0 y1 y2))∧(∀ y0 y1 y2 y3,LeO (impl_pass.j0 k y0 y1 y2 y3) (impl_pass.j0 (k + 1) y0 y1 y2 y3))∧(∀ y0 y1 y2 y3 y4 y5 y6 y7 y8 y9,LeO (impl_pass.j1 k y0 y1 y2 y3 y4 y5 y6 y7 y8 y9) (impl_pass.j1 (k + 1) y0 y1 y2 y3 y4 y5 y6 y7 y8 y9))∧(∀ y0 y1 y2 y3 y4 y5 y6 y7 y8 y9 y10 y11,LeO (impl_pass.l0 k y0 y1 y2 y3 y4 y5 y6 y7 y8 y9 y10 y11) (impl_pass.l0 (k + 1) y0 y1 y2 y3 y4 y5 y6 y7 y8 y9 y10 y11))
 | 0=>⟨fun _ _ _ r h=>by simp [impl_pass.f] at h,fun _ _ _ _ r h=>by simp [impl_pass.j0] at h,fun _ _ _ _ _ _ _ _ _ _ r h=>by simp [impl_pass.j1] at h,fun _ _ _ _ _ _ _ _ _ _ _ _ r h=>by simp [impl_pass.l0] at h⟩
 | k + 1=>by
  obtain ⟨ih0,ih1,ih2,ih3⟩:=impl_pass.mono_l k
  refine ⟨?_,?_,?_,?_⟩
  ·intro y0 y1 y2
   unfold impl_pass.f
   repeat' first
   | (with_reducible exact ih0 _ _ _)
   | (with_reducible exact ih1 _ _ _ _)
   | (with_reducible exact ih2 _ _ _ _ _ _ _ _ _ _)
   | (with_reducible exact ih3 _ _ _ _ _ _ _ _ _ _ _ _)
   | (with_reducible exact impl_copyClock.mono _ _ _ _)
   | (with_reducible exact impl_ticksOf.mono _ _ _ _)
   | (with_reducible exact LeO.refl _)
   | (with_reducible exact LeO.none _)
   | (with_reducible refine LeO.ite ?_ ?_)
   | (with_reducible refine LeO.bind ?_ (fun _=>?_))
   | exact ih0 _ _ _
   | exact ih1 _ _ _ _
   | exact ih2 _ _ _ _ _ _ _ _ _ _
   | exact ih3 _ _ _ _ _ _ _ _ _ _ _ _
   | exact impl_copyClock.mono _ _ _ _
   | exact impl_ticksOf.mono _ _ _ _
   | exact LeO.none _
   | refine LeO.ite ?_ ?_
   | refine LeO.bind ?_ (fun _=>?_)
  ·intro y0 y1 y2 y3
   unfold impl_pass.j0
   repeat' first
   | (with_reducible exact ih0 _ _ _)
   | (with_reducible exact ih1 _ _ _ _)
   | (with_reducible exact ih2 _ _ _ _ _ _ _ _ _ _)
   | (with_reducible exact ih3 _ _ _ _ _ _ _ _ _ _ _ _)
   | (with_reducible exact impl_copyClock.mono _ _ _ _)
   | (with_reducible exact impl_ticksOf.mono _ _ _ _)
   | (with_reducible exact LeO.refl _)
   | (with_reducible exact LeO.none _)
   | (with_reducible refine LeO.ite ?_ ?_)
   | (with_reducible refine LeO.bind ?_ (fun _=>?_))
   | exact ih0 _ _ _
   | exact ih1 _ _ _ _
   | exact ih2 _ _ _ _ _ _ _ _ _ _
   | exact ih3 _ _ _ _ _ _ _ _ _ _ _ _
   | exact impl_copyClock.mono _ _ _ _
   | exact impl_ticksOf.mono _ _ _ _
   | exact LeO.none _
   | refine LeO.ite ?_ ?_
   | refine LeO.bind ?_ (fun _=>?_)
  ·intro y0 y1 y2 y3 y4 y5 y6 y7 y8 y9
   unfold impl_pass.j1
   repeat' first
   | (with_reducible exact ih0 _ _ _)
   | (with_reducible exact ih1 _ _ _ _)
   | (with_reducible exact ih2 _ _ _ _ _ _ _ _ _ _)
   | (with_reducible exact ih3 _ _ _ _ _ _ _ _ _ _ _ _)
   | (with_reducible exact impl_copyClock.mono _ _ _ _)
   | (with_reducible exact impl_ticksOf.mono _ _ _ _)
   | (with_reducible exact LeO.refl _)
   | (with_reducible exact LeO.none _)
   | (with_reducible refine LeO.ite ?_ ?_)
   | (with_reducible refine LeO.bind ?_ (fun _=>?_))
   | exact ih0 _ _ _
   | exact ih1 _ _ _ _
   | exact ih2 _ _ _ _ _ _ _ _ _ _
   | exact ih3 _ _ _ _ _ _ _ _ _ _ _ _
   | exact impl_copyClock.mono _ _ _ _
   | exact impl_ticksOf.mono _ _ _ _
   | exact LeO.none _
   | refine LeO.ite ?_ ?_
   | refine LeO.bind ?_ (fun _=>?_)
  ·intro y0 y1 y2 y3 y4 y5 y6 y7 y8 y9 y10 y11
   unfold impl_pass.l0
   repeat' first
   | (with_reducible exact ih0 _ _ _)
   | (with_reducible exact ih1 _ _ _ _)
   | (with_reducible exact ih2 _ _ _ _ _ _ _ _ _ _)
   | (with_reducible exact ih3 _ _ _ _ _ _ _ _ _ _ _ _)
   | (with_reducible exact impl_copyClock.mono _ _ _ _)
   | (with_reducible exact impl_ticksOf.mono _ _ _ _)
   | (with_reducible exact LeO.refl _)
   | (with_reducible exact LeO.none _)
   | (with_reducible refine LeO.ite ?_ ?_)
   | (with_reducible refine LeO.bind ?_ (fun _=>?_))
   | exact ih0 _ _ _
   | exact ih1 _ _ _ _
   | exact ih2 _ _ _ _ _ _ _ _ _ _
   | exact ih3 _ _ _ _ _ _ _ _ _ _ _ _
   | exact impl_copyClock.mono _ _ _ _
   | exact impl_ticksOf.mono _ _ _ _
   | exact LeO.none _
   | refine LeO.ite ?_ ?_
   | refine LeO.bind ?_ (fun _=>?_)
theorem impl_pass.mono:∀ a0 a1 a2 k,LeO (impl_pass.f k a0 a1 a2) (impl_pass.f (k + 1) a0 a1 a2):=by
 intro a0 a1 a2 k
 obtain ⟨ih0,ih1,ih2,ih3⟩:=impl_pass.mono_l k
 exact ih0 a0 a1 a2
set_option maxHeartbeats 8000000 in
set_option maxRecDepth 100000 in
theorem impl_pass.calls (k:Nat):∀ (a0_0:Int) (a0_1:Int) (P0_2_:Nat → Prop) (A0_2:Option Addr) (c0_2:Nat) (l0_2:List (S29)) (r1:Int) (r2:Int) (r3:List (S29)) (r4:Bool) (w:World) (hs0_2:Kd.V k29 29 w w.heap.size (fun k_=>P0_2_ k_) (.slice A0_2 l0_2.length c0_2) l0_2) (h:impl_pass.f k a0_0 a0_1 l0_2 = some (r1,r2,r3,r4)),
  Calls Try.prog 49 #[.agg #[.int .i64 a0_0,.int .i64 a0_1,.slice A0_2 l0_2.length c0_2]] w fun e w'=>∃ v2_:Value,e = .returned (.tuple #[.agg #[.int .i64 r1,.int .i64 r2,v2_],.bool r4])∧Kd.N k29 29 w' w.heap.size (fun k_=>(P0_2_ k_ ∨ w.heap.size ≤ k_)) v2_ r3∧Below w.heap.size w w':=by
 induction k using Nat.strongRecOn with
 | _ k ih =>
 intro a0_0 a0_1 P0_2_ A0_2 c0_2 l0_2 r1 r2 r3 r4 w hs0_2 h
 cases k with
 | zero=>exact absurd h (by simp [impl_pass.f])
 | succ k =>
 simp only [impl_pass.f] at h
 have hu29:=Try.underlying29
 have hu44:=Try.underlying44
 have Zq:=aQ (show Kd.V k29 29 w w.heap.size (fun k_=>(P0_2_ k_ ∨ w.heap.size ≤ k_)) (.slice A0_2 l0_2.length c0_2) l0_2 from Kd.V_mono hs0_2 (fun k_ hk=>.inl hk))
 have HB:=aQ (Below.refl w.heap.size w)
 have H:=h
 clear h
 by_cases c2:a0_0 = 1
 ·rw [if_pos c2] at H
  have c2b0:(a0_0 == 1) = true:=beq_iff_eq.mpr c2
  have c2b1:(a0_0 != 1) = false:=bne_eq_false_iff_eq.mpr c2
  clear c2
  obtain ⟨⟨t405,t406,t407⟩,A3,H⟩:=bQ H
  dsimp only at H
  simp only [Option.some.injEq,Prod.mk.injEq] at H
  obtain ⟨rfl,rfl,rfl,rfl⟩:=H
  go_enter Try.func49,Try.ntmps49
  try go_wp2_with (first | ((with_reducible refine gate_dst (N:=1) rfl ?_);refine box1 (N:=1) (cs:=#[.int .i64 a0_0,.int .i64 a0_1,.slice A0_2 l0_2.length c0_2]) (t:=29) ?_;intro Zf hg w4 hbox hb;replace Zq:=aQ (Kd.V_below (Kd.V_elderB Zq.out Zf (Nat.le_of_eq hg.symm)) hb);have Zb:=aQ (hbox);have Yu:=aQ (gB:w.heap.size ≤ Zf);have Xx:=Yu;replace HB:=aQ (below_step bB hb);clear hb hbox hg) | ((with_reducible refine gate_dst (N:=2) rfl ?_);refine box1 (N:=2) (cs:=#[.int .i64 0,.int .i64 0,.slice none 0 0]) (t:=29) ?_;intro Zc hg w5 hbox hb;replace Zq:=aQ (Kd.V_below (Kd.V_elderB Zq.out Zc (Nat.le_of_eq hg.symm)) hb);have Zd:=aQ (hbox);have Yv:=aQ (gB:w.heap.size ≤ Zc);have Xy:=Yv;replace HB:=aQ (below_step bB hb);have Zm:=aQ ((by rw [hg];exact Nat.ne_of_lt (blk_lt Zb.out):Zf ≠ Zc));have Zr:=aQ Zm.out.symm;replace Zb:=aQ (blk_below Zb.out hb);clear hb hbox hg;have QQ:=Zm.out;have QR:=Zr.out;obtain ⟨SB,SC,SD,SE,SF,SG⟩:=cz3 Zb.out))
  replace Zq:=aQ (Kd.V_drew Zq.out)
  replace Zb:=aQ (blk_drew Zb.out)
  replace Zd:=aQ (blk_drew Zd.out)
  replace HB:=aQ (below_drew1 HB.out)
  refine start_ (n:=7) (S:=fun w'=>w'.cell? ⟨Zf,0,none⟩ = some (.int .i64 a0_0)∧w'.cell? ⟨Zf,1,none⟩ = some (.int .i64 a0_1)∧w'.cell? ⟨Zf,2,none⟩ = some (.slice A0_2 l0_2.length c0_2)) (ds:=[]) (bn 7 0) (by kernel_rfl) rfl rfl ⟨(blk_cell Zb.out 0).trans rfl,(blk_cell Zb.out 1).trans rfl,(blk_cell Zb.out 2).trans rfl⟩ (fun hHeld=>?_)
  generalize w5.drew = w8 at Zq Zb Zd HB hHeld ⊢
  refine pur (i:=2) (N:=some 17) (bn 7 4) ?_
  refine tak (i:=0) (N:=some 15) (bn 7 5) ?_
  refine tak (i:=3) (N:=some 18) (bn 7 13) ?_
  refine pur (i:=4) (N:=some 19) (bn 7 29) ?_
  refine one_ (i:=1) (N:=some 16) (bn 7 31) rfl rfl (by kernel_rfl) (by decide) (fun K hK=>?_)
  refine goes1 Try.func48 #[.agg #[.int .i64 a0_0,.int .i64 a0_1,.slice A0_2 l0_2.length c0_2]] ?_
  with_reducible refine (impl_copyClock.calls k a0_0 a0_1 _ _ l0_2 t405 t406 t407 _ ?Zz ?Ya A3.out).mono ?_
  (case Zz=>exact (Kd.V_reads' Zq.out).2.2)
  (case Ya=>exact (Kd.V_reads' Zq.out).2.1)
  rintro e w9 ⟨v408,rfl,ho0,hb⟩
  refine ⟨_,rfl,?_⟩
  replace Zq:=aQ (Kd.V_elder' Zq.out (Kd.N_base ho0) hb)
  have XL:=aQ (Kd.N_lower (Kd.N_mono (ok':=fun k_=>(P0_2_ k_ ∨ w.heap.size ≤ k_)∧k_ ≠ Zf∧k_ ≠ Zc) ho0 (fun k_ hk_=>⟨(.inr (Nat.le_trans (below_size bB) hk_)),(Kd.freshB Zb.out k_ hk_),(Kd.freshB Zd.out k_ hk_)⟩)) (below_size bB))
  replace Zb:=aQ (blk_below Zb.out hb)
  replace Zd:=aQ (blk_below Zd.out hb)
  replace HB:=aQ (below_step bB hb)
  (try clear hb)
  (try clear ho0)
  obtain ⟨Vj,Vk,WK⟩:=Kd.N_slice XL.out
  (first | subst WK | (injection WK with f1_ f2_ f3_;have f4_:=f1_.symm;have f5_:=f3_.symm;clear f1_ f2_ f3_;subst f4_;subst f5_))
  refine hK.out _ _ ⟨(blk_cell Zb.out 0).trans rfl,(blk_cell Zb.out 1).trans rfl,(blk_cell Zb.out 2).trans rfl⟩ (fun hHeld=>?_)
  clear hK K
  refine nrm (N:=some 16) ?_
  refine one_ (i:=5) (N:=none) (bn 7 63) rfl rfl (by kernel_rfl) (by decide) (fun K hK=>?_)
  have hs10:w9.cell? ⟨Zc,0,none⟩ = some (.int .i64 0):=(blk_cell Zd.out 0).trans rfl
  have hfs10:=blk_frozen Zd.out 0
  have hns10_0:=Zm.out
  have hms10_0:=Zr.out
  have hs11:w9.cell? ⟨Zc,1,none⟩ = some (.int .i64 0):=(blk_cell Zd.out 1).trans rfl
  have hfs11:=blk_frozen Zd.out 1
  have hns11_0:=Zm.out
  have hms11_0:=Zr.out
  have hs13:w9.cell? ⟨Zc,2,none⟩ = some (.slice none 0 0):=(blk_cell Zd.out 2).trans rfl
  have hfs13:=blk_frozen Zd.out 2
  have hns13_0:=Zm.out
  have hms13_0:=Zr.out
  refine skip_ (w1:=?_) (by rfl) rfl ?_ ?_
  rotate_left
  ·go_simp
   rfl
  refine hK.out _ _ ⟨((cell_far (p:=⟨Zc,_,none⟩) Zm.out _).trans (((cell_far (p:=⟨Zc,_,none⟩) Zm.out _).trans (((cell_far (p:=⟨Zc,_,none⟩) Zm.out _).trans (hHeld.1)))))),((cell_far (p:=⟨Zc,_,none⟩) Zm.out _).trans (((cell_far (p:=⟨Zc,_,none⟩) Zm.out _).trans (((cell_far (p:=⟨Zc,_,none⟩) Zm.out _).trans (hHeld.2.1)))))),((cell_far (p:=⟨Zc,_,none⟩) Zm.out _).trans (((cell_far (p:=⟨Zc,_,none⟩) Zm.out _).trans (((cell_far (p:=⟨Zc,_,none⟩) Zm.out _).trans (hHeld.2.2))))))⟩ (fun hHeld=>?_)
  clear hK K
  refine pur (i:=6) (N:=some 3) (bn 7 127) ?_
  refine done_ (by kernel_rfl) ?_
  try go_wp2
  refine bodyPost_ret (results_ct rfl _ _ Zc 29 #[.int .i64 t405,.int .i64 t406,.slice Vj t407.length Vk] (0,0) _ rfl bP Try.underlying29 rfl (by kernel_rfl)) rfl ?_
  exact ⟨_,rfl,by (with_reducible repeat (first | apply Kd.N_alloc | apply Kd.N_drewN | apply Kd.N_drew));exact Kd.N_mono (nFN (g:=Zc) XL.out (fun k_ hk=>hk.2.2)) (fun _ hk=>hk.1),bB⟩
 rw [if_neg c2] at H
 have c2b0:(a0_0 == 1) = false:=beq_eq_false_iff_ne.mpr c2
 have c2b1:(a0_0 != 1) = true:=bne_iff_ne.mpr c2
 by_cases c14:a0_0 = 2
 ·rw [if_pos c14] at H
  have c14b0:(a0_0 == 2) = true:=beq_iff_eq.mpr c14
  have c14b1:(a0_0 != 2) = false:=bne_eq_false_iff_eq.mpr c14
  clear c14
  by_cases c15:a0_1 = 1
  ·rw [if_pos c15] at H
   have c15b0:(a0_1 == 1) = true:=beq_iff_eq.mpr c15
   have c15b1:(a0_1 != 1) = false:=bne_eq_false_iff_eq.mpr c15
   clear c15
   by_cases c16:0 < (l0_2.length:Int);rotate_left
   ·rw [if_neg c16] at H
    exact absurd H (by simp)
   rw [if_pos c16] at H
   have c16b0:decide (0 < (l0_2.length:Int)) = true:=decide_eq_true c16
   have c16b1:decide (0 < l0_2.length) = true:=decide_eq_true (by omega)
   clear c16
   obtain ⟨⟨t411,t412,t413⟩,A17,H⟩:=bQ H
   dsimp only at H
   simp only [Option.some.injEq,Prod.mk.injEq] at H
   obtain ⟨rfl,rfl,rfl,rfl⟩:=H
   go_enter Try.func49,Try.ntmps49
   go_wp2_with (first | ((with_reducible refine gate_dst (N:=1) rfl ?_);refine box1 (N:=1) (cs:=#[.int .i64 a0_0,.int .i64 a0_1,.slice A0_2 l0_2.length c0_2]) (t:=29) ?_;intro Zf hg w18 hbox hb;replace Zq:=aQ (Kd.V_below (Kd.V_elderB Zq.out Zf (Nat.le_of_eq hg.symm)) hb);have Zb:=aQ (hbox);have Yu:=aQ (gB:w.heap.size ≤ Zf);have Xx:=Yu;replace HB:=aQ (below_step bB hb);clear hb hbox hg) | ((with_reducible refine gate_dst (N:=2) rfl ?_);refine box1 (N:=2) (cs:=#[.int .i64 0,.int .i64 0,.slice none 0 0]) (t:=29) ?_;intro Zc hg w19 hbox hb;replace Zq:=aQ (Kd.V_below (Kd.V_elderB Zq.out Zc (Nat.le_of_eq hg.symm)) hb);have Zd:=aQ (hbox);have Yv:=aQ (gB:w.heap.size ≤ Zc);have Xy:=Yv;replace HB:=aQ (below_step bB hb);have Zm:=aQ ((by rw [hg];exact Nat.ne_of_lt (blk_lt Zb.out):Zf ≠ Zc));have Zr:=aQ Zm.out.symm;replace Zb:=aQ (blk_below Zb.out hb);clear hb hbox hg;have RF:=Zm.out;have RG:=Zr.out;obtain ⟨Ty,Tz,TA,TB,TC,TD⟩:=cz3 Zb.out;have p410:0 ≤ (0:Int):=(by omega);have q410:0 < (l0_2.length:Int):=of_decide_eq_true (by assumption);obtain ⟨RH,A410_2,c410_2,e410,Xf,Xg,YK,Xh,Xi⟩:=at_T29 (Kd.V_reads' Zq.out).2.2 0 p410 q410;cases e410;obtain ⟨RI,WL,WM,XD⟩:=Kd.V_get Zq.out z29 0 p410 (by first | exact q410 | exact of_decide_eq_true (by assumption) | (have e_:=(Kd.V_reads' Zq.out).1;omega));obtain ⟨TE,TF,rfl,YL,YM⟩:=k29_openF WM;have YB:=XD 2 _ rfl;rw [add_field _ _ 2 (by omega)] at YB;replace YB:=Option.some.inj (YB.symm.trans YK);injection YB with hva_ hvn_ hvc_;rw [hva_] at YM;rw [hvc_] at YL;have Xj:=aQ (show Kd.V k29 29 _ w.heap.size _ _ ((rd_T29 l0_2 0).f2) from Kd.V_mk YL YM);clear hva_ hvn_ hvc_ YM YL;clear XD WL;have qi410:(0 < l0_2.length) = True:=eq_true (by omega);(try rw [show ((0:Int)).toNat = 0 from rfl,show 0 * 3 = 0 from rfl] at Xf Xg YK);(try rw [Addr.add_zero'] at Xf);(try rw [Addr.add_zero'] at Xg);(try rw [Addr.add_zero'] at YK);have YN:=aQ Xi;have XW:=aQ Xh;clear Xi Xh;replace p410:=eq_true p410;replace q410:=eq_true q410) | ((with_reducible refine gate_callee (f:=48) rfl ?_);refine goesL_ (some 29) rfl rfl Try.func48 (by kernel_rfl) rfl #[.agg #[.int .i64 ((rd_T29 l0_2 0).f0),.int .i64 ((rd_T29 l0_2 0).f1),.slice A410_2 ((rd_T29 l0_2 0).f2).length c410_2]] rfl mP ?_;(with_reducible refine (impl_copyClock.calls k ((rd_T29 l0_2 0).f0) ((rd_T29 l0_2 0).f1) _ _ ((rd_T29 l0_2 0).f2) t411 t412 t413 _ ?Zz ?Ya A17.out).mono ?_);(case Zz=>repeat (first | exact (nC YN.out) | (with_reducible refine Kd.C_alloc ?_ _) | (with_reducible refine Kd.C_drewN ?_ _) | (with_reducible refine Kd.C_drew ?_)));(case Ya=>exact XW.out);rintro e w22 ⟨v414,rfl,ho0,hb⟩;refine ⟨_,rfl,?_⟩;replace Zq:=aQ (Kd.V_elder' Zq.out (Kd.N_base ho0) hb);replace Xj:=aQ (Kd.V_elder' Xj.out (Kd.N_base ho0) hb);have XM:=aQ (Kd.N_lower (Kd.N_mono (ok':=fun k_=>(P0_2_ k_ ∨ w.heap.size ≤ k_)∧k_ ≠ Zf∧k_ ≠ Zc) ho0 (fun k_ hk_=>⟨(.inr (Nat.le_trans (below_size bB) hk_)),(Kd.freshB Zb.out k_ hk_),(Kd.freshB Zd.out k_ hk_)⟩)) (below_size bB));replace Zb:=aQ (blk_below Zb.out hb);replace Zd:=aQ (blk_below Zd.out hb);replace YN:=aQ (Kd.C_below (nC YN.out) hb);replace HB:=aQ (below_step bB hb);(try clear hb);(try clear ho0);obtain ⟨TG,TH,TI,TJ,TK,TL⟩:=cz3 Zd.out;obtain ⟨Vl,Vm,Vn⟩:=Kd.N_slice XM.out;subst Vn))
   refine bodyPost_ret (results_ct rfl _ _ Zc 29 #[.int .i64 t411,.int .i64 t412,.slice Vl t413.length Vm] (0,0) _ rfl bP Try.underlying29 rfl (by kernel_rfl)) rfl ?_
   exact ⟨_,rfl,by exact Kd.N_mono (nFN (g:=Zc) XM.out (fun k_ hk=>hk.2.2)) (fun _ hk=>hk.1),bB⟩
  rw [if_neg c15] at H
  have c15b0:(a0_1 == 1) = false:=beq_eq_false_iff_ne.mpr c15
  have c15b1:(a0_1 != 1) = true:=bne_iff_ne.mpr c15
  obtain ⟨⟨t416,t417,t418⟩,A25,H⟩:=bQ H
  dsimp only at H
  simp only [Option.some.injEq,Prod.mk.injEq] at H
  obtain ⟨rfl,rfl,rfl,rfl⟩:=H
  go_enter Try.func49,Try.ntmps49
  go_wp2_with (first | ((with_reducible refine gate_dst (N:=1) rfl ?_);refine box1 (N:=1) (cs:=#[.int .i64 a0_0,.int .i64 a0_1,.slice A0_2 l0_2.length c0_2]) (t:=29) ?_;intro Zf hg w26 hbox hb;replace Zq:=aQ (Kd.V_below (Kd.V_elderB Zq.out Zf (Nat.le_of_eq hg.symm)) hb);have Zb:=aQ (hbox);have Yu:=aQ (gB:w.heap.size ≤ Zf);have Xx:=Yu;replace HB:=aQ (below_step bB hb);clear hb hbox hg) | ((with_reducible refine gate_dst (N:=2) rfl ?_);refine box1 (N:=2) (cs:=#[.int .i64 0,.int .i64 0,.slice none 0 0]) (t:=29) ?_;intro Zc hg w27 hbox hb;replace Zq:=aQ (Kd.V_below (Kd.V_elderB Zq.out Zc (Nat.le_of_eq hg.symm)) hb);have Zd:=aQ (hbox);have Yv:=aQ (gB:w.heap.size ≤ Zc);have Xy:=Yv;replace HB:=aQ (below_step bB hb);have Zm:=aQ ((by rw [hg];exact Nat.ne_of_lt (blk_lt Zb.out):Zf ≠ Zc));have Zr:=aQ Zm.out.symm;replace Zb:=aQ (blk_below Zb.out hb);clear hb hbox hg;have RJ:=Zm.out;have RK:=Zr.out;obtain ⟨TM,TN,TO,TP,TQ,TR⟩:=cz3 Zb.out) | ((with_reducible refine gate_callee (f:=48) rfl ?_);refine goesL_ (some 31) rfl rfl Try.func48 (by kernel_rfl) rfl #[.agg #[.int .i64 a0_0,.int .i64 a0_1,.slice A0_2 l0_2.length c0_2]] rfl mP ?_;(with_reducible refine (impl_copyClock.calls k a0_0 a0_1 _ _ l0_2 t416 t417 t418 _ ?Zz ?Ya A25.out).mono ?_);(case Zz=>exact (Kd.V_reads' Zq.out).2.2);(case Ya=>exact (Kd.V_reads' Zq.out).2.1);rintro e w30 ⟨v419,rfl,ho0,hb⟩;refine ⟨_,rfl,?_⟩;replace Zq:=aQ (Kd.V_elder' Zq.out (Kd.N_base ho0) hb);have Xc:=aQ (Kd.N_lower (Kd.N_mono (ok':=fun k_=>(P0_2_ k_ ∨ w.heap.size ≤ k_)∧k_ ≠ Zf∧k_ ≠ Zc) ho0 (fun k_ hk_=>⟨(.inr (Nat.le_trans (below_size bB) hk_)),(Kd.freshB Zb.out k_ hk_),(Kd.freshB Zd.out k_ hk_)⟩)) (below_size bB));replace Zb:=aQ (blk_below Zb.out hb);replace Zd:=aQ (blk_below Zd.out hb);replace HB:=aQ (below_step bB hb);(try clear hb);(try clear ho0)) | ((with_reducible refine gate_dst (N:=4) rfl ?_);refine box1 (N:=4) (cs:=#[.int .i64 0,.int .i64 0,.slice none 0 0]) (t:=29) ?_;intro Zu hg w31 hbox hb;replace Zq:=aQ (Kd.V_below (Kd.V_elderB Zq.out Zu (Nat.le_of_eq hg.symm)) hb);replace Xc:=aQ (Kd.N_below (Kd.N_elderB Xc.out Zu (Nat.le_of_eq hg.symm)) hb);have XN:=aQ (hbox);have WT:=aQ (gB:w.heap.size ≤ Zu);have RL:=WT;replace HB:=aQ (below_step bB hb);have Xb:=aQ ((by rw [hg];exact Nat.ne_of_lt (blk_lt Zb.out):Zf ≠ Zu));have XE:=aQ Xb.out.symm;replace Zb:=aQ (blk_below Zb.out hb);have ZT:=aQ ((by rw [hg];exact Nat.ne_of_lt (blk_lt Zd.out):Zc ≠ Zu));have XF:=aQ ZT.out.symm;replace Zd:=aQ (blk_below Zd.out hb);clear hb hbox hg;have RM:=XE.out;have RN:=Xb.out;have RO:=XF.out;have RP:=ZT.out;obtain ⟨TS,TT,TU,TV,TW,TX⟩:=cz3 XN.out;obtain ⟨Ym,Yn,Vo⟩:=Kd.N_slice Xc.out;subst Vo;have hdblk:((((w31.setCell ⟨Zu,0,none⟩ (.int .i64 t416)).setCell ⟨Zu,1,none⟩ (.int .i64 t417)).setCell ⟨Zu,2,none⟩ (.slice Ym t418.length Yn)).setCell ⟨Zu,1,none⟩ (.int .i64 (wrap64 (t417 - 1)))).heap[Zu]? = some (.cells #[.int .i64 t416,.int .i64 (wrap64 (t417 - 1)),.slice Ym t418.length Yn] 29 (0,0)):=(blk_put (cs:=#[.int .i64 t416,.int .i64 t417,.slice Ym t418.length Yn]) (blk_put (cs:=#[.int .i64 t416,.int .i64 t417,.slice none 0 0]) (blk_put (cs:=#[.int .i64 t416,.int .i64 0,.slice none 0 0]) (blk_put (cs:=#[.int .i64 0,.int .i64 0,.slice none 0 0]) XN.out 0 (.int .i64 t416) rfl) 1 (.int .i64 t417) rfl) 2 (.slice Ym t418.length Yn) rfl) 1 (.int .i64 (wrap64 (t417 - 1))) rfl);have hdc0:((((w31.setCell ⟨Zu,0,none⟩ (.int .i64 t416)).setCell ⟨Zu,1,none⟩ (.int .i64 t417)).setCell ⟨Zu,2,none⟩ (.slice Ym t418.length Yn)).setCell ⟨Zu,1,none⟩ (.int .i64 (wrap64 (t417 - 1)))).cell? ⟨Zu,0,none⟩ = some (.int .i64 t416):=(blk_cell hdblk 0).trans rfl;have hdc1:((((w31.setCell ⟨Zu,0,none⟩ (.int .i64 t416)).setCell ⟨Zu,1,none⟩ (.int .i64 t417)).setCell ⟨Zu,2,none⟩ (.slice Ym t418.length Yn)).setCell ⟨Zu,1,none⟩ (.int .i64 (wrap64 (t417 - 1)))).cell? ⟨Zu,1,none⟩ = some (.int .i64 (wrap64 (t417 - 1))):=(blk_cell hdblk 1).trans rfl;have hdc2:((((w31.setCell ⟨Zu,0,none⟩ (.int .i64 t416)).setCell ⟨Zu,1,none⟩ (.int .i64 t417)).setCell ⟨Zu,2,none⟩ (.slice Ym t418.length Yn)).setCell ⟨Zu,1,none⟩ (.int .i64 (wrap64 (t417 - 1)))).cell? ⟨Zu,2,none⟩ = some (.slice Ym t418.length Yn):=(blk_cell hdblk 2).trans rfl;clear hdblk;obtain ⟨TY,TZ,Sa,Sb,Sc,Sd⟩:=cz3 Zd.out))
  refine bodyPost_ret (results_ct rfl _ _ Zc 29 #[.int .i64 t416,.int .i64 (wrap64 (t417 - 1)),.slice Ym t418.length Yn] (0,0) _ rfl (by (with_reducible repeat (first | refine blk_drewN ?_ _ | refine blk_drew ?_ | refine blk_alloc ?_ _));refine blk_put (cs:=#[.int .i64 t416,.int .i64 (wrap64 (t417 - 1)),.slice none 0 0]) ?_ 2 _ rfl;(with_reducible repeat (first | refine blk_drewN ?_ _ | refine blk_drew ?_ | refine blk_alloc ?_ _));refine blk_put (cs:=#[.int .i64 t416,.int .i64 0,.slice none 0 0]) ?_ 1 _ rfl;(with_reducible repeat (first | refine blk_drewN ?_ _ | refine blk_drew ?_ | refine blk_alloc ?_ _));refine blk_put (cs:=#[.int .i64 0,.int .i64 0,.slice none 0 0]) ?_ 0 _ rfl;(with_reducible repeat (first | refine blk_drewN ?_ _ | refine blk_drew ?_ | refine blk_alloc ?_ _));refine blk_far ?_ ZT.out _;(with_reducible repeat (first | refine blk_drewN ?_ _ | refine blk_drew ?_ | refine blk_alloc ?_ _));refine blk_far ?_ ZT.out _;(with_reducible repeat (first | refine blk_drewN ?_ _ | refine blk_drew ?_ | refine blk_alloc ?_ _));refine blk_far ?_ ZT.out _;(with_reducible repeat (first | refine blk_drewN ?_ _ | refine blk_drew ?_ | refine blk_alloc ?_ _));refine blk_far ?_ ZT.out _;(with_reducible repeat (first | refine blk_drewN ?_ _ | refine blk_drew ?_ | refine blk_alloc ?_ _));exact Zd.out) Try.underlying29 rfl (by kernel_rfl)) rfl ?_
  exact ⟨_,rfl,by exact Kd.N_mono (Kd.N_far (p:=⟨Zc,2,none⟩) (Kd.N_far (p:=⟨Zc,1,none⟩) (Kd.N_far (p:=⟨Zc,0,none⟩) (Kd.N_far (p:=⟨Zu,1,none⟩) (Kd.N_far (p:=⟨Zu,2,none⟩) (Kd.N_far (p:=⟨Zu,1,none⟩) (Kd.N_far (p:=⟨Zu,0,none⟩) (Kd.N_mono (Kd.N_mono Xc.out (fun k_ hk=>(⟨hk,hk.2⟩:_∧k_ ≠ Zu))) (fun k_ hk=>(⟨hk,hk.1.1.2.2⟩:_∧k_ ≠ Zc))) (fun _ hk=>hk.1.2) (.int .i64 t416)) (fun _ hk=>hk.1.2) (.int .i64 t417)) (fun _ hk=>hk.1.2) (.slice Ym t418.length Yn)) (fun _ hk=>hk.1.2) (.int .i64 (wrap64 (t417 - 1)))) (fun _ hk=>hk.2) (.int .i64 t416)) (fun _ hk=>hk.2) (.int .i64 (wrap64 (t417 - 1)))) (fun _ hk=>hk.2) (.slice Ym t418.length Yn)) (fun _ hk=>hk.1.1.1.1),bB⟩
 rw [if_neg c14] at H
 have c14b0:(a0_0 == 2) = false:=beq_eq_false_iff_ne.mpr c14
 have c14b1:(a0_0 != 2) = true:=bne_iff_ne.mpr c14
 have XJ:=aQ H
 clear H
 go_enter Try.func49,Try.ntmps49
 go_upto_if 37 with (first | ((with_reducible refine gate_dst (N:=1) rfl ?_);refine box1 (N:=1) (cs:=#[.int .i64 a0_0,.int .i64 a0_1,.slice A0_2 l0_2.length c0_2]) (t:=29) ?_;intro Zf hg w38 hbox hb;replace Zq:=aQ (Kd.V_below (Kd.V_elderB Zq.out Zf (Nat.le_of_eq hg.symm)) hb);have Zb:=aQ (hbox);have Yu:=aQ (gB:w.heap.size ≤ Zf);have Xx:=Yu;replace HB:=aQ (below_step bB hb);clear hb hbox hg) | ((with_reducible refine gate_dst (N:=2) rfl ?_);refine box1 (N:=2) (cs:=#[.int .i64 0,.int .i64 0,.slice none 0 0]) (t:=29) ?_;intro Zc hg w39 hbox hb;replace Zq:=aQ (Kd.V_below (Kd.V_elderB Zq.out Zc (Nat.le_of_eq hg.symm)) hb);have Zd:=aQ (hbox);have Yv:=aQ (gB:w.heap.size ≤ Zc);have Xy:=Yv;replace HB:=aQ (below_step bB hb);have Zm:=aQ ((by rw [hg];exact Nat.ne_of_lt (blk_lt Zb.out):Zf ≠ Zc));have Zr:=aQ Zm.out.symm;replace Zb:=aQ (blk_below Zb.out hb);clear hb hbox hg;have RQ:=Zm.out;have RR:=Zr.out;obtain ⟨XX,XY,XZ,Wa,Wb,Wc⟩:=cz3 Zb.out))
 (try simp only [Act.put,List.setIfInBounds_toArray,List.set_cons_zero,List.set_cons_succ])
 go_cut [37] (fun v37 wc=>∃ (kq:Nat) (x37_36:Bool),v37 = .bool x37_36∧Aside0 (impl_pass.j0 kq x37_36 a0_0 a0_1 l0_2 = some (r1,r2,r3,r4))∧Aside0 (kq ≤ k)∧Aside0 (Kd.V k29 29 wc w.heap.size (fun k_=>(P0_2_ k_ ∨ w.heap.size ≤ k_)∧k_ ≠ Zf∧k_ ≠ Zc) (.slice A0_2 l0_2.length c0_2) l0_2)∧Aside0 (wc.heap[Zf]? = some (.cells #[.int .i64 a0_0,.int .i64 a0_1,(.slice A0_2 l0_2.length c0_2)] 29 (0,0)))∧Aside0 (wc.heap[Zc]? = some (.cells #[.int .i64 0,.int .i64 0,(.slice none 0 0)] 29 (0,0)))∧Aside0 (Below w.heap.size w wc))
 case first =>
  have H:=XJ.out
  clear XJ
  by_cases c42:a0_0 = 3;rotate_left
  ·rw [if_neg c42] at H
   have c42b0:(a0_0 == 3) = false:=beq_eq_false_iff_ne.mpr c42
   have c42b1:(a0_0 != 3) = true:=bne_iff_ne.mpr c42
   (first | rw [c42b0] | (simp only [i64_w,i32_w];rw [c42b0]) | skip)
   have H':=aQ H
   clear H
   go_wp2
   go_meet
   case rel=>exact ⟨_,((a0_0 == 4)),rfl,H',⟨by first | omega | exact Nat.le_refl _⟩,⟨by exact Kd.V_mono Zq.out (fun _ hk=>⟨hk.1.1,⟨hk.1.2,hk.2⟩⟩)⟩,⟨Zb.out⟩,⟨Zd.out⟩,⟨bB⟩⟩
  rw [if_pos c42] at H
  have c42b0:(a0_0 == 3) = true:=beq_iff_eq.mpr c42
  have c42b1:(a0_0 != 3) = false:=bne_eq_false_iff_eq.mpr c42
  clear c42
  (first | rw [c42b0] | (simp only [i64_w,i32_w];rw [c42b0]) | skip)
  have H':=aQ H
  clear H
  go_wp2
  go_meet
  case rel=>exact ⟨_,((a0_0 == 3)),eS,H',⟨by first | omega | exact Nat.le_refl _⟩,⟨by exact Kd.V_mono Zq.out (fun _ hk=>⟨hk.1.1,⟨hk.1.2,hk.2⟩⟩)⟩,⟨Zb.out⟩,⟨Zd.out⟩,⟨bB⟩⟩
 case rest =>
  clear XJ
  try clear c2
  try clear c2b0
  try clear c2b1
  try clear c14
  try clear c14b0
  try clear c14b1
  try clear XX
  try clear XY
  try clear XZ
  try clear Wa
  try clear Wb
  try clear Wc
  obtain ⟨kq,x37_36,rfl,HA,HJ36,Za,Zb,Zd,HB⟩:=hcut
  cases kq with
  | zero=>exact absurd HA.out (by simp [impl_pass.j0])
  | succ kj36 =>
   have H:=HA.out
   clear HA
   simp only [impl_pass.j0] at H
   by_cases c43:x37_36 = true
   ·subst c43
    have H1:(if 0 < (l0_2.length:Int) then ((impl_pass.f kj36 ((rd_T29 l0_2 0).f0) ((rd_T29 l0_2 0).f1) ((rd_T29 l0_2 0).f2)).bind fun bt423=>(if 1 < (l0_2.length:Int) then ((impl_pass.f kj36 ((rd_T29 l0_2 1).f0) ((rd_T29 l0_2 1).f1) ((rd_T29 l0_2 1).f2)).bind fun bt431=>(if bt423.2.2.2 = true then (impl_pass.j1 kj36 (!bt431.2.2.2) a0_0 a0_1 l0_2 bt423.1 bt423.2.1 bt423.2.2.1 bt431.1 bt431.2.1 bt431.2.2.1) else (impl_pass.j1 kj36 true a0_0 a0_1 l0_2 bt423.1 bt423.2.1 bt423.2.2.1 bt431.1 bt431.2.1 bt431.2.2.1))) else (none))) else (none)) = some (r1,r2,r3,r4):=by rw [if_pos rfl] at H;exact H
    clear H
    have H:=H1
    clear H1
    by_cases c44:0 < (l0_2.length:Int);rotate_left
    ·rw [if_neg c44] at H
     exact absurd H (by simp)
    rw [if_pos c44] at H
    have c44b0:decide (0 < (l0_2.length:Int)) = true:=decide_eq_true c44
    have c44b1:decide (0 < l0_2.length) = true:=decide_eq_true (by omega)
    clear c44
    obtain ⟨⟨t423,t424,t425,t428⟩,A45,H⟩:=bQ H
    dsimp only at H
    by_cases c46:1 < (l0_2.length:Int);rotate_left
    ·rw [if_neg c46] at H
     exact absurd H (by simp)
    rw [if_pos c46] at H
    have c46b0:decide (1 < (l0_2.length:Int)) = true:=decide_eq_true c46
    have c46b1:decide (1 < l0_2.length) = true:=decide_eq_true (by omega)
    clear c46
    obtain ⟨⟨t431,t432,t433,t436⟩,A47,H⟩:=bQ H
    dsimp only at H
    have XK:=aQ H
    clear H
    have RS:=Zm.out
    have RT:=Zr.out
    obtain ⟨Wd,We,Wf,Wg,Wh,Wi⟩:=cz3 Zb.out
    have p422:0 ≤ (0:Int):=(by omega)
    have q422:0 < (l0_2.length:Int):=of_decide_eq_true (by assumption)
    obtain ⟨ZO,A422_2,c422_2,e422,YO,YP,YC,Xk,Xl⟩:=at_T29 (Kd.V_reads' Za.out).2.2 0 p422 q422
    cases e422
    obtain ⟨RU,WN,WO,XG⟩:=Kd.V_get Za.out z29 0 p422 (by first | exact q422 | exact of_decide_eq_true (by assumption) | (have e_:=(Kd.V_reads' Za.out).1;omega))
    obtain ⟨Se,Sf,rfl,YQ,YR⟩:=k29_openF WO
    have YD:=XG 2 _ rfl
    rw [add_field _ _ 2 (by omega)] at YD
    replace YD:=Option.some.inj (YD.symm.trans YC)
    injection YD with hva_ hvn_ hvc_
    rw [hva_] at YR
    rw [hvc_] at YQ
    have Zx:=aQ (show Kd.V k29 29 _ w.heap.size _ _ ((rd_T29 l0_2 0).f2) from Kd.V_mk YQ YR)
    clear hva_ hvn_ hvc_ YR YQ
    clear XG WN
    have qi422:(0 < l0_2.length) = True:=eq_true (by omega)
    (try rw [show ((0:Int)).toNat = 0 from rfl,show 0 * 3 = 0 from rfl] at YO YP YC)
    (try rw [Addr.add_zero'] at YO)
    (try rw [Addr.add_zero'] at YP)
    (try rw [Addr.add_zero'] at YC)
    have ZF:=aQ Xl
    have Sg:=aQ Xk
    clear Xl Xk
    replace p422:=eq_true p422
    replace q422:=eq_true q422
    go_upto_region 14 with (first | ((with_reducible refine gate_callee (f:=49) rfl ?_);refine goesL_ (some 45) rfl rfl Try.func49 (by kernel_rfl) rfl #[.agg #[.int .i64 ((rd_T29 l0_2 0).f0),.int .i64 ((rd_T29 l0_2 0).f1),.slice A422_2 ((rd_T29 l0_2 0).f2).length c422_2]] rfl mP ?_;(with_reducible refine (ih kj36 (by have:=HJ36.out;omega) ((rd_T29 l0_2 0).f0) ((rd_T29 l0_2 0).f1) (fun k_=>((P0_2_ k_ ∨ w.heap.size ≤ k_)∧(k_ ≠ Zf∧k_ ≠ Zc))) _ _ ((rd_T29 l0_2 0).f2) t423 t424 t425 t428 _ ?Zz A45.out).mono ?_);(case Zz=>exact Zx.out);rintro e w51 ⟨v426,rfl,ho0,hb⟩;refine ⟨_,rfl,?_⟩;replace Za:=aQ (Kd.V_elder' (nV Za.out) (Kd.N_base ho0) hb);replace Zx:=aQ (Kd.V_elder' (nV Zx.out) (Kd.N_base ho0) hb);have ZM:=aQ (Kd.N_lower (Kd.N_mono (ok':=fun k_=>(P0_2_ k_ ∨ w.heap.size ≤ k_)∧k_ ≠ Zf∧k_ ≠ Zc) ho0 (fun k_ hk_=>⟨Or.elim hk_ (fun hs_=>hs_.1) (fun hn_=>(.inr (Nat.le_trans (below_size bB) hn_))),Or.elim hk_ (fun hs_=>hs_.2.1) (fun hn_=>(Kd.freshB (nB Zb.out) k_ hn_)),Or.elim hk_ (fun hs_=>hs_.2.2) (fun hn_=>(Kd.freshB (nB Zd.out) k_ hn_))⟩)) (below_size bB));replace Zb:=aQ (blk_below (nB Zb.out) hb);replace Zd:=aQ (blk_below (nB Zd.out) hb);replace ZF:=aQ (Kd.C_below (nC ZF.out) hb);replace HB:=aQ (below_step bB hb);(try clear hb);(try clear ho0)) | ((with_reducible refine gate_dst (N:=5) rfl ?_);refine box1 (N:=5) (cs:=#[.int .i64 0,.int .i64 0,.slice none 0 0]) (t:=29) ?_;intro Zj hg w52 hbox hb;replace Za:=aQ (Kd.V_below (Kd.V_elderB (nV Za.out) Zj (Nat.le_of_eq hg.symm)) hb);replace Zx:=aQ (Kd.V_below (Kd.V_elderB (nV Zx.out) Zj (Nat.le_of_eq hg.symm)) hb);replace ZM:=aQ (Kd.N_below (Kd.N_elderB (nN ZM.out) Zj (Nat.le_of_eq hg.symm)) hb);replace ZF:=aQ (Kd.C_below (nC ZF.out) hb);have Zl:=aQ (hbox);have WU:=aQ (gB:w.heap.size ≤ Zj);have RV:=WU;replace HB:=aQ (below_step bB hb);have ZP:=aQ ((by rw [hg];exact Nat.ne_of_lt (blk_lt (nB Zb.out)):Zf ≠ Zj));have ZU:=aQ ZP.out.symm;replace Zb:=aQ (blk_below (nB Zb.out) hb);have ZV:=aQ ((by rw [hg];exact Nat.ne_of_lt (blk_lt (nB Zd.out)):Zc ≠ Zj));have Ye:=aQ ZV.out.symm;replace Zd:=aQ (blk_below (nB Zd.out) hb);clear hb hbox hg;have RW:=ZU.out;have RX:=ZP.out;have RY:=Ye.out;have RZ:=ZV.out;obtain ⟨Wj,Wk,Wl,Wm,Wn,Wo⟩:=cz3 Zl.out;obtain ⟨Zs,Zt,Vp⟩:=Kd.N_slice ZM.out;subst Vp) | ((with_reducible refine gate_store (t:=29) (p:=5) rfl ?_);refine store_event (t:=29) (p:=5) (v:=?vo_w57) (w1:=(((w52.setCell ⟨Zj,0,none⟩ (.int .i64 t423)).setCell ⟨Zj,1,none⟩ (.int .i64 t424)).setCell ⟨Zj,2,none⟩ (.slice Zs t425.length Zt))) ?hg ?ho ?hn ?hr ?_;(case ho=>rfl);(case hg=>rfl);(case hn=>rfl);(case hr=>first | (go_simp;done) | (go_simp;rfl));intro w57 hw;have n0_:Aside0 (Kd.V k29 29 w57 w.heap.size (fun k_=>(P0_2_ k_ ∨ w.heap.size ≤ k_)∧some k_ ≠ (.slice Zs t425.length Zt:Value).ownBlock∧k_ ≠ Zf∧k_ ≠ Zc∧k_ ≠ Zj) (.slice (some ZO) l0_2.length c0_2) l0_2):=⟨(by rw [hw];exact (Kd.V_mono (nFV (g:=Zj) Za.out (fun k_ hk=>hk.2)) (fun _ hk=>⟨hk.1.1.1,⟨hk.1.2,⟨hk.1.1.2.1,⟨hk.1.1.2.2,hk.2⟩⟩⟩⟩)))⟩;have n1_:Aside0 (Kd.V k29 29 w57 w.heap.size (fun k_=>(P0_2_ k_ ∨ w.heap.size ≤ k_)∧some k_ ≠ (.slice Zs t425.length Zt:Value).ownBlock∧k_ ≠ Zf∧k_ ≠ Zc∧k_ ≠ Zj) (.slice A422_2 ((rd_T29 l0_2 0).f2).length c422_2) ((rd_T29 l0_2 0).f2)):=⟨(by rw [hw];exact (Kd.V_mono (nFV (g:=Zj) Zx.out (fun k_ hk=>hk.2)) (fun _ hk=>⟨hk.1.1.1,⟨hk.1.2,⟨hk.1.1.2.1,⟨hk.1.1.2.2,hk.2⟩⟩⟩⟩)))⟩;have n2_:Aside0 (Kd.N k29 29 w57 w.heap.size (fun k_=>(P0_2_ k_ ∨ w.heap.size ≤ k_)∧k_ ≠ Zf∧k_ ≠ Zc∧k_ ≠ Zj) (.slice Zs t425.length Zt) t425):=⟨(by rw [hw];exact (Kd.N_mono (nFN (g:=Zj) ZM.out (fun k_ hk=>hk.2)) (fun _ hk=>⟨hk.1.1,⟨hk.1.2.1,⟨hk.1.2.2,hk.2⟩⟩⟩)))⟩;have n3_:Aside0 (w57.heap[Zf]? = some (.cells #[.int .i64 a0_0,.int .i64 a0_1,.slice (some ZO) l0_2.length c0_2] 29 (0,0))):=⟨(by rw [hw];exact bF)⟩;have n4_:Aside0 (w57.heap[Zc]? = some (.cells #[.int .i64 0,.int .i64 0,.slice none 0 0] 29 (0,0))):=⟨(by rw [hw];exact bF)⟩;have n5_:Aside0 (w57.heap[Zj]? = some (.cells #[.int .i64 t423,.int .i64 t424,.slice Zs t425.length Zt] 29 (0,0))):=⟨(by rw [hw];exact bP)⟩;have n6_:Aside0 (Below w.heap.size w w57):=⟨(by rw [hw];exact bB)⟩;clear hw;clear Za;clear Zx;clear ZM;clear Zb;clear Zd;clear Zl;clear HB;have Za:=n0_;have Zx:=n1_;have ZM:=n2_;have Zb:=n3_;have Zd:=n4_;have Zl:=n5_;have HB:=n6_;clear n0_ n1_ n2_ n3_ n4_ n5_ n6_;obtain ⟨Wp,Wq,Wr,Ws,Wt,Wu⟩:=cz3 Zb.out;have p430:0 ≤ (1:Int):=(by omega);have q430:1 < (l0_2.length:Int):=of_decide_eq_true (by first | (with_reducible assumption) | assumption);obtain ⟨WV,A430_2,c430_2,e430,YS,YT,YE,Xm,Xn⟩:=at_T29 (Kd.V_reads' Za.out).2.2 1 p430 q430;obtain rfl:ZO = WV:=(by injection e430);obtain ⟨Qa,WP,WQ,XH⟩:=Kd.V_get Za.out z29 1 p430 (by first | exact q430 | exact of_decide_eq_true (by first | (with_reducible assumption) | assumption) | (have e_:=(Kd.V_reads' Za.out).1;omega));obtain ⟨Sh,Si,rfl,YU,YV⟩:=k29_openF WQ;have YF:=XH 2 _ rfl;rw [add_field _ _ 2 (by omega)] at YF;replace YF:=Option.some.inj (YF.symm.trans YE);injection YF with hva_ hvn_ hvc_;rw [hva_] at YV;rw [hvc_] at YU;have ZQ:=aQ (show Kd.V k29 29 _ w.heap.size _ _ ((rd_T29 l0_2 1).f2) from Kd.V_mk YU YV);clear hva_ hvn_ hvc_ YV YU;clear XH WP;(try simp only [show (1:Int).toNat = 1 from rfl,Nat.reduceMul,Nat.reduceEqDiff,Go.Addr.add,↓reduceIte] at YS);(try simp only [show (1:Int).toNat = 1 from rfl,Nat.reduceMul,Nat.reduceEqDiff,Go.Addr.add,↓reduceIte] at YT);(try simp only [show (1:Int).toNat = 1 from rfl,Nat.reduceMul,Nat.reduceEqDiff,Go.Addr.add,↓reduceIte] at YE);have qi430:(1 < l0_2.length) = True:=eq_true (by omega);(try rw [show ((1:Int)).toNat = 1 from rfl,show 1 * 3 = 3 from rfl] at YS YT YE);have ZD:=aQ Xn;have Sj:=aQ Xm;clear Xn Xm;replace p430:=eq_true p430;replace q430:=eq_true q430) | ((with_reducible refine gate_callee (f:=49) rfl ?_);refine goesL_ (some 53) rfl rfl Try.func49 (by kernel_rfl) rfl #[.agg #[.int .i64 ((rd_T29 l0_2 1).f0),.int .i64 ((rd_T29 l0_2 1).f1),.slice A430_2 ((rd_T29 l0_2 1).f2).length c430_2]] rfl mP ?_;(with_reducible refine (ih kj36 (by have:=HJ36.out;omega) ((rd_T29 l0_2 1).f0) ((rd_T29 l0_2 1).f1) (fun k_=>((P0_2_ k_ ∨ w.heap.size ≤ k_)∧(some k_ ≠ (.slice Zs t425.length Zt:Value).ownBlock∧(k_ ≠ Zf∧(k_ ≠ Zc∧k_ ≠ Zj))))) _ _ ((rd_T29 l0_2 1).f2) t431 t432 t433 t436 _ ?Zz A47.out).mono ?_);(case Zz=>exact ZQ.out);rintro e w59 ⟨v434,rfl,ho0,hb⟩;refine ⟨_,rfl,?_⟩;have n0_:=aQ (Kd.V_elder' (nV Za.out) (Kd.N_base ho0) hb);have n1_:=aQ (Kd.V_elder' (nV Zx.out) (Kd.N_base ho0) hb);have n2_:=aQ (Kd.N_elder' (nN ZM.out) (Kd.N_base ho0) hb);have n3_:=aQ (Kd.V_elder' (nV ZQ.out) (Kd.N_base ho0) hb);have n4_:=aQ (Kd.N_lower (Kd.N_mono (ok':=fun k_=>(P0_2_ k_ ∨ w.heap.size ≤ k_)∧some k_ ≠ (.slice Zs t425.length Zt:Value).ownBlock∧k_ ≠ Zf∧k_ ≠ Zc∧k_ ≠ Zj) ho0 (fun k_ hk_=>⟨Or.elim hk_ (fun hs_=>hs_.1) (fun hn_=>(.inr (Nat.le_trans (below_size bB) hn_))),Or.elim hk_ (fun hs_=>hs_.2.1) (fun hn_=>(Kd.fresh' (Kd.N_lt (nN ZM.out)) k_ hn_)),Or.elim hk_ (fun hs_=>hs_.2.2.1) (fun hn_=>(Kd.freshB (nB Zb.out) k_ hn_)),Or.elim hk_ (fun hs_=>hs_.2.2.2.1) (fun hn_=>(Kd.freshB (nB Zd.out) k_ hn_)),Or.elim hk_ (fun hs_=>hs_.2.2.2.2) (fun hn_=>(Kd.freshB (nB Zl.out) k_ hn_))⟩)) (below_size bB));have n5_:=aQ (blk_below (nB Zb.out) hb);have n6_:=aQ (blk_below (nB Zd.out) hb);have n8_:=aQ (blk_below (nB Zl.out) hb);have n9_:=aQ (Kd.C_below (nC ZD.out) hb);have n10_:=aQ (below_step bB hb);clear Za;clear Zx;clear ZM;clear ZQ;clear Zb;clear Zd;(try clear ZF);clear Zl;clear ZD;clear HB;have Za:=n0_;have Zx:=n1_;have ZM:=n2_;have ZQ:=n3_;have YG:=n4_;have Zb:=n5_;have Zd:=n6_;have Zl:=n8_;have ZD:=n9_;have HB:=n10_;clear n0_ n1_ n2_ n3_ n4_ n5_ n6_ n8_ n9_ n10_;(try clear hb);(try clear ho0)) | ((with_reducible refine gate_dst (N:=7) rfl ?_);refine box1 (N:=7) (cs:=#[.int .i64 0,.int .i64 0,.slice none 0 0]) (t:=29) ?_;intro Zg hg w60 hbox hb;have n0_:=aQ (Kd.V_below (Kd.V_elderB (nV Za.out) Zg (Nat.le_of_eq hg.symm)) hb);have n1_:=aQ (Kd.V_below (Kd.V_elderB (nV Zx.out) Zg (Nat.le_of_eq hg.symm)) hb);have n2_:=aQ (Kd.N_below (Kd.N_elderB (nN ZM.out) Zg (Nat.le_of_eq hg.symm)) hb);have n3_:=aQ (Kd.V_below (Kd.V_elderB (nV ZQ.out) Zg (Nat.le_of_eq hg.symm)) hb);have n4_:=aQ (Kd.N_below (Kd.N_elderB (nN YG.out) Zg (Nat.le_of_eq hg.symm)) hb);have n5_:=aQ (blk_below (nB Zb.out) hb);have n6_:=aQ (blk_below (nB Zd.out) hb);have n8_:=aQ (blk_below (nB Zl.out) hb);have n9_:=aQ (Kd.C_below (nC ZD.out) hb);have n10_:=aQ (below_step bB hb);have n11_:=aQ (hbox);have n12_:=aQ ((by rw [hg];exact (below_size bB):w.heap.size ≤ Zg));have n13_:=aQ ((by rw [hg];exact (below_size bB):w.heap.size ≤ Zg));have n14_:=aQ ((by rw [hg];exact Nat.ne_of_lt (blk_lt (nB Zb.out)):Zf ≠ Zg));have n15_:=aQ ((by rw [hg];exact Nat.ne_of_gt (blk_lt (nB Zb.out)):Zg ≠ Zf));have n16_:=aQ ((by rw [hg];exact Nat.ne_of_lt (blk_lt (nB Zd.out)):Zc ≠ Zg));have n17_:=aQ ((by rw [hg];exact Nat.ne_of_gt (blk_lt (nB Zd.out)):Zg ≠ Zc));have n18_:=aQ ((by rw [hg];exact Nat.ne_of_lt (blk_lt (nB Zl.out)):Zj ≠ Zg));have n19_:=aQ ((by rw [hg];exact Nat.ne_of_gt (blk_lt (nB Zl.out)):Zg ≠ Zj));clear Za;clear Zx;clear ZM;clear ZQ;clear YG;clear Zb;clear Zd;clear Zl;clear ZD;clear HB;have Za:=n0_;have Zx:=n1_;have ZM:=n2_;have ZQ:=n3_;have YG:=n4_;have Zb:=n5_;have Zd:=n6_;have Zl:=n8_;have ZD:=n9_;have HB:=n10_;have Zn:=n11_;have Qb:=n12_;have Qc:=n13_;have ZW:=n14_;have ZX:=n15_;have Yf:=n16_;have Yg:=n17_;have Yw:=n18_;have Yx:=n19_;clear n0_ n1_ n2_ n3_ n4_ n5_ n6_ n8_ n9_ n10_ n11_ n12_ n13_ n14_ n15_ n16_ n17_ n18_ n19_;clear hb hbox hg;have Qd:=ZX.out;have Qe:=ZW.out;have Qf:=Yg.out;have Qg:=Yf.out;have Qh:=Yx.out;have Qi:=Yw.out;obtain ⟨Wv,Ww,Wx,Wy,Wz,WA⟩:=cz3 Zn.out;obtain ⟨Zv,Zw,Vq⟩:=Kd.N_slice YG.out;subst Vq))
    (try simp only [Act.put,List.setIfInBounds_toArray,List.set_cons_zero,List.set_cons_succ])
    go_cut [61] (fun v61 wc=>∃ (kq:Nat) (x61_47:Bool),v61 = .bool x61_47∧Aside0 (impl_pass.j1 kq x61_47 a0_0 a0_1 l0_2 t423 t424 t425 t431 t432 t433 = some (r1,r2,r3,r4))∧Aside0 (kq ≤ kj36)∧Aside0 (Kd.V k29 29 wc w.heap.size (fun k_=>(P0_2_ k_ ∨ w.heap.size ≤ k_)∧some k_ ≠ ((.slice Zs t425.length Zt):Value).ownBlock∧some k_ ≠ ((.slice Zv t433.length Zw):Value).ownBlock∧k_ ≠ Zf∧k_ ≠ Zc∧k_ ≠ Zj∧k_ ≠ Zg) (.slice (some ZO) l0_2.length c0_2) l0_2)∧Aside0 (Kd.N k29 29 wc w.heap.size (fun k_=>(P0_2_ k_ ∨ w.heap.size ≤ k_)∧some k_ ≠ ((.slice Zv t433.length Zw):Value).ownBlock∧k_ ≠ Zf∧k_ ≠ Zc∧k_ ≠ Zj∧k_ ≠ Zg) (.slice Zs t425.length Zt) t425)∧Aside0 (Kd.N k29 29 wc w.heap.size (fun k_=>(P0_2_ k_ ∨ w.heap.size ≤ k_)∧some k_ ≠ ((.slice Zs t425.length Zt):Value).ownBlock∧k_ ≠ Zf∧k_ ≠ Zc∧k_ ≠ Zj∧k_ ≠ Zg) (.slice Zv t433.length Zw) t433)∧Aside0 (wc.heap[Zf]? = some (.cells #[.int .i64 a0_0,.int .i64 a0_1,(.slice (some ZO) l0_2.length c0_2)] 29 (0,0)))∧Aside0 (wc.heap[Zc]? = some (.cells #[.int .i64 0,.int .i64 0,(.slice none 0 0)] 29 (0,0)))∧Aside0 (wc.heap[Zj]? = some (.cells #[.int .i64 t423,.int .i64 t424,(.slice Zs t425.length Zt)] 29 (0,0)))∧Aside0 (wc.heap[Zg]? = some (.cells #[.int .i64 t431,.int .i64 t432,(.slice Zv t433.length Zw)] 29 (0,0)))∧Aside0 (Kd.C k29 wc A422_2 ((rd_T29 l0_2 0).f2).length ((rd_T29 l0_2 0).f2))∧Aside0 (Kd.C k29 wc A430_2 ((rd_T29 l0_2 1).f2).length ((rd_T29 l0_2 1).f2))∧Aside0 (Below w.heap.size w wc))
    case first =>
     have H:=XK.out
     clear XK
     by_cases c66:t428 = true
     ·subst c66
      have H1:(impl_pass.j1 kj36 (!t436) a0_0 a0_1 l0_2 t423 t424 t425 t431 t432 t433) = some (r1,r2,r3,r4):=by rw [if_pos rfl] at H;exact H
      clear H
      have H:=H1
      clear H1
      have H':=aQ H
      clear H
      go_wp2
      go_meet
      case rel=>exact ⟨_,(!t436),rfl,H',⟨by have:=HJ36.out;first | omega | exact Nat.le_refl _⟩,⟨by exact Kd.V_mono (nFV (g:=Zg) Za.out (fun k_ hk=>hk.2)) (fun _ hk=>⟨hk.1.1.1,⟨hk.1.1.2.1,⟨hk.1.2,⟨hk.1.1.2.2.1,⟨hk.1.1.2.2.2.1,⟨hk.1.1.2.2.2.2,hk.2⟩⟩⟩⟩⟩⟩)⟩,⟨by exact Kd.N_mono (nFN (g:=Zg) ZM.out (fun k_ hk=>hk.2)) (fun _ hk=>⟨hk.1.1.1,⟨hk.1.2,⟨hk.1.1.2.1,⟨hk.1.1.2.2.1,⟨hk.1.1.2.2.2,hk.2⟩⟩⟩⟩⟩)⟩,⟨by exact Kd.N_mono (nFN (g:=Zg) YG.out (fun k_ hk=>hk.2)) (fun _ hk=>⟨hk.1.1,⟨hk.1.2.1,⟨hk.1.2.2.1,⟨hk.1.2.2.2.1,⟨hk.1.2.2.2.2,hk.2⟩⟩⟩⟩⟩)⟩,⟨bF⟩,⟨bF⟩,⟨bF⟩,⟨bP⟩,⟨(Kd.V_reads' (by exact (Kd.V_mono (Kd.V_far (p:=⟨Zg,2,none⟩) (Kd.V_far (p:=⟨Zg,1,none⟩) (Kd.V_far (p:=⟨Zg,0,none⟩) (Kd.V_mono Zx.out (fun k_ hk=>(⟨hk,hk.2⟩:_∧k_ ≠ Zg))) (fun _ hk=>hk.2) (.int .i64 t431)) (fun _ hk=>hk.2) (.int .i64 t432)) (fun _ hk=>hk.2) (.slice Zv t433.length Zw)) (fun _ h_=>h_.1)))).2.2⟩,⟨(Kd.V_reads' (by exact (Kd.V_mono (Kd.V_far (p:=⟨Zg,2,none⟩) (Kd.V_far (p:=⟨Zg,1,none⟩) (Kd.V_far (p:=⟨Zg,0,none⟩) (Kd.V_mono ZQ.out (fun k_ hk=>(⟨hk,hk.2⟩:_∧k_ ≠ Zg))) (fun _ hk=>hk.2) (.int .i64 t431)) (fun _ hk=>hk.2) (.int .i64 t432)) (fun _ hk=>hk.2) (.slice Zv t433.length Zw)) (fun _ h_=>h_.1)))).2.2⟩,⟨bB⟩⟩
     ·replace c66:=Bool.eq_false_iff.mpr c66
      subst c66
      have H1:(impl_pass.j1 kj36 true a0_0 a0_1 l0_2 t423 t424 t425 t431 t432 t433) = some (r1,r2,r3,r4):=by rw [if_neg (show ¬ (false = true) by decide)] at H;exact H
      clear H
      have H:=H1
      clear H1
      have H':=aQ H
      clear H
      go_wp2
      go_meet
      case rel=>exact ⟨_,(true),rfl,H',⟨by have:=HJ36.out;first | omega | exact Nat.le_refl _⟩,⟨by exact Kd.V_mono (nFV (g:=Zg) Za.out (fun k_ hk=>hk.2)) (fun _ hk=>⟨hk.1.1.1,⟨hk.1.1.2.1,⟨hk.1.2,⟨hk.1.1.2.2.1,⟨hk.1.1.2.2.2.1,⟨hk.1.1.2.2.2.2,hk.2⟩⟩⟩⟩⟩⟩)⟩,⟨by exact Kd.N_mono (nFN (g:=Zg) ZM.out (fun k_ hk=>hk.2)) (fun _ hk=>⟨hk.1.1.1,⟨hk.1.2,⟨hk.1.1.2.1,⟨hk.1.1.2.2.1,⟨hk.1.1.2.2.2,hk.2⟩⟩⟩⟩⟩)⟩,⟨by exact Kd.N_mono (nFN (g:=Zg) YG.out (fun k_ hk=>hk.2)) (fun _ hk=>⟨hk.1.1,⟨hk.1.2.1,⟨hk.1.2.2.1,⟨hk.1.2.2.2.1,⟨hk.1.2.2.2.2,hk.2⟩⟩⟩⟩⟩)⟩,⟨bF⟩,⟨bF⟩,⟨bF⟩,⟨bP⟩,⟨(Kd.V_reads' (by exact (Kd.V_mono (Kd.V_far (p:=⟨Zg,2,none⟩) (Kd.V_far (p:=⟨Zg,1,none⟩) (Kd.V_far (p:=⟨Zg,0,none⟩) (Kd.V_mono Zx.out (fun k_ hk=>(⟨hk,hk.2⟩:_∧k_ ≠ Zg))) (fun _ hk=>hk.2) (.int .i64 t431)) (fun _ hk=>hk.2) (.int .i64 t432)) (fun _ hk=>hk.2) (.slice Zv t433.length Zw)) (fun _ h_=>h_.1)))).2.2⟩,⟨(Kd.V_reads' (by exact (Kd.V_mono (Kd.V_far (p:=⟨Zg,2,none⟩) (Kd.V_far (p:=⟨Zg,1,none⟩) (Kd.V_far (p:=⟨Zg,0,none⟩) (Kd.V_mono ZQ.out (fun k_ hk=>(⟨hk,hk.2⟩:_∧k_ ≠ Zg))) (fun _ hk=>hk.2) (.int .i64 t431)) (fun _ hk=>hk.2) (.int .i64 t432)) (fun _ hk=>hk.2) (.slice Zv t433.length Zw)) (fun _ h_=>h_.1)))).2.2⟩,⟨bB⟩⟩
    case rest =>
     clear XK
     try clear c44b0
     try clear c44b1
     try clear c46b0
     try clear c46b1
     try clear Wd
     try clear We
     try clear Wf
     try clear Wj
     try clear Wk
     try clear Wl
     try clear Wp
     try clear Wq
     try clear Wr
     try clear Wv
     try clear Ww
     try clear Wx
     try clear Wg
     try clear Wh
     try clear Wi
     try clear Wm
     try clear Wn
     try clear Wo
     try clear Ws
     try clear Wt
     try clear Wu
     try clear Wy
     try clear Wz
     try clear WA
     try clear YO
     try clear YP
     try clear YC
     try clear YS
     try clear YT
     try clear YE
     try clear p422
     try clear p430
     try clear q422
     try clear q430
     obtain ⟨kq,x61_47,rfl,HA,HJ47,Za,Zh,Zi,Zb,Zd,Zl,Zn,ZF,ZD,HB⟩:=hcut
     cases kq with
     | zero=>exact absurd HA.out (by simp [impl_pass.j1])
     | succ kj47 =>
      have H:=HA.out
      clear HA
      simp only [impl_pass.j1] at H
      by_cases c67:x61_47 = true
      ·subst c67
       have H1:(some (0,0,([]:List (S29)),false)) = some (r1,r2,r3,r4):=by rw [if_pos rfl] at H;exact H
       clear H
       have H:=H1
       clear H1
       simp only [Option.some.injEq,Prod.mk.injEq] at H
       obtain ⟨rfl,rfl,rfl,rfl⟩:=H
       have Qj:=Zr.out
       have Qk:=Zm.out
       have Ql:=ZV.out
       have Qm:=Ye.out
       have Qn:=Yf.out
       have Qo:=Yg.out
       obtain ⟨Sk,Sl,Sm,Sn,So,Sp⟩:=cz3 Zd.out
       go_wp2
       refine bodyPost_ret (results_ct rfl _ _ Zc 29 #[.int .i64 0,.int .i64 0,.slice none 0 0] (0,0) _ rfl bP Try.underlying29 rfl (by kernel_rfl)) rfl ?_
       exact ⟨_,rfl,by first | exact Kd.R_nil _ _ _ _ _ | exact Kd.N_nil _ _ _ _ _ | exact Kd.V_nil _ _ _ _ _ | exact Kd.Q_nil _ _ _ _ _ | exact Kd.S_nil _ _ _ _ _,bB⟩
      ·replace c67:=Bool.eq_false_iff.mpr c67
       subst c67
       have H1:(if a0_0 = 4 then (if 0 < (l0_2.length:Int) then ((impl_ticksOf.f kj47 ((rd_T29 l0_2 0).f0) ((rd_T29 l0_2 0).f1) ((rd_T29 l0_2 0).f2)).bind fun t439=>(impl_pass.l0 kj47 t439 (t439.length:Int) 0 a0_0 a0_1 l0_2 t423 t424 t425 t431 t432 t433)) else (none)) else (some (a0_0,0,(([(⟨t423,t424,t425⟩:S29),(⟨t431,t432,t433⟩:S29)]:List (S29))),true))) = some (r1,r2,r3,r4):=by rw [if_neg (show ¬ (false = true) by decide)] at H;exact H
       clear H
       have H:=H1
       clear H1
       by_cases c72:a0_0 = 4;rotate_left
       ·rw [if_neg c72] at H
        have c72b0:(a0_0 == 4) = false:=beq_eq_false_iff_ne.mpr c72
        have c72b1:(a0_0 != 4) = true:=bne_iff_ne.mpr c72
        obtain ⟨y452,Xz⟩:∃ y_:List (S29),y_ = (([(⟨t423,t424,t425⟩:S29),(⟨t431,t432,t433⟩:S29)]:List (S29))):=⟨_,rfl⟩
        replace H:(some (a0_0,0,y452,true)) = some (r1,r2,r3,r4):=by rw [Xz];exact H
        have XO:=aQ Xz
        clear Xz
        simp only [Option.some.injEq,Prod.mk.injEq] at H
        obtain ⟨rfl,rfl,rfl,rfl⟩:=H
        have SH:=Zm.out
        have SI:=Zr.out
        have SJ:=ZP.out
        have SK:=ZU.out
        have SL:=ZW.out
        have SM:=ZX.out
        obtain ⟨Vr,Vs,Vt,Vu,Vv,Vw⟩:=cz3 Zb.out
        have SN:=Ye.out
        have SO:=ZV.out
        have SP:=Yw.out
        have SQ:=Yx.out
        obtain ⟨Vx,Vy,Vz,VA,VB,VC⟩:=cz3 Zl.out
        have SR:=Yg.out
        have SS:=Yf.out
        obtain ⟨VD,VE,VF,VG,VH,VI⟩:=cz3 Zn.out
        go_wp2_with (first | ((with_reducible refine gate_dst (N:=94) rfl ?_);refine Kd.N_lit k29 _ 29 ?hg (N':=94) ?hd (xs:=([(⟨t423,t424,t425⟩:S29),(⟨t431,t432,t433⟩:S29)]:List (S29))) (inner:=[.int .i64 t423,.int .i64 t424,.slice Zs t425.length Zt,.int .i64 t431,.int .i64 t432,.slice Zv t433.length Zw]) (ok:=(fun k_=>(P0_2_ k_ ∨ w.heap.size ≤ k_)∧k_ ≠ Zf∧k_ ≠ Zc∧k_ ≠ Zj∧k_ ≠ Zg)) (okp:=(fun k_=>(P0_2_ k_ ∨ w.heap.size ≤ k_)∧k_ ≠ Zf∧k_ ≠ Zc∧k_ ≠ Zj∧k_ ≠ Zg)) ?hr ?hp (fun _ hk=>hk) ((show ∀ k_,wc.heap.size ≤ k_ → (fun k_=>(P0_2_ k_ ∨ w.heap.size ≤ k_)∧k_ ≠ Zf∧k_ ≠ Zc∧k_ ≠ Zj∧k_ ≠ Zg) k_ from fun k_ hk=>⟨(.inr (Nat.le_trans (below_size bB) hk)),Kd.freshB Zb.out k_ hk,Kd.freshB Zd.out k_ hk,Kd.freshB Zl.out k_ hk,Kd.freshB Zn.out k_ hk⟩) _ (Nat.le_refl _)) (Below.refl _ _) (Nat.le_refl _) (by simp) ?_;(case hd=>rfl);(case hg=>rfl);(case hr=>first | (go_simp;done) | (go_simp;rfl));(case hp=>exact (Reps.c3 (show Kd.FK k29 _ _ (⟨t423,t424,t425⟩:S29) [.int .i64 t423,.int .i64 t424,.slice Zs t425.length Zt] from (k29_mkF _ _ (⟨t423,t424,t425⟩:S29) (Kd.N_reads' (Kd.N_mono (ok':=(fun k_=>(P0_2_ k_ ∨ w.heap.size ≤ k_)∧k_ ≠ Zf∧k_ ≠ Zc∧k_ ≠ Zj∧k_ ≠ Zg)) (Zh.out) (fun k_ hk=>⟨hk.1,⟨hk.2.2.1,⟨hk.2.2.2.1,⟨hk.2.2.2.2.1,hk.2.2.2.2.2⟩⟩⟩⟩))).2.1 (Kd.N_F (Kd.N_mono (ok':=(fun k_=>(P0_2_ k_ ∨ w.heap.size ≤ k_)∧k_ ≠ Zf∧k_ ≠ Zc∧k_ ≠ Zj∧k_ ≠ Zg)) (Zh.out) (fun k_ hk=>⟨hk.1,⟨hk.2.2.1,⟨hk.2.2.2.1,⟨hk.2.2.2.2.1,hk.2.2.2.2.2⟩⟩⟩⟩))))) (Reps.c3 (show Kd.FK k29 _ _ (⟨t431,t432,t433⟩:S29) [.int .i64 t431,.int .i64 t432,.slice Zv t433.length Zw] from (k29_mkF _ _ (⟨t431,t432,t433⟩:S29) (Kd.N_reads' (Kd.N_mono (ok':=(fun k_=>(P0_2_ k_ ∨ w.heap.size ≤ k_)∧k_ ≠ Zf∧k_ ≠ Zc∧k_ ≠ Zj∧k_ ≠ Zg)) (Zi.out) (fun k_ hk=>⟨hk.1,⟨hk.2.2.1,⟨hk.2.2.2.1,⟨hk.2.2.2.2.1,hk.2.2.2.2.2⟩⟩⟩⟩))).2.1 (Kd.N_F (Kd.N_mono (ok':=(fun k_=>(P0_2_ k_ ∨ w.heap.size ≤ k_)∧k_ ≠ Zf∧k_ ≠ Zc∧k_ ≠ Zj∧k_ ≠ Zg)) (Zi.out) (fun k_ hk=>⟨hk.1,⟨hk.2.2.1,⟨hk.2.2.2.1,⟨hk.2.2.2.2.1,hk.2.2.2.2.2⟩⟩⟩⟩))))) (Reps.none _ _))));intro v453 w150 ho151 hb hg_ hnew_;clear hg_ hnew_;(first | rw [← XO.out] at ho151 | (simp only [Int.reduceToNat] at ho151;rw [← XO.out] at ho151));have n0_:=aQ (Kd.V_elder' Za.out (Kd.N_base ho151) hb);have n1_:=aQ (Kd.N_lower ho151 (below_size bB));have n2_:=aQ (blk_below Zb.out hb);have n3_:=aQ (blk_below Zd.out hb);have n4_:=aQ (blk_below Zl.out hb);have n5_:=aQ (blk_below Zn.out hb);have n6_:=aQ (Kd.C_below (nC ZF.out) hb);have n7_:=aQ (Kd.C_below (nC ZD.out) hb);have n8_:=aQ (below_step bB hb);clear Za;clear Zb;clear Zd;clear Zl;clear Zn;clear ZF;clear ZD;clear HB;clear Zh;clear Zi;have Za:=n0_;have XP:=n1_;have Zb:=n2_;have Zd:=n3_;have Zl:=n4_;have Zn:=n5_;have ZF:=n6_;have ZD:=n7_;have HB:=n8_;clear n0_ n1_ n2_ n3_ n4_ n5_ n6_ n7_ n8_;clear hb ho151;obtain ⟨WW,WX,WY⟩:=Kd.N_slice XP.out;subst WY;obtain ⟨VJ,VK,VL,VM,VN,VO⟩:=cz3 Zd.out))
        refine bodyPost_ret (results_ct rfl _ _ Zc 29 #[.int .i64 a0_0,.int .i64 0,.slice WW y452.length WX] (0,0) _ rfl bP Try.underlying29 rfl (by kernel_rfl)) rfl ?_
        exact ⟨_,rfl,by exact Kd.N_mono (nFN (g:=Zc) XP.out (fun k_ hk=>hk.2.2.1)) (fun _ hk=>hk.1),bB⟩
       rw [if_pos c72] at H
       have c72b0:(a0_0 == 4) = true:=beq_iff_eq.mpr c72
       have c72b1:(a0_0 != 4) = false:=bne_eq_false_iff_eq.mpr c72
       clear c72
       by_cases c73:0 < (l0_2.length:Int);rotate_left
       ·rw [if_neg c73] at H
        exact absurd H (by simp)
       rw [if_pos c73] at H
       have c73b0:decide (0 < (l0_2.length:Int)) = true:=decide_eq_true c73
       have c73b1:decide (0 < l0_2.length) = true:=decide_eq_true (by omega)
       clear c73
       obtain ⟨t439,A74,H⟩:=bQ H
       (try dsimp only at H)
       have H':=aQ H
       clear H
       have Qp:=Zm.out
       have Qq:=Zr.out
       have Qr:=ZP.out
       have Qs:=ZU.out
       have Qt:=ZW.out
       have Qu:=ZX.out
       obtain ⟨WB,WC,WD,WE,WF,WG⟩:=cz3 Zb.out
       have p438:0 ≤ (0:Int):=(by omega)
       have q438:0 < (l0_2.length:Int):=of_decide_eq_true (by assumption)
       obtain ⟨WZ,A438_2,c438_2,e438,YW,YX,YH,Xo,Xp⟩:=at_T29 (Kd.V_reads' Za.out).2.2 0 p438 q438
       obtain rfl:ZO = WZ:=(by injection e438)
       obtain ⟨Qv,WR,WS,XI⟩:=Kd.V_get Za.out z29 0 p438 (by first | exact q438 | exact of_decide_eq_true (by assumption) | (have e_:=(Kd.V_reads' Za.out).1;omega))
       obtain ⟨Sq,Sr,rfl,YY,YZ⟩:=k29_openF WS
       have YI:=XI 2 _ rfl
       rw [add_field _ _ 2 (by omega)] at YI
       replace YI:=Option.some.inj (YI.symm.trans YH)
       injection YI with hva_ hvn_ hvc_
       rw [hva_] at YZ
       rw [hvc_] at YY
       have Xa:=aQ (show Kd.V k29 29 _ w.heap.size _ _ ((rd_T29 l0_2 0).f2) from Kd.V_mk YY YZ)
       clear hva_ hvn_ hvc_ YZ YY
       clear XI WR
       have qi438:(0 < l0_2.length) = True:=eq_true (by omega)
       (try rw [show ((0:Int)).toNat = 0 from rfl,show 0 * 3 = 0 from rfl] at YW YX YH)
       (try rw [Addr.add_zero'] at YW)
       (try rw [Addr.add_zero'] at YX)
       (try rw [Addr.add_zero'] at YH)
       have Xq:=aQ Xp
       have Ss:=aQ Xo
       clear Xp Xo
       replace p438:=eq_true p438
       replace q438:=eq_true q438
       go_wp2_with (first | ((with_reducible refine gate_callee (f:=47) rfl ?_);refine goesL_ (some 70) rfl rfl Try.func47 (by kernel_rfl) rfl #[.agg #[.int .i64 ((rd_T29 l0_2 0).f0),.int .i64 ((rd_T29 l0_2 0).f1),.slice A438_2 ((rd_T29 l0_2 0).f2).length c438_2]] rfl mP ?_;(with_reducible refine (impl_ticksOf.calls kj47 ((rd_T29 l0_2 0).f0) ((rd_T29 l0_2 0).f1) (fun k_=>((P0_2_ k_ ∨ w.heap.size ≤ k_)∧(some k_ ≠ (.slice Zs t425.length Zt:Value).ownBlock∧(some k_ ≠ (.slice Zv t433.length Zw:Value).ownBlock∧(k_ ≠ Zf∧(k_ ≠ Zc∧(k_ ≠ Zj∧k_ ≠ Zg))))))) _ _ ((rd_T29 l0_2 0).f2) t439 _ ?Zz A74.out).mono ?_);(case Zz=>exact Xa.out);rintro e w79 ⟨v440,rfl,ho0,hb⟩;refine ⟨_,rfl,?_⟩;replace Za:=aQ (Kd.V_elder' Za.out (Kd.N_base ho0) hb);replace Xa:=aQ (Kd.V_elder' Xa.out (Kd.N_base ho0) hb);have XQ:=aQ (Kd.N_lower (Kd.N_mono (ok':=fun k_=>(P0_2_ k_ ∨ w.heap.size ≤ k_)∧some k_ ≠ (.slice Zs t425.length Zt:Value).ownBlock∧some k_ ≠ (.slice Zv t433.length Zw:Value).ownBlock∧k_ ≠ Zf∧k_ ≠ Zc∧k_ ≠ Zj∧k_ ≠ Zg) ho0 (fun k_ hk_=>⟨Or.elim hk_ (fun hs_=>hs_.1) (fun hn_=>(.inr (Nat.le_trans (below_size bB) hn_))),Or.elim hk_ (fun hs_=>hs_.2.1) (fun hn_=>(Kd.fresh' (Kd.N_lt Zh.out) k_ hn_)),Or.elim hk_ (fun hs_=>hs_.2.2.1) (fun hn_=>(Kd.fresh' (Kd.N_lt Zi.out) k_ hn_)),Or.elim hk_ (fun hs_=>hs_.2.2.2.1) (fun hn_=>(Kd.freshB Zb.out k_ hn_)),Or.elim hk_ (fun hs_=>hs_.2.2.2.2.1) (fun hn_=>(Kd.freshB Zd.out k_ hn_)),Or.elim hk_ (fun hs_=>hs_.2.2.2.2.2.1) (fun hn_=>(Kd.freshB Zl.out k_ hn_)),Or.elim hk_ (fun hs_=>hs_.2.2.2.2.2.2) (fun hn_=>(Kd.freshB Zn.out k_ hn_))⟩)) (below_size bB));replace Zh:=aQ (Kd.N_elder' Zh.out (Kd.N_base ho0) hb);replace Zi:=aQ (Kd.N_elder' Zi.out (Kd.N_base ho0) hb);replace Zb:=aQ (blk_below Zb.out hb);replace Zd:=aQ (blk_below Zd.out hb);replace Zl:=aQ (blk_below Zl.out hb);replace Zn:=aQ (blk_below Zn.out hb);replace ZF:=aQ (Kd.C_below (nC ZF.out) hb);replace ZD:=aQ (Kd.C_below (nC ZD.out) hb);replace Xq:=aQ (Kd.C_below (nC Xq.out) hb);replace HB:=aQ (below_step bB hb);(try clear hb);(try clear ho0);obtain ⟨Yo,ZB,VP⟩:=Kd.N_slice XQ.out;subst VP))
       go_loopg [72] kj47 (fun kq v72 w'=>∃ (x72_3:Int) (x405000_3:Int) (x405001_3:Int),v72 = .int .i64 x72_3∧Aside0 (impl_pass.l0 kq t439 (t439.length:Int) x72_3 a0_0 a0_1 l0_2 t423 t424 t425 t431 t432 t433 = some (r1,r2,r3,r4))∧Aside0 (kq ≤ kj47)∧Aside0 (Kd.N k44 44 w' w.heap.size (fun k_=>(P0_2_ k_ ∨ w.heap.size ≤ k_)∧some k_ ≠ ((.slice Zs t425.length Zt):Value).ownBlock∧some k_ ≠ ((.slice Zv t433.length Zw):Value).ownBlock∧k_ ≠ Zf∧k_ ≠ Zc∧k_ ≠ Zj∧k_ ≠ Zg) (.slice Yo t439.length ZB) t439)∧Aside0 (Kd.V k29 29 w' w.heap.size (fun k_=>(P0_2_ k_ ∨ w.heap.size ≤ k_)∧some k_ ≠ ((.slice Yo t439.length ZB):Value).ownBlock∧some k_ ≠ ((.slice Zs t425.length Zt):Value).ownBlock∧some k_ ≠ ((.slice Zv t433.length Zw):Value).ownBlock∧k_ ≠ Zf∧k_ ≠ Zc∧k_ ≠ Zj∧k_ ≠ Zg) (.slice (some ZO) l0_2.length c0_2) l0_2)∧Aside0 (Kd.N k29 29 w' w.heap.size (fun k_=>(P0_2_ k_ ∨ w.heap.size ≤ k_)∧some k_ ≠ ((.slice Yo t439.length ZB):Value).ownBlock∧some k_ ≠ ((.slice Zv t433.length Zw):Value).ownBlock∧k_ ≠ Zf∧k_ ≠ Zc∧k_ ≠ Zj∧k_ ≠ Zg) (.slice Zs t425.length Zt) t425)∧Aside0 (Kd.N k29 29 w' w.heap.size (fun k_=>(P0_2_ k_ ∨ w.heap.size ≤ k_)∧some k_ ≠ ((.slice Yo t439.length ZB):Value).ownBlock∧some k_ ≠ ((.slice Zs t425.length Zt):Value).ownBlock∧k_ ≠ Zf∧k_ ≠ Zc∧k_ ≠ Zj∧k_ ≠ Zg) (.slice Zv t433.length Zw) t433)∧Aside0 (w'.heap[Zf]? = some (.cells #[.int .i64 a0_0,.int .i64 a0_1,(.slice (some ZO) l0_2.length c0_2)] 29 (0,0)))∧Aside0 (w'.heap[Zc]? = some (.cells #[.int .i64 x405000_3,.int .i64 x405001_3,(.slice none 0 0)] 29 (0,0)))∧Aside0 (w'.heap[Zj]? = some (.cells #[.int .i64 t423,.int .i64 t424,(.slice Zs t425.length Zt)] 29 (0,0)))∧Aside0 (w'.heap[Zg]? = some (.cells #[.int .i64 t431,.int .i64 t432,(.slice Zv t433.length Zw)] 29 (0,0)))∧Aside0 (Below w.heap.size w w'))
       case atStart=>exact ⟨(0),(0),(0),rfl,H',⟨Nat.le_refl _⟩,⟨XQ.out⟩,⟨by exact Kd.V_mono Za.out (fun _ hk=>⟨hk.1.1,⟨hk.2,⟨hk.1.2.1,⟨hk.1.2.2.1,⟨hk.1.2.2.2.1,⟨hk.1.2.2.2.2.1,⟨hk.1.2.2.2.2.2.1,hk.1.2.2.2.2.2.2⟩⟩⟩⟩⟩⟩⟩)⟩,⟨by exact Kd.N_mono Zh.out (fun _ hk=>⟨hk.1.1,⟨hk.2,⟨hk.1.2.1,⟨hk.1.2.2.1,⟨hk.1.2.2.2.1,⟨hk.1.2.2.2.2.1,hk.1.2.2.2.2.2⟩⟩⟩⟩⟩⟩)⟩,⟨by exact Kd.N_mono Zi.out (fun _ hk=>⟨hk.1.1,⟨hk.2,⟨hk.1.2.1,⟨hk.1.2.2.1,⟨hk.1.2.2.2.1,⟨hk.1.2.2.2.2.1,hk.1.2.2.2.2.2⟩⟩⟩⟩⟩⟩)⟩,⟨Zb.out⟩,⟨Zd.out⟩,⟨Zl.out⟩,⟨Zn.out⟩,⟨bB⟩⟩
       case round =>
        clear H'
        try clear c72b0
        try clear c72b1
        try clear c73b0
        try clear c73b1
        try clear WB
        try clear WC
        try clear WD
        try clear WE
        try clear WF
        try clear WG
        try clear YW
        try clear YX
        try clear YH
        try clear p438
        try clear q438
        repeat (first | clear Zo | clear Za | clear Zh | clear Zi | clear Zb | clear Zd | clear Zl | clear Zn | clear HB)
        obtain ⟨x72_3,x405000_3,x405001_3,rfl,HA,HK3,Zo,Za,Zh,Zi,Zb,Zd,Zl,Zn,HB⟩:=hrel
        cases gk with
        | zero=>exact absurd HA.out (by simp [impl_pass.l0])
        | succ k3 =>
         have H:=HA.out
         clear HA
         simp only [impl_pass.l0] at H
         by_cases c81:x72_3 < (t439.length:Int);rotate_left
         ·rw [if_neg c81] at H
          have c81b0:decide (x72_3 < (t439.length:Int)) = false:=decide_eq_false c81
          clear c81
          obtain ⟨y442,XA⟩:∃ y_:List (S29),y_ = (([(⟨t423,t424,t425⟩:S29),(⟨t431,t432,t433⟩:S29)]:List (S29))):=⟨_,rfl⟩
          replace H:(some (a0_0,0,y442,true)) = some (r1,r2,r3,r4):=by rw [XA];exact H
          have XR:=aQ XA
          clear XA
          simp only [Option.some.injEq,Prod.mk.injEq] at H
          obtain ⟨rfl,rfl,rfl,rfl⟩:=H
          have ST:=Zm.out
          have SU:=Zr.out
          have SV:=ZP.out
          have SW:=ZU.out
          have SX:=ZW.out
          have SY:=ZX.out
          obtain ⟨VQ,VR,VS,VT,VU,VV⟩:=cz3 Zb.out
          have SZ:=Ye.out
          have Ra:=ZV.out
          have Rb:=Yw.out
          have Rc:=Yx.out
          obtain ⟨VW,VX,VY,VZ,Ua,Ub⟩:=cz3 Zl.out
          have Rd:=Yg.out
          have Re:=Yf.out
          obtain ⟨Uc,Ud,Ue,Uf,Ug,Uh⟩:=cz3 Zn.out
          go_wp2_with (first | ((with_reducible refine gate_dst (N:=94) rfl ?_);refine Kd.N_lit k29 _ 29 ?hg (N':=94) ?hd (xs:=([(⟨t423,t424,t425⟩:S29),(⟨t431,t432,t433⟩:S29)]:List (S29))) (inner:=[.int .i64 t423,.int .i64 t424,.slice Zs t425.length Zt,.int .i64 t431,.int .i64 t432,.slice Zv t433.length Zw]) (ok:=(fun k_=>(P0_2_ k_ ∨ w.heap.size ≤ k_)∧some k_ ≠ (.slice Yo t439.length ZB:Value).ownBlock∧k_ ≠ Zf∧k_ ≠ Zc∧k_ ≠ Zj∧k_ ≠ Zg)) (okp:=(fun k_=>(P0_2_ k_ ∨ w.heap.size ≤ k_)∧some k_ ≠ (.slice Yo t439.length ZB:Value).ownBlock∧k_ ≠ Zf∧k_ ≠ Zc∧k_ ≠ Zj∧k_ ≠ Zg)) ?hr ?hp (fun _ hk=>hk) ((show ∀ k_,wr.heap.size ≤ k_ → (fun k_=>(P0_2_ k_ ∨ w.heap.size ≤ k_)∧some k_ ≠ (.slice Yo t439.length ZB:Value).ownBlock∧k_ ≠ Zf∧k_ ≠ Zc∧k_ ≠ Zj∧k_ ≠ Zg) k_ from fun k_ hk=>⟨(.inr (Nat.le_trans (below_size bB) hk)),Kd.fresh' (Kd.N_lt Zo.out) k_ hk,Kd.freshB Zb.out k_ hk,Kd.freshB Zd.out k_ hk,Kd.freshB Zl.out k_ hk,Kd.freshB Zn.out k_ hk⟩) _ (Nat.le_refl _)) (Below.refl _ _) (Nat.le_refl _) (by simp) ?_;(case hd=>rfl);(case hg=>rfl);(case hr=>first | (go_simp;done) | (go_simp;rfl));(case hp=>exact (Reps.c3 (show Kd.FK k29 _ _ (⟨t423,t424,t425⟩:S29) [.int .i64 t423,.int .i64 t424,.slice Zs t425.length Zt] from (k29_mkF _ _ (⟨t423,t424,t425⟩:S29) (Kd.N_reads' (Kd.N_mono (ok':=(fun k_=>(P0_2_ k_ ∨ w.heap.size ≤ k_)∧some k_ ≠ (.slice Yo t439.length ZB:Value).ownBlock∧k_ ≠ Zf∧k_ ≠ Zc∧k_ ≠ Zj∧k_ ≠ Zg)) (Zh.out) (fun k_ hk=>⟨hk.1,⟨hk.2.1,⟨hk.2.2.2.1,⟨hk.2.2.2.2.1,⟨hk.2.2.2.2.2.1,hk.2.2.2.2.2.2⟩⟩⟩⟩⟩))).2.1 (Kd.N_F (Kd.N_mono (ok':=(fun k_=>(P0_2_ k_ ∨ w.heap.size ≤ k_)∧some k_ ≠ (.slice Yo t439.length ZB:Value).ownBlock∧k_ ≠ Zf∧k_ ≠ Zc∧k_ ≠ Zj∧k_ ≠ Zg)) (Zh.out) (fun k_ hk=>⟨hk.1,⟨hk.2.1,⟨hk.2.2.2.1,⟨hk.2.2.2.2.1,⟨hk.2.2.2.2.2.1,hk.2.2.2.2.2.2⟩⟩⟩⟩⟩))))) (Reps.c3 (show Kd.FK k29 _ _ (⟨t431,t432,t433⟩:S29) [.int .i64 t431,.int .i64 t432,.slice Zv t433.length Zw] from (k29_mkF _ _ (⟨t431,t432,t433⟩:S29) (Kd.N_reads' (Kd.N_mono (ok':=(fun k_=>(P0_2_ k_ ∨ w.heap.size ≤ k_)∧some k_ ≠ (.slice Yo t439.length ZB:Value).ownBlock∧k_ ≠ Zf∧k_ ≠ Zc∧k_ ≠ Zj∧k_ ≠ Zg)) (Zi.out) (fun k_ hk=>⟨hk.1,⟨hk.2.1,⟨hk.2.2.2.1,⟨hk.2.2.2.2.1,⟨hk.2.2.2.2.2.1,hk.2.2.2.2.2.2⟩⟩⟩⟩⟩))).2.1 (Kd.N_F (Kd.N_mono (ok':=(fun k_=>(P0_2_ k_ ∨ w.heap.size ≤ k_)∧some k_ ≠ (.slice Yo t439.length ZB:Value).ownBlock∧k_ ≠ Zf∧k_ ≠ Zc∧k_ ≠ Zj∧k_ ≠ Zg)) (Zi.out) (fun k_ hk=>⟨hk.1,⟨hk.2.1,⟨hk.2.2.2.1,⟨hk.2.2.2.2.1,⟨hk.2.2.2.2.2.1,hk.2.2.2.2.2.2⟩⟩⟩⟩⟩))))) (Reps.none _ _))));intro v443 w137 ho138 hb hg_ hnew_;clear hg_ hnew_;(first | rw [← XR.out] at ho138 | (simp only [Int.reduceToNat] at ho138;rw [← XR.out] at ho138));have n0_:=aQ (Kd.N_elder' Zo.out (Kd.N_base ho138) hb);have n1_:=aQ (Kd.V_elder' Za.out (Kd.N_base ho138) hb);have n2_:=aQ (Kd.N_lower ho138 (below_size bB));have n3_:=aQ (blk_below Zb.out hb);have n4_:=aQ (blk_below Zd.out hb);have n5_:=aQ (blk_below Zl.out hb);have n6_:=aQ (blk_below Zn.out hb);have n7_:=aQ (below_step bB hb);clear Zo;clear Za;clear Zb;clear Zd;clear Zl;clear Zn;clear HB;clear Zh;clear Zi;have Zo:=n0_;have Za:=n1_;have XS:=n2_;have Zb:=n3_;have Zd:=n4_;have Zl:=n5_;have Zn:=n6_;have HB:=n7_;clear n0_ n1_ n2_ n3_ n4_ n5_ n6_ n7_;clear hb ho138;obtain ⟨Va,Vb,Vc⟩:=Kd.N_slice XS.out;subst Vc;obtain ⟨Ui,Uj,Uk,Ul,Um,Un⟩:=cz3 Zd.out))
          refine bodyPost_ret (results_ct rfl _ _ Zc 29 #[.int .i64 a0_0,.int .i64 0,.slice Va y442.length Vb] (0,0) _ rfl bP Try.underlying29 rfl (by kernel_rfl)) rfl ?_
          exact ⟨_,rfl,by exact Kd.N_mono (nFN (g:=Zc) XS.out (fun k_ hk=>hk.2.2.2.1)) (fun _ hk=>hk.1),bB⟩
         rw [if_pos c81] at H
         have c81b0:decide (x72_3 < (t439.length:Int)) = true:=decide_eq_true c81
         clear c81
         by_cases c82:0 ≤ x72_3;rotate_left
         ·rw [if_neg c82] at H
          exact absurd H (by simp)
         rw [if_pos c82] at H
         have c82b0:decide (0 ≤ x72_3) = true:=decide_eq_true c82
         clear c82
         by_cases c83:x72_3 < (t439.length:Int);rotate_left
         ·rw [if_neg c83] at H
          exact absurd H (by simp)
         rw [if_pos c83] at H
         have c83b0:decide (x72_3 < (t439.length:Int)) = true:=decide_eq_true c83
         clear c83
         by_cases c84:((rd_T44 t439 x72_3).f0) = 0
         ·rw [if_pos c84] at H
          have c84b0:(((rd_T44 t439 x72_3).f0) == 0) = true:=beq_iff_eq.mpr c84
          have c84b1:(((rd_T44 t439 x72_3).f0) != 0) = false:=bne_eq_false_iff_eq.mpr c84
          clear c84
          have H':=aQ H
          clear H
          have p445:0 ≤ (x72_3:Int):=of_decide_eq_true (by assumption)
          have q445:x72_3 < (t439.length:Int):=of_decide_eq_true (by assumption)
          obtain ⟨ZE,A445_3,c445_3,e445,Xr,Xs,Xt,Yp,ZY,ZZ⟩:=at_T44 (Kd.N_reads' Zo.out).2.2 x72_3 p445 q445
          cases e445
          obtain ⟨XT,Yy,Yz,Yh⟩:=Kd.N_get Zo.out z44 x72_3 p445 (by first | exact q445 | exact of_decide_eq_true (by assumption) | (have e_:=(Kd.N_reads' Zo.out).1;omega))
          obtain ⟨Xu,Xv,rfl,ZG,ZH⟩:=k44_openF Yz
          have ZA:=Yh 3 _ rfl
          rw [add_field _ _ 3 (by omega)] at ZA
          replace ZA:=Option.some.inj (ZA.symm.trans Yp)
          injection ZA with hva_ hvn_ hvc_
          rw [hva_] at ZH
          rw [hvc_] at ZG
          have Zp:=aQ (show Kd.V k29 29 _ w.heap.size _ _ ((rd_T44 t439 x72_3).f1.f2) from Kd.V_mk ZG ZH)
          clear hva_ hvn_ hvc_ ZH ZG
          clear Yh Yy
          have ZN:=aQ ZZ
          have Xw:=aQ ZY
          clear ZZ ZY
          replace p445:=eq_true p445
          replace q445:=eq_true q445
          go_wp2_with (first | ((with_reducible refine gate_dst (N:=10) rfl ?_);refine box1 (N:=10) (cs:=#[.int .i64 0,.int .i64 0,.int .i64 0,.slice none 0 0]) (t:=44) ?_;intro Ze hg w85 hbox hb;replace Zo:=aQ (Kd.N_below (Kd.N_elderB Zo.out Ze (Nat.le_of_eq hg.symm)) hb);replace Za:=aQ (Kd.V_below (Kd.V_elderB Za.out Ze (Nat.le_of_eq hg.symm)) hb);replace Zh:=aQ (Kd.N_below (Kd.N_elderB Zh.out Ze (Nat.le_of_eq hg.symm)) hb);replace Zi:=aQ (Kd.N_below (Kd.N_elderB Zi.out Ze (Nat.le_of_eq hg.symm)) hb);replace Zp:=aQ (Kd.V_below (Kd.V_elderB Zp.out Ze (Nat.le_of_eq hg.symm)) hb);replace ZN:=aQ (Kd.C_below (nC ZN.out) hb);have Zk:=aQ (hbox);have YJ:=aQ (gB:w.heap.size ≤ Ze);have XU:=YJ;replace HB:=aQ (below_step bB hb);have ZI:=aQ ((by rw [hg];exact Nat.ne_of_lt (blk_lt Zb.out):Zf ≠ Ze));have Yi:=aQ ZI.out.symm;replace Zb:=aQ (blk_below Zb.out hb);have ZJ:=aQ ((by rw [hg];exact Nat.ne_of_lt (blk_lt Zd.out):Zc ≠ Ze));have Yj:=aQ ZJ.out.symm;replace Zd:=aQ (blk_below Zd.out hb);have ZK:=aQ ((by rw [hg];exact Nat.ne_of_lt (blk_lt Zl.out):Zj ≠ Ze));have Yk:=aQ ZK.out.symm;replace Zl:=aQ (blk_below Zl.out hb);have ZL:=aQ ((by rw [hg];exact Nat.ne_of_lt (blk_lt Zn.out):Zg ≠ Ze));have Yl:=aQ ZL.out.symm;replace Zn:=aQ (blk_below Zn.out hb);clear hb hbox hg;have Qw:=Yi.out;have Qx:=ZI.out;have Qy:=Yj.out;have Qz:=ZJ.out;have QA:=Yk.out;have QB:=ZK.out;have QC:=Yl.out;have QD:=ZL.out;have St:w85.cell? ⟨Ze,0,none⟩ = some (.int .i64 0):=(blk_cell Zk.out 0).trans rfl;have Su:w85.cell? ⟨Ze,1,none⟩ = some (.int .i64 0):=(blk_cell Zk.out 1).trans rfl;have Sv:w85.cell? ⟨Ze,2,none⟩ = some (.int .i64 0):=(blk_cell Zk.out 2).trans rfl;have Sw:w85.cell? ⟨Ze,3,none⟩ = some (.slice none 0 0):=(blk_cell Zk.out 3).trans rfl;have Sx:=blk_frozen Zk.out 0;have Sy:=blk_frozen Zk.out 1;have Sz:=blk_frozen Zk.out 2;have SA:=blk_frozen Zk.out 3))
          go_roundg k3
          case measure=>have:=HJ36.out;have:=HJ47.out;have:=HK3.out;omega
          case rel=>exact ⟨(wrap64 (x72_3 + 1)),(x405000_3),(x405001_3),rfl,H',⟨by have:=HJ36.out;have:=HJ47.out;have:=HK3.out;omega⟩,⟨by exact Kd.N_mono (nFN (g:=Ze) Zo.out (fun k_ hk=>hk.2)) (fun _ hk=>⟨hk.1.1,⟨hk.1.2.1,⟨hk.1.2.2.1,⟨hk.1.2.2.2.1,⟨hk.1.2.2.2.2.1,⟨hk.1.2.2.2.2.2.1,hk.1.2.2.2.2.2.2⟩⟩⟩⟩⟩⟩)⟩,⟨by exact Kd.V_mono (nFV (g:=Ze) Za.out (fun k_ hk=>hk.2)) (fun _ hk=>⟨hk.1.1,⟨hk.1.2.1,⟨hk.1.2.2.1,⟨hk.1.2.2.2.1,⟨hk.1.2.2.2.2.1,⟨hk.1.2.2.2.2.2.1,⟨hk.1.2.2.2.2.2.2.1,hk.1.2.2.2.2.2.2.2⟩⟩⟩⟩⟩⟩⟩)⟩,⟨by exact Kd.N_mono (nFN (g:=Ze) Zh.out (fun k_ hk=>hk.2)) (fun _ hk=>⟨hk.1.1,⟨hk.1.2.1,⟨hk.1.2.2.1,⟨hk.1.2.2.2.1,⟨hk.1.2.2.2.2.1,⟨hk.1.2.2.2.2.2.1,hk.1.2.2.2.2.2.2⟩⟩⟩⟩⟩⟩)⟩,⟨by exact Kd.N_mono (nFN (g:=Ze) Zi.out (fun k_ hk=>hk.2)) (fun _ hk=>⟨hk.1.1,⟨hk.1.2.1,⟨hk.1.2.2.1,⟨hk.1.2.2.2.1,⟨hk.1.2.2.2.2.1,⟨hk.1.2.2.2.2.2.1,hk.1.2.2.2.2.2.2⟩⟩⟩⟩⟩⟩)⟩,⟨bF⟩,⟨bF⟩,⟨bF⟩,⟨bF⟩,⟨bB⟩⟩
         rw [if_neg c84] at H
         have c84b0:(((rd_T44 t439 x72_3).f0) == 0) = false:=beq_eq_false_iff_ne.mpr c84
         have c84b1:(((rd_T44 t439 x72_3).f0) != 0) = true:=bne_iff_ne.mpr c84
         by_cases c91:1 < (l0_2.length:Int);rotate_left
         ·rw [if_neg c91] at H
          exact absurd H (by simp)
         rw [if_pos c91] at H
         have c91b0:decide (1 < (l0_2.length:Int)) = true:=decide_eq_true c91
         have c91b1:decide (1 < l0_2.length) = true:=decide_eq_true (by omega)
         clear c91
         obtain ⟨t448,A92,H⟩:=bQ H
         (try dsimp only at H)
         obtain ⟨t451,A93,H⟩:=bQ H
         (try dsimp only at H)
         by_cases c94:t451 = true
         ·subst c94
          have H1:(some (0,0,([]:List (S29)),false)) = some (r1,r2,r3,r4):=by rw [if_pos rfl] at H;exact H
          clear H
          have H:=H1
          clear H1
          simp only [Option.some.injEq,Prod.mk.injEq] at H
          obtain ⟨rfl,rfl,rfl,rfl⟩:=H
          have p445:0 ≤ (x72_3:Int):=of_decide_eq_true (by assumption)
          have q445:x72_3 < (t439.length:Int):=of_decide_eq_true (by assumption)
          obtain ⟨ZE,A445_3,c445_3,e445,Xr,Xs,Xt,Yp,ZY,ZZ⟩:=at_T44 (Kd.N_reads' Zo.out).2.2 x72_3 p445 q445
          cases e445
          obtain ⟨XT,Yy,Yz,Yh⟩:=Kd.N_get Zo.out z44 x72_3 p445 (by first | exact q445 | exact of_decide_eq_true (by assumption) | (have e_:=(Kd.N_reads' Zo.out).1;omega))
          obtain ⟨Xu,Xv,rfl,ZG,ZH⟩:=k44_openF Yz
          have ZA:=Yh 3 _ rfl
          rw [add_field _ _ 3 (by omega)] at ZA
          replace ZA:=Option.some.inj (ZA.symm.trans Yp)
          injection ZA with hva_ hvn_ hvc_
          rw [hva_] at ZH
          rw [hvc_] at ZG
          have Zp:=aQ (show Kd.V k29 29 _ w.heap.size _ _ ((rd_T44 t439 x72_3).f1.f2) from Kd.V_mk ZG ZH)
          clear hva_ hvn_ hvc_ ZH ZG
          clear Yh Yy
          have ZN:=aQ ZZ
          have Xw:=aQ ZY
          clear ZZ ZY
          replace p445:=eq_true p445
          replace q445:=eq_true q445
          go_wp2_with (first | ((with_reducible refine gate_dst (N:=10) rfl ?_);refine box1 (N:=10) (cs:=#[.int .i64 0,.int .i64 0,.int .i64 0,.slice none 0 0]) (t:=44) ?_;intro Ze hg w95 hbox hb;replace Zo:=aQ (Kd.N_below (Kd.N_elderB Zo.out Ze (Nat.le_of_eq hg.symm)) hb);replace Za:=aQ (Kd.V_below (Kd.V_elderB Za.out Ze (Nat.le_of_eq hg.symm)) hb);replace Zh:=aQ (Kd.N_below (Kd.N_elderB Zh.out Ze (Nat.le_of_eq hg.symm)) hb);replace Zi:=aQ (Kd.N_below (Kd.N_elderB Zi.out Ze (Nat.le_of_eq hg.symm)) hb);replace Zp:=aQ (Kd.V_below (Kd.V_elderB Zp.out Ze (Nat.le_of_eq hg.symm)) hb);replace ZN:=aQ (Kd.C_below (nC ZN.out) hb);have Zk:=aQ (hbox);have YJ:=aQ (gB:w.heap.size ≤ Ze);have XU:=YJ;replace HB:=aQ (below_step bB hb);have ZI:=aQ ((by rw [hg];exact Nat.ne_of_lt (blk_lt Zb.out):Zf ≠ Ze));have Yi:=aQ ZI.out.symm;replace Zb:=aQ (blk_below Zb.out hb);have ZJ:=aQ ((by rw [hg];exact Nat.ne_of_lt (blk_lt Zd.out):Zc ≠ Ze));have Yj:=aQ ZJ.out.symm;replace Zd:=aQ (blk_below Zd.out hb);have ZK:=aQ ((by rw [hg];exact Nat.ne_of_lt (blk_lt Zl.out):Zj ≠ Ze));have Yk:=aQ ZK.out.symm;replace Zl:=aQ (blk_below Zl.out hb);have ZL:=aQ ((by rw [hg];exact Nat.ne_of_lt (blk_lt Zn.out):Zg ≠ Ze));have Yl:=aQ ZL.out.symm;replace Zn:=aQ (blk_below Zn.out hb);clear hb hbox hg;have QE:=Yi.out;have QF:=ZI.out;have QG:=Yj.out;have QH:=ZJ.out;have QI:=Yk.out;have QJ:=ZK.out;have QK:=Yl.out;have QL:=ZL.out;have Uo:w95.cell? ⟨Ze,0,none⟩ = some (.int .i64 0):=(blk_cell Zk.out 0).trans rfl;have Up:w95.cell? ⟨Ze,1,none⟩ = some (.int .i64 0):=(blk_cell Zk.out 1).trans rfl;have Uq:w95.cell? ⟨Ze,2,none⟩ = some (.int .i64 0):=(blk_cell Zk.out 2).trans rfl;have Ur:w95.cell? ⟨Ze,3,none⟩ = some (.slice none 0 0):=(blk_cell Zk.out 3).trans rfl;have Us:=blk_frozen Zk.out 0;have Ut:=blk_frozen Zk.out 1;have Uu:=blk_frozen Zk.out 2;have Uv:=blk_frozen Zk.out 3) | ((with_reducible refine gate_store (t:=44) (p:=10) rfl ?_);refine store_event (t:=44) (p:=10) (v:=?vo_w101) (w1:=((((w95.setCell ⟨Ze,0,none⟩ (.int .i64 ((rd_T44 t439 x72_3).f0))).setCell ⟨Ze,1,none⟩ (.int .i64 ((rd_T44 t439 x72_3).f1.f0))).setCell ⟨Ze,2,none⟩ (.int .i64 ((rd_T44 t439 x72_3).f1.f1))).setCell ⟨Ze,3,none⟩ (.slice A445_3 ((rd_T44 t439 x72_3).f1.f2).length c445_3))) ?hg ?ho ?hn ?hr ?_;(case ho=>rfl);(case hg=>rfl);(case hn=>rfl);(case hr=>first | (go_simp;done) | (go_simp;rfl));intro w101 hw;have n0_:Aside0 (Kd.N k44 44 w101 w.heap.size (fun k_=>(P0_2_ k_ ∨ w.heap.size ≤ k_)∧some k_ ≠ (.slice Zs t425.length Zt:Value).ownBlock∧some k_ ≠ (.slice Zv t433.length Zw:Value).ownBlock∧k_ ≠ Zf∧k_ ≠ Zc∧k_ ≠ Zj∧k_ ≠ Zg∧k_ ≠ Ze) (.slice (some ZE) t439.length ZB) t439):=⟨(by rw [hw];exact (by exact Kd.N_mono (nFN (g:=Ze) Zo.out (fun k_ hk=>hk.2)) (fun _ hk=>⟨hk.1.1,⟨hk.1.2.1,⟨hk.1.2.2.1,⟨hk.1.2.2.2.1,⟨hk.1.2.2.2.2.1,⟨hk.1.2.2.2.2.2.1,⟨hk.1.2.2.2.2.2.2,hk.2⟩⟩⟩⟩⟩⟩⟩)))⟩;have n1_:Aside0 (Kd.V k29 29 w101 w.heap.size (fun k_=>(P0_2_ k_ ∨ w.heap.size ≤ k_)∧some k_ ≠ (.slice (some ZE) t439.length ZB:Value).ownBlock∧some k_ ≠ (.slice Zs t425.length Zt:Value).ownBlock∧some k_ ≠ (.slice Zv t433.length Zw:Value).ownBlock∧k_ ≠ Zf∧k_ ≠ Zc∧k_ ≠ Zj∧k_ ≠ Zg∧k_ ≠ Ze) (.slice (some ZO) l0_2.length c0_2) l0_2):=⟨(by rw [hw];exact (by exact Kd.V_mono (nFV (g:=Ze) Za.out (fun k_ hk=>hk.2)) (fun _ hk=>⟨hk.1.1,⟨hk.1.2.1,⟨hk.1.2.2.1,⟨hk.1.2.2.2.1,⟨hk.1.2.2.2.2.1,⟨hk.1.2.2.2.2.2.1,⟨hk.1.2.2.2.2.2.2.1,⟨hk.1.2.2.2.2.2.2.2,hk.2⟩⟩⟩⟩⟩⟩⟩⟩)))⟩;have n2_:Aside0 (Kd.N k29 29 w101 w.heap.size (fun k_=>(P0_2_ k_ ∨ w.heap.size ≤ k_)∧some k_ ≠ (.slice (some ZE) t439.length ZB:Value).ownBlock∧some k_ ≠ (.slice Zv t433.length Zw:Value).ownBlock∧k_ ≠ Zf∧k_ ≠ Zc∧k_ ≠ Zj∧k_ ≠ Zg∧k_ ≠ Ze) (.slice Zs t425.length Zt) t425):=⟨(by rw [hw];exact (by exact Kd.N_mono (nFN (g:=Ze) Zh.out (fun k_ hk=>hk.2)) (fun _ hk=>⟨hk.1.1,⟨hk.1.2.1,⟨hk.1.2.2.1,⟨hk.1.2.2.2.1,⟨hk.1.2.2.2.2.1,⟨hk.1.2.2.2.2.2.1,⟨hk.1.2.2.2.2.2.2,hk.2⟩⟩⟩⟩⟩⟩⟩)))⟩;have n3_:Aside0 (Kd.N k29 29 w101 w.heap.size (fun k_=>(P0_2_ k_ ∨ w.heap.size ≤ k_)∧some k_ ≠ (.slice (some ZE) t439.length ZB:Value).ownBlock∧some k_ ≠ (.slice Zs t425.length Zt:Value).ownBlock∧k_ ≠ Zf∧k_ ≠ Zc∧k_ ≠ Zj∧k_ ≠ Zg∧k_ ≠ Ze) (.slice Zv t433.length Zw) t433):=⟨(by rw [hw];exact (by exact Kd.N_mono (nFN (g:=Ze) Zi.out (fun k_ hk=>hk.2)) (fun _ hk=>⟨hk.1.1,⟨hk.1.2.1,⟨hk.1.2.2.1,⟨hk.1.2.2.2.1,⟨hk.1.2.2.2.2.1,⟨hk.1.2.2.2.2.2.1,⟨hk.1.2.2.2.2.2.2,hk.2⟩⟩⟩⟩⟩⟩⟩)))⟩;have n4_:Aside0 (Kd.V k29 29 w101 w.heap.size (fun k_=>(P0_2_ k_ ∨ w.heap.size ≤ k_)∧some k_ ≠ (.slice (some ZE) t439.length ZB:Value).ownBlock∧some k_ ≠ (.slice Zs t425.length Zt:Value).ownBlock∧some k_ ≠ (.slice Zv t433.length Zw:Value).ownBlock∧k_ ≠ Zf∧k_ ≠ Zc∧k_ ≠ Zj∧k_ ≠ Zg∧k_ ≠ Ze) (.slice A445_3 ((rd_T44 t439 x72_3).f1.f2).length c445_3) ((rd_T44 t439 x72_3).f1.f2)):=⟨(by rw [hw];exact (by exact Kd.V_mono (nFV (g:=Ze) Zp.out (fun k_ hk=>hk.2)) (fun _ hk=>⟨hk.1.1.1,⟨hk.1.2,⟨hk.1.1.2.1,⟨hk.1.1.2.2.1,⟨hk.1.1.2.2.2.1,⟨hk.1.1.2.2.2.2.1,⟨hk.1.1.2.2.2.2.2.1,⟨hk.1.1.2.2.2.2.2.2,hk.2⟩⟩⟩⟩⟩⟩⟩⟩)))⟩;have n5_:Aside0 (w101.heap[Zf]? = some (.cells #[.int .i64 a0_0,.int .i64 a0_1,.slice (some ZO) l0_2.length c0_2] 29 (0,0))):=⟨(by rw [hw];exact bF)⟩;have n6_:Aside0 (w101.heap[Zc]? = some (.cells #[.int .i64 x405000_3,.int .i64 x405001_3,.slice none 0 0] 29 (0,0))):=⟨(by rw [hw];exact bF)⟩;have n7_:Aside0 (w101.heap[Zj]? = some (.cells #[.int .i64 t423,.int .i64 t424,.slice Zs t425.length Zt] 29 (0,0))):=⟨(by rw [hw];exact bF)⟩;have n8_:Aside0 (w101.heap[Zg]? = some (.cells #[.int .i64 t431,.int .i64 t432,.slice Zv t433.length Zw] 29 (0,0))):=⟨(by rw [hw];exact bF)⟩;have n9_:Aside0 (w101.heap[Ze]? = some (.cells #[.int .i64 ((rd_T44 t439 x72_3).f0),.int .i64 ((rd_T44 t439 x72_3).f1.f0),.int .i64 ((rd_T44 t439 x72_3).f1.f1),.slice A445_3 ((rd_T44 t439 x72_3).f1.f2).length c445_3] 44 (0,0))):=⟨(by rw [hw];exact bP)⟩;have n10_:Aside0 (Below w.heap.size w w101):=⟨(by rw [hw];exact bB)⟩;clear hw;clear Zo;clear Za;clear Zh;clear Zi;clear Zp;clear Zb;clear Zd;clear Zl;clear Zn;clear Zk;clear HB;have Zo:=n0_;have Za:=n1_;have Zh:=n2_;have Zi:=n3_;have Zp:=n4_;have Zb:=n5_;have Zd:=n6_;have Zl:=n7_;have Zn:=n8_;have Zk:=n9_;have HB:=n10_;clear n0_ n1_ n2_ n3_ n4_ n5_ n6_ n7_ n8_ n9_ n10_;have Uw:w101.cell? ⟨Ze,0,none⟩ = some (.int .i64 ((rd_T44 t439 x72_3).f0)):=(blk_cell Zk.out 0).trans rfl;have Ux:w101.cell? ⟨Ze,1,none⟩ = some (.int .i64 ((rd_T44 t439 x72_3).f1.f0)):=(blk_cell Zk.out 1).trans rfl;have Uy:w101.cell? ⟨Ze,2,none⟩ = some (.int .i64 ((rd_T44 t439 x72_3).f1.f1)):=(blk_cell Zk.out 2).trans rfl;have Uz:w101.cell? ⟨Ze,3,none⟩ = some (.slice A445_3 ((rd_T44 t439 x72_3).f1.f2).length c445_3):=(blk_cell Zk.out 3).trans rfl;have UA:=blk_frozen Zk.out 0;have UB:=blk_frozen Zk.out 1;have UC:=blk_frozen Zk.out 2;have UD:=blk_frozen Zk.out 3;have Rf:=Zm.out;have Rg:=Zr.out;have Rh:=ZP.out;have Ri:=ZU.out;have Rj:=ZW.out;have Rk:=ZX.out;obtain ⟨UE,UF,UG,UH,UI,UJ⟩:=cz3 Zb.out;have p447:0 ≤ (1:Int):=(by omega);have q447:1 < (l0_2.length:Int):=of_decide_eq_true (by assumption);obtain ⟨XB,A447_2,c447_2,e447,Yq,Yr,Yb,Ys,Yt⟩:=at_T29 (Kd.V_reads' Za.out).2.2 1 p447 q447;obtain rfl:ZO = XB:=(by injection e447);obtain ⟨Vd,Xd,Xe,YA⟩:=Kd.V_get Za.out z29 1 p447 (by first | exact q447 | exact of_decide_eq_true (by assumption) | (have e_:=(Kd.V_reads' Za.out).1;omega));obtain ⟨WH,WI,rfl,Yc,Yd⟩:=k29_openF Xe;have ZR:=YA 2 _ rfl;rw [add_field _ _ 2 (by omega)] at ZR;replace ZR:=Option.some.inj (ZR.symm.trans Yb);injection ZR with hva_ hvn_ hvc_;rw [hva_] at Yd;rw [hvc_] at Yc;have Zy:=aQ (show Kd.V k29 29 _ w.heap.size _ _ ((rd_T29 l0_2 1).f2) from Kd.V_mk Yc Yd);clear hva_ hvn_ hvc_ Yd Yc;clear YA Xd;(try simp only [show (1:Int).toNat = 1 from rfl,Nat.reduceMul,Nat.reduceEqDiff,Go.Addr.add,↓reduceIte] at Yq);(try simp only [show (1:Int).toNat = 1 from rfl,Nat.reduceMul,Nat.reduceEqDiff,Go.Addr.add,↓reduceIte] at Yr);(try simp only [show (1:Int).toNat = 1 from rfl,Nat.reduceMul,Nat.reduceEqDiff,Go.Addr.add,↓reduceIte] at Yb);have qi447:(1 < l0_2.length) = True:=eq_true (by omega);(try rw [show ((1:Int)).toNat = 1 from rfl,show 1 * 3 = 3 from rfl] at Yq Yr Yb);have ZC:=aQ Yt;have WJ:=aQ Ys;clear Yt Ys;replace p447:=eq_true p447;replace q447:=eq_true q447) | (go_at_call 47;(with_reducible refine (impl_ticksOf.calls k3 ((rd_T29 l0_2 1).f0) ((rd_T29 l0_2 1).f1) (fun k_=>((P0_2_ k_ ∨ w.heap.size ≤ k_)∧(some k_ ≠ (.slice (some ZE) t439.length ZB:Value).ownBlock∧(some k_ ≠ (.slice Zs t425.length Zt:Value).ownBlock∧(some k_ ≠ (.slice Zv t433.length Zw:Value).ownBlock∧(k_ ≠ Zf∧(k_ ≠ Zc∧(k_ ≠ Zj∧(k_ ≠ Zg∧k_ ≠ Ze))))))))) _ _ ((rd_T29 l0_2 1).f2) t448 _ ?Zz A92.out).mono ?_);(case Zz=>exact Zy.out);rintro e w107 ⟨v449,rfl,ho0,hb⟩;have n0_:=aQ (Kd.N_elder' Zo.out (Kd.N_base ho0) hb);have n1_:=aQ (Kd.V_elder' Za.out (Kd.N_base ho0) hb);have n2_:=aQ (Kd.N_elder' Zh.out (Kd.N_base ho0) hb);have n3_:=aQ (Kd.N_elder' Zi.out (Kd.N_base ho0) hb);have n4_:=aQ (Kd.V_elder' Zp.out (Kd.N_base ho0) hb);have n5_:=aQ (Kd.V_elder' Zy.out (Kd.N_base ho0) hb);have n6_:=aQ (Kd.N_lower (Kd.N_mono (ok':=fun k_=>(P0_2_ k_ ∨ w.heap.size ≤ k_)∧some k_ ≠ (.slice (some ZE) t439.length ZB:Value).ownBlock∧some k_ ≠ (.slice Zs t425.length Zt:Value).ownBlock∧some k_ ≠ (.slice Zv t433.length Zw:Value).ownBlock∧k_ ≠ Zf∧k_ ≠ Zc∧k_ ≠ Zj∧k_ ≠ Zg∧k_ ≠ Ze) ho0 (fun k_ hk_=>⟨Or.elim hk_ (fun hs_=>hs_.1) (fun hn_=>(.inr (Nat.le_trans (below_size bB) hn_))),Or.elim hk_ (fun hs_=>hs_.2.1) (fun hn_=>(Kd.fresh' (Kd.N_lt Zo.out) k_ hn_)),Or.elim hk_ (fun hs_=>hs_.2.2.1) (fun hn_=>(Kd.fresh' (Kd.N_lt Zh.out) k_ hn_)),Or.elim hk_ (fun hs_=>hs_.2.2.2.1) (fun hn_=>(Kd.fresh' (Kd.N_lt Zi.out) k_ hn_)),Or.elim hk_ (fun hs_=>hs_.2.2.2.2.1) (fun hn_=>(Kd.freshB Zb.out k_ hn_)),Or.elim hk_ (fun hs_=>hs_.2.2.2.2.2.1) (fun hn_=>(Kd.freshB Zd.out k_ hn_)),Or.elim hk_ (fun hs_=>hs_.2.2.2.2.2.2.1) (fun hn_=>(Kd.freshB Zl.out k_ hn_)),Or.elim hk_ (fun hs_=>hs_.2.2.2.2.2.2.2.1) (fun hn_=>(Kd.freshB Zn.out k_ hn_)),Or.elim hk_ (fun hs_=>hs_.2.2.2.2.2.2.2.2) (fun hn_=>(Kd.freshB Zk.out k_ hn_))⟩)) (below_size bB));have n7_:=aQ (blk_below Zb.out hb);have n8_:=aQ (blk_below Zd.out hb);have n9_:=aQ (blk_below Zl.out hb);have n10_:=aQ (blk_below Zn.out hb);have n12_:=aQ (blk_below Zk.out hb);have n13_:=aQ (Kd.C_below (nC ZC.out) hb);have n14_:=aQ (below_step bB hb);clear Zo;clear Za;clear Zh;clear Zi;clear Zp;clear Zy;clear Zb;clear Zd;clear Zl;clear Zn;(try clear ZN);clear Zk;clear ZC;clear HB;have Zo:=n0_;have Za:=n1_;have Zh:=n2_;have Zi:=n3_;have Zp:=n4_;have Zy:=n5_;have ZS:=n6_;have Zb:=n7_;have Zd:=n8_;have Zl:=n9_;have Zn:=n10_;have Zk:=n12_;have ZC:=n13_;have HB:=n14_;clear n0_ n1_ n2_ n3_ n4_ n5_ n6_ n7_ n8_ n9_ n10_ n12_ n13_ n14_;(try clear hb);(try clear ho0);obtain ⟨QM,QN,Ve⟩:=Kd.N_slice ZS.out;subst Ve) | (go_at_call 63;(with_reducible refine (impl_partner.calls Ze ((rd_T44 t439 x72_3).f1.f0) ((rd_T44 t439 x72_3).f1.f1) (.slice A445_3 ((rd_T44 t439 x72_3).f1.f2).length c445_3) _ _ t448 ((rd_T44 t439 x72_3).f0) true _ ?XC ?Zz ?Ya A93.out).mono ?_);(case XC=>exact Zk.out);(case Zz=>exact (Kd.N_reads' ZS.out).2.2);(case Ya=>exact (Kd.N_reads' ZS.out).2.1);rintro e w109 ⟨rfl,hb⟩;have n0_:=aQ (Kd.N_below Zo.out hb);have n1_:=aQ (Kd.V_below Za.out hb);have n2_:=aQ (Kd.N_below Zh.out hb);have n3_:=aQ (Kd.N_below Zi.out hb);have n4_:=aQ (Kd.V_below Zp.out hb);have n5_:=aQ (Kd.V_below Zy.out hb);have n6_:=aQ (Kd.N_below ZS.out hb);have n7_:=aQ (blk_below Zb.out hb);have n8_:=aQ (blk_below Zd.out hb);have n9_:=aQ (blk_below Zl.out hb);have n10_:=aQ (blk_below Zn.out hb);have n12_:=aQ (blk_below Zk.out hb);have n13_:=aQ (Kd.C_below (nC ZC.out) hb);have n14_:=aQ (below_step bB hb);clear Zo;clear Za;clear Zh;clear Zi;clear Zp;clear Zy;clear ZS;clear Zb;clear Zd;clear Zl;clear Zn;clear Zk;clear ZC;clear HB;have Zo:=n0_;have Za:=n1_;have Zh:=n2_;have Zi:=n3_;have Zp:=n4_;have Zy:=n5_;have ZS:=n6_;have Zb:=n7_;have Zd:=n8_;have Zl:=n9_;have Zn:=n10_;have Zk:=n12_;have ZC:=n13_;have HB:=n14_;clear n0_ n1_ n2_ n3_ n4_ n5_ n6_ n7_ n8_ n9_ n10_ n12_ n13_ n14_;(try clear hb);have Rl:=ZV.out;have Rm:=Ye.out;have Rn:=Yf.out;have Ro:=Yg.out;obtain ⟨UK,UL,UM,UN,UO,UP⟩:=cz3 Zd.out))
          refine bodyPost_ret (results_ct rfl _ _ Zc 29 #[.int .i64 0,.int .i64 0,.slice none 0 0] (0,0) _ rfl bP Try.underlying29 rfl (by kernel_rfl)) rfl ?_
          exact ⟨_,rfl,by first | exact Kd.R_nil _ _ _ _ _ | exact Kd.N_nil _ _ _ _ _ | exact Kd.V_nil _ _ _ _ _ | exact Kd.Q_nil _ _ _ _ _ | exact Kd.S_nil _ _ _ _ _,bB⟩
         ·replace c94:=Bool.eq_false_iff.mpr c94
          subst c94
          have H1:(impl_pass.l0 k3 t439 (t439.length:Int) (wrap64 (x72_3 + 1)) a0_0 a0_1 l0_2 t423 t424 t425 t431 t432 t433) = some (r1,r2,r3,r4):=by rw [if_neg (show ¬ (false = true) by decide)] at H;exact H
          clear H
          have H:=H1
          clear H1
          have H':=aQ H
          clear H
          have p445:0 ≤ (x72_3:Int):=of_decide_eq_true (by assumption)
          have q445:x72_3 < (t439.length:Int):=of_decide_eq_true (by assumption)
          obtain ⟨ZE,A445_3,c445_3,e445,Xr,Xs,Xt,Yp,ZY,ZZ⟩:=at_T44 (Kd.N_reads' Zo.out).2.2 x72_3 p445 q445
          cases e445
          obtain ⟨XT,Yy,Yz,Yh⟩:=Kd.N_get Zo.out z44 x72_3 p445 (by first | exact q445 | exact of_decide_eq_true (by assumption) | (have e_:=(Kd.N_reads' Zo.out).1;omega))
          obtain ⟨Xu,Xv,rfl,ZG,ZH⟩:=k44_openF Yz
          have ZA:=Yh 3 _ rfl
          rw [add_field _ _ 3 (by omega)] at ZA
          replace ZA:=Option.some.inj (ZA.symm.trans Yp)
          injection ZA with hva_ hvn_ hvc_
          rw [hva_] at ZH
          rw [hvc_] at ZG
          have Zp:=aQ (show Kd.V k29 29 _ w.heap.size _ _ ((rd_T44 t439 x72_3).f1.f2) from Kd.V_mk ZG ZH)
          clear hva_ hvn_ hvc_ ZH ZG
          clear Yh Yy
          have ZN:=aQ ZZ
          have Xw:=aQ ZY
          clear ZZ ZY
          replace p445:=eq_true p445
          replace q445:=eq_true q445
          go_wp2_with (first | ((with_reducible refine gate_dst (N:=10) rfl ?_);refine box1 (N:=10) (cs:=#[.int .i64 0,.int .i64 0,.int .i64 0,.slice none 0 0]) (t:=44) ?_;intro Ze hg w113 hbox hb;replace Zo:=aQ (Kd.N_below (Kd.N_elderB Zo.out Ze (Nat.le_of_eq hg.symm)) hb);replace Za:=aQ (Kd.V_below (Kd.V_elderB Za.out Ze (Nat.le_of_eq hg.symm)) hb);replace Zh:=aQ (Kd.N_below (Kd.N_elderB Zh.out Ze (Nat.le_of_eq hg.symm)) hb);replace Zi:=aQ (Kd.N_below (Kd.N_elderB Zi.out Ze (Nat.le_of_eq hg.symm)) hb);replace Zp:=aQ (Kd.V_below (Kd.V_elderB Zp.out Ze (Nat.le_of_eq hg.symm)) hb);replace ZN:=aQ (Kd.C_below (nC ZN.out) hb);have Zk:=aQ (hbox);have YJ:=aQ (gB:w.heap.size ≤ Ze);have XU:=YJ;replace HB:=aQ (below_step bB hb);have ZI:=aQ ((by rw [hg];exact Nat.ne_of_lt (blk_lt Zb.out):Zf ≠ Ze));have Yi:=aQ ZI.out.symm;replace Zb:=aQ (blk_below Zb.out hb);have ZJ:=aQ ((by rw [hg];exact Nat.ne_of_lt (blk_lt Zd.out):Zc ≠ Ze));have Yj:=aQ ZJ.out.symm;replace Zd:=aQ (blk_below Zd.out hb);have ZK:=aQ ((by rw [hg];exact Nat.ne_of_lt (blk_lt Zl.out):Zj ≠ Ze));have Yk:=aQ ZK.out.symm;replace Zl:=aQ (blk_below Zl.out hb);have ZL:=aQ ((by rw [hg];exact Nat.ne_of_lt (blk_lt Zn.out):Zg ≠ Ze));have Yl:=aQ ZL.out.symm;replace Zn:=aQ (blk_below Zn.out hb);clear hb hbox hg;have Rp:=Yi.out;have Rq:=ZI.out;have Rr:=Yj.out;have Rs:=ZJ.out;have Rt:=Yk.out;have Ru:=ZK.out;have Rv:=Yl.out;have Rw:=ZL.out;have UQ:w113.cell? ⟨Ze,0,none⟩ = some (.int .i64 0):=(blk_cell Zk.out 0).trans rfl;have UR:w113.cell? ⟨Ze,1,none⟩ = some (.int .i64 0):=(blk_cell Zk.out 1).trans rfl;have US:w113.cell? ⟨Ze,2,none⟩ = some (.int .i64 0):=(blk_cell Zk.out 2).trans rfl;have UT:w113.cell? ⟨Ze,3,none⟩ = some (.slice none 0 0):=(blk_cell Zk.out 3).trans rfl;have UU:=blk_frozen Zk.out 0;have UV:=blk_frozen Zk.out 1;have UW:=blk_frozen Zk.out 2;have UX:=blk_frozen Zk.out 3) | ((with_reducible refine gate_store (t:=44) (p:=10) rfl ?_);refine store_event (t:=44) (p:=10) (v:=?vo_w119) (w1:=((((w113.setCell ⟨Ze,0,none⟩ (.int .i64 ((rd_T44 t439 x72_3).f0))).setCell ⟨Ze,1,none⟩ (.int .i64 ((rd_T44 t439 x72_3).f1.f0))).setCell ⟨Ze,2,none⟩ (.int .i64 ((rd_T44 t439 x72_3).f1.f1))).setCell ⟨Ze,3,none⟩ (.slice A445_3 ((rd_T44 t439 x72_3).f1.f2).length c445_3))) ?hg ?ho ?hn ?hr ?_;(case ho=>rfl);(case hg=>rfl);(case hn=>rfl);(case hr=>first | (go_simp;done) | (go_simp;rfl));intro w119 hw;have n0_:Aside0 (Kd.N k44 44 w119 w.heap.size (fun k_=>(P0_2_ k_ ∨ w.heap.size ≤ k_)∧some k_ ≠ (.slice Zs t425.length Zt:Value).ownBlock∧some k_ ≠ (.slice Zv t433.length Zw:Value).ownBlock∧k_ ≠ Zf∧k_ ≠ Zc∧k_ ≠ Zj∧k_ ≠ Zg∧k_ ≠ Ze) (.slice (some ZE) t439.length ZB) t439):=⟨(by rw [hw];exact (by exact Kd.N_mono (nFN (g:=Ze) Zo.out (fun k_ hk=>hk.2)) (fun _ hk=>⟨hk.1.1,⟨hk.1.2.1,⟨hk.1.2.2.1,⟨hk.1.2.2.2.1,⟨hk.1.2.2.2.2.1,⟨hk.1.2.2.2.2.2.1,⟨hk.1.2.2.2.2.2.2,hk.2⟩⟩⟩⟩⟩⟩⟩)))⟩;have n1_:Aside0 (Kd.V k29 29 w119 w.heap.size (fun k_=>(P0_2_ k_ ∨ w.heap.size ≤ k_)∧some k_ ≠ (.slice (some ZE) t439.length ZB:Value).ownBlock∧some k_ ≠ (.slice Zs t425.length Zt:Value).ownBlock∧some k_ ≠ (.slice Zv t433.length Zw:Value).ownBlock∧k_ ≠ Zf∧k_ ≠ Zc∧k_ ≠ Zj∧k_ ≠ Zg∧k_ ≠ Ze) (.slice (some ZO) l0_2.length c0_2) l0_2):=⟨(by rw [hw];exact (by exact Kd.V_mono (nFV (g:=Ze) Za.out (fun k_ hk=>hk.2)) (fun _ hk=>⟨hk.1.1,⟨hk.1.2.1,⟨hk.1.2.2.1,⟨hk.1.2.2.2.1,⟨hk.1.2.2.2.2.1,⟨hk.1.2.2.2.2.2.1,⟨hk.1.2.2.2.2.2.2.1,⟨hk.1.2.2.2.2.2.2.2,hk.2⟩⟩⟩⟩⟩⟩⟩⟩)))⟩;have n2_:Aside0 (Kd.N k29 29 w119 w.heap.size (fun k_=>(P0_2_ k_ ∨ w.heap.size ≤ k_)∧some k_ ≠ (.slice (some ZE) t439.length ZB:Value).ownBlock∧some k_ ≠ (.slice Zv t433.length Zw:Value).ownBlock∧k_ ≠ Zf∧k_ ≠ Zc∧k_ ≠ Zj∧k_ ≠ Zg∧k_ ≠ Ze) (.slice Zs t425.length Zt) t425):=⟨(by rw [hw];exact (by exact Kd.N_mono (nFN (g:=Ze) Zh.out (fun k_ hk=>hk.2)) (fun _ hk=>⟨hk.1.1,⟨hk.1.2.1,⟨hk.1.2.2.1,⟨hk.1.2.2.2.1,⟨hk.1.2.2.2.2.1,⟨hk.1.2.2.2.2.2.1,⟨hk.1.2.2.2.2.2.2,hk.2⟩⟩⟩⟩⟩⟩⟩)))⟩;have n3_:Aside0 (Kd.N k29 29 w119 w.heap.size (fun k_=>(P0_2_ k_ ∨ w.heap.size ≤ k_)∧some k_ ≠ (.slice (some ZE) t439.length ZB:Value).ownBlock∧some k_ ≠ (.slice Zs t425.length Zt:Value).ownBlock∧k_ ≠ Zf∧k_ ≠ Zc∧k_ ≠ Zj∧k_ ≠ Zg∧k_ ≠ Ze) (.slice Zv t433.length Zw) t433):=⟨(by rw [hw];exact (by exact Kd.N_mono (nFN (g:=Ze) Zi.out (fun k_ hk=>hk.2)) (fun _ hk=>⟨hk.1.1,⟨hk.1.2.1,⟨hk.1.2.2.1,⟨hk.1.2.2.2.1,⟨hk.1.2.2.2.2.1,⟨hk.1.2.2.2.2.2.1,⟨hk.1.2.2.2.2.2.2,hk.2⟩⟩⟩⟩⟩⟩⟩)))⟩;have n4_:Aside0 (Kd.V k29 29 w119 w.heap.size (fun k_=>(P0_2_ k_ ∨ w.heap.size ≤ k_)∧some k_ ≠ (.slice (some ZE) t439.length ZB:Value).ownBlock∧some k_ ≠ (.slice Zs t425.length Zt:Value).ownBlock∧some k_ ≠ (.slice Zv t433.length Zw:Value).ownBlock∧k_ ≠ Zf∧k_ ≠ Zc∧k_ ≠ Zj∧k_ ≠ Zg∧k_ ≠ Ze) (.slice A445_3 ((rd_T44 t439 x72_3).f1.f2).length c445_3) ((rd_T44 t439 x72_3).f1.f2)):=⟨(by rw [hw];exact (by exact Kd.V_mono (nFV (g:=Ze) Zp.out (fun k_ hk=>hk.2)) (fun _ hk=>⟨hk.1.1.1,⟨hk.1.2,⟨hk.1.1.2.1,⟨hk.1.1.2.2.1,⟨hk.1.1.2.2.2.1,⟨hk.1.1.2.2.2.2.1,⟨hk.1.1.2.2.2.2.2.1,⟨hk.1.1.2.2.2.2.2.2,hk.2⟩⟩⟩⟩⟩⟩⟩⟩)))⟩;have n5_:Aside0 (w119.heap[Zf]? = some (.cells #[.int .i64 a0_0,.int .i64 a0_1,.slice (some ZO) l0_2.length c0_2] 29 (0,0))):=⟨(by rw [hw];exact bF)⟩;have n6_:Aside0 (w119.heap[Zc]? = some (.cells #[.int .i64 x405000_3,.int .i64 x405001_3,.slice none 0 0] 29 (0,0))):=⟨(by rw [hw];exact bF)⟩;have n7_:Aside0 (w119.heap[Zj]? = some (.cells #[.int .i64 t423,.int .i64 t424,.slice Zs t425.length Zt] 29 (0,0))):=⟨(by rw [hw];exact bF)⟩;have n8_:Aside0 (w119.heap[Zg]? = some (.cells #[.int .i64 t431,.int .i64 t432,.slice Zv t433.length Zw] 29 (0,0))):=⟨(by rw [hw];exact bF)⟩;have n9_:Aside0 (w119.heap[Ze]? = some (.cells #[.int .i64 ((rd_T44 t439 x72_3).f0),.int .i64 ((rd_T44 t439 x72_3).f1.f0),.int .i64 ((rd_T44 t439 x72_3).f1.f1),.slice A445_3 ((rd_T44 t439 x72_3).f1.f2).length c445_3] 44 (0,0))):=⟨(by rw [hw];exact bP)⟩;have n10_:Aside0 (Below w.heap.size w w119):=⟨(by rw [hw];exact bB)⟩;clear hw;clear Zo;clear Za;clear Zh;clear Zi;clear Zp;clear Zb;clear Zd;clear Zl;clear Zn;clear Zk;clear HB;have Zo:=n0_;have Za:=n1_;have Zh:=n2_;have Zi:=n3_;have Zp:=n4_;have Zb:=n5_;have Zd:=n6_;have Zl:=n7_;have Zn:=n8_;have Zk:=n9_;have HB:=n10_;clear n0_ n1_ n2_ n3_ n4_ n5_ n6_ n7_ n8_ n9_ n10_;have UY:w119.cell? ⟨Ze,0,none⟩ = some (.int .i64 ((rd_T44 t439 x72_3).f0)):=(blk_cell Zk.out 0).trans rfl;have UZ:w119.cell? ⟨Ze,1,none⟩ = some (.int .i64 ((rd_T44 t439 x72_3).f1.f0)):=(blk_cell Zk.out 1).trans rfl;have Ta:w119.cell? ⟨Ze,2,none⟩ = some (.int .i64 ((rd_T44 t439 x72_3).f1.f1)):=(blk_cell Zk.out 2).trans rfl;have Tb:w119.cell? ⟨Ze,3,none⟩ = some (.slice A445_3 ((rd_T44 t439 x72_3).f1.f2).length c445_3):=(blk_cell Zk.out 3).trans rfl;have Tc:=blk_frozen Zk.out 0;have Td:=blk_frozen Zk.out 1;have Te:=blk_frozen Zk.out 2;have Tf:=blk_frozen Zk.out 3;have Rx:=Zm.out;have Ry:=Zr.out;have Rz:=ZP.out;have RA:=ZU.out;have RB:=ZW.out;have RC:=ZX.out;obtain ⟨Tg,Th,Ti,Tj,Tk,Tl⟩:=cz3 Zb.out;have p447:0 ≤ (1:Int):=(by omega);have q447:1 < (l0_2.length:Int):=of_decide_eq_true (by assumption);obtain ⟨XB,A447_2,c447_2,e447,Yq,Yr,Yb,Ys,Yt⟩:=at_T29 (Kd.V_reads' Za.out).2.2 1 p447 q447;obtain rfl:ZO = XB:=(by injection e447);obtain ⟨Vd,Xd,Xe,YA⟩:=Kd.V_get Za.out z29 1 p447 (by first | exact q447 | exact of_decide_eq_true (by assumption) | (have e_:=(Kd.V_reads' Za.out).1;omega));obtain ⟨WH,WI,rfl,Yc,Yd⟩:=k29_openF Xe;have ZR:=YA 2 _ rfl;rw [add_field _ _ 2 (by omega)] at ZR;replace ZR:=Option.some.inj (ZR.symm.trans Yb);injection ZR with hva_ hvn_ hvc_;rw [hva_] at Yd;rw [hvc_] at Yc;have Zy:=aQ (show Kd.V k29 29 _ w.heap.size _ _ ((rd_T29 l0_2 1).f2) from Kd.V_mk Yc Yd);clear hva_ hvn_ hvc_ Yd Yc;clear YA Xd;(try simp only [show (1:Int).toNat = 1 from rfl,Nat.reduceMul,Nat.reduceEqDiff,Go.Addr.add,↓reduceIte] at Yq);(try simp only [show (1:Int).toNat = 1 from rfl,Nat.reduceMul,Nat.reduceEqDiff,Go.Addr.add,↓reduceIte] at Yr);(try simp only [show (1:Int).toNat = 1 from rfl,Nat.reduceMul,Nat.reduceEqDiff,Go.Addr.add,↓reduceIte] at Yb);have qi447:(1 < l0_2.length) = True:=eq_true (by omega);(try rw [show ((1:Int)).toNat = 1 from rfl,show 1 * 3 = 3 from rfl] at Yq Yr Yb);have ZC:=aQ Yt;have WJ:=aQ Ys;clear Yt Ys;replace p447:=eq_true p447;replace q447:=eq_true q447) | (go_at_call 47;(with_reducible refine (impl_ticksOf.calls k3 ((rd_T29 l0_2 1).f0) ((rd_T29 l0_2 1).f1) (fun k_=>((P0_2_ k_ ∨ w.heap.size ≤ k_)∧(some k_ ≠ (.slice (some ZE) t439.length ZB:Value).ownBlock∧(some k_ ≠ (.slice Zs t425.length Zt:Value).ownBlock∧(some k_ ≠ (.slice Zv t433.length Zw:Value).ownBlock∧(k_ ≠ Zf∧(k_ ≠ Zc∧(k_ ≠ Zj∧(k_ ≠ Zg∧k_ ≠ Ze))))))))) _ _ ((rd_T29 l0_2 1).f2) t448 _ ?Zz A92.out).mono ?_);(case Zz=>exact Zy.out);rintro e w125 ⟨v449,rfl,ho0,hb⟩;have n0_:=aQ (Kd.N_elder' Zo.out (Kd.N_base ho0) hb);have n1_:=aQ (Kd.V_elder' Za.out (Kd.N_base ho0) hb);have n2_:=aQ (Kd.N_elder' Zh.out (Kd.N_base ho0) hb);have n3_:=aQ (Kd.N_elder' Zi.out (Kd.N_base ho0) hb);have n4_:=aQ (Kd.V_elder' Zp.out (Kd.N_base ho0) hb);have n5_:=aQ (Kd.V_elder' Zy.out (Kd.N_base ho0) hb);have n6_:=aQ (Kd.N_lower (Kd.N_mono (ok':=fun k_=>(P0_2_ k_ ∨ w.heap.size ≤ k_)∧some k_ ≠ (.slice (some ZE) t439.length ZB:Value).ownBlock∧some k_ ≠ (.slice Zs t425.length Zt:Value).ownBlock∧some k_ ≠ (.slice Zv t433.length Zw:Value).ownBlock∧k_ ≠ Zf∧k_ ≠ Zc∧k_ ≠ Zj∧k_ ≠ Zg∧k_ ≠ Ze) ho0 (fun k_ hk_=>⟨Or.elim hk_ (fun hs_=>hs_.1) (fun hn_=>(.inr (Nat.le_trans (below_size bB) hn_))),Or.elim hk_ (fun hs_=>hs_.2.1) (fun hn_=>(Kd.fresh' (Kd.N_lt Zo.out) k_ hn_)),Or.elim hk_ (fun hs_=>hs_.2.2.1) (fun hn_=>(Kd.fresh' (Kd.N_lt Zh.out) k_ hn_)),Or.elim hk_ (fun hs_=>hs_.2.2.2.1) (fun hn_=>(Kd.fresh' (Kd.N_lt Zi.out) k_ hn_)),Or.elim hk_ (fun hs_=>hs_.2.2.2.2.1) (fun hn_=>(Kd.freshB Zb.out k_ hn_)),Or.elim hk_ (fun hs_=>hs_.2.2.2.2.2.1) (fun hn_=>(Kd.freshB Zd.out k_ hn_)),Or.elim hk_ (fun hs_=>hs_.2.2.2.2.2.2.1) (fun hn_=>(Kd.freshB Zl.out k_ hn_)),Or.elim hk_ (fun hs_=>hs_.2.2.2.2.2.2.2.1) (fun hn_=>(Kd.freshB Zn.out k_ hn_)),Or.elim hk_ (fun hs_=>hs_.2.2.2.2.2.2.2.2) (fun hn_=>(Kd.freshB Zk.out k_ hn_))⟩)) (below_size bB));have n7_:=aQ (blk_below Zb.out hb);have n8_:=aQ (blk_below Zd.out hb);have n9_:=aQ (blk_below Zl.out hb);have n10_:=aQ (blk_below Zn.out hb);have n12_:=aQ (blk_below Zk.out hb);have n13_:=aQ (Kd.C_below (nC ZC.out) hb);have n14_:=aQ (below_step bB hb);clear Zo;clear Za;clear Zh;clear Zi;clear Zp;clear Zy;clear Zb;clear Zd;clear Zl;clear Zn;(try clear ZN);clear Zk;clear ZC;clear HB;have Zo:=n0_;have Za:=n1_;have Zh:=n2_;have Zi:=n3_;have Zp:=n4_;have Zy:=n5_;have ZS:=n6_;have Zb:=n7_;have Zd:=n8_;have Zl:=n9_;have Zn:=n10_;have Zk:=n12_;have ZC:=n13_;have HB:=n14_;clear n0_ n1_ n2_ n3_ n4_ n5_ n6_ n7_ n8_ n9_ n10_ n12_ n13_ n14_;(try clear hb);(try clear ho0);obtain ⟨QO,QP,Vf⟩:=Kd.N_slice ZS.out;subst Vf) | (go_at_call 63;(with_reducible refine (impl_partner.calls Ze ((rd_T44 t439 x72_3).f1.f0) ((rd_T44 t439 x72_3).f1.f1) (.slice A445_3 ((rd_T44 t439 x72_3).f1.f2).length c445_3) _ _ t448 ((rd_T44 t439 x72_3).f0) false _ ?XC ?Zz ?Ya A93.out).mono ?_);(case XC=>exact Zk.out);(case Zz=>exact (Kd.N_reads' ZS.out).2.2);(case Ya=>exact (Kd.N_reads' ZS.out).2.1);rintro e w127 ⟨rfl,hb⟩;have n0_:=aQ (Kd.N_below Zo.out hb);have n1_:=aQ (Kd.V_below Za.out hb);have n2_:=aQ (Kd.N_below Zh.out hb);have n3_:=aQ (Kd.N_below Zi.out hb);have n4_:=aQ (Kd.V_below Zp.out hb);have n5_:=aQ (Kd.V_below Zy.out hb);have n6_:=aQ (Kd.N_below ZS.out hb);have n7_:=aQ (blk_below Zb.out hb);have n8_:=aQ (blk_below Zd.out hb);have n9_:=aQ (blk_below Zl.out hb);have n10_:=aQ (blk_below Zn.out hb);have n12_:=aQ (blk_below Zk.out hb);have n13_:=aQ (Kd.C_below (nC ZC.out) hb);have n14_:=aQ (below_step bB hb);clear Zo;clear Za;clear Zh;clear Zi;clear Zp;clear Zy;clear ZS;clear Zb;clear Zd;clear Zl;clear Zn;clear Zk;clear ZC;clear HB;have Zo:=n0_;have Za:=n1_;have Zh:=n2_;have Zi:=n3_;have Zp:=n4_;have Zy:=n5_;have ZS:=n6_;have Zb:=n7_;have Zd:=n8_;have Zl:=n9_;have Zn:=n10_;have Zk:=n12_;have ZC:=n13_;have HB:=n14_;clear n0_ n1_ n2_ n3_ n4_ n5_ n6_ n7_ n8_ n9_ n10_ n12_ n13_ n14_;(try clear hb)))
          go_roundg k3
          case measure=>have:=HJ36.out;have:=HJ47.out;have:=HK3.out;omega
          case rel=>exact ⟨(wrap64 (x72_3 + 1)),(x405000_3),(x405001_3),rfl,H',⟨by have:=HJ36.out;have:=HJ47.out;have:=HK3.out;omega⟩,⟨by exact Kd.N_mono Zo.out (fun _ hk=>⟨hk.1.1,⟨hk.1.2.1,⟨hk.1.2.2.1,⟨hk.1.2.2.2.1,⟨hk.1.2.2.2.2.1,⟨hk.1.2.2.2.2.2.1,hk.1.2.2.2.2.2.2.1⟩⟩⟩⟩⟩⟩)⟩,⟨by exact Kd.V_mono Za.out (fun _ hk=>⟨hk.1.1,⟨hk.1.2.1,⟨hk.1.2.2.1,⟨hk.1.2.2.2.1,⟨hk.1.2.2.2.2.1,⟨hk.1.2.2.2.2.2.1,⟨hk.1.2.2.2.2.2.2.1,hk.1.2.2.2.2.2.2.2.1⟩⟩⟩⟩⟩⟩⟩)⟩,⟨by exact Kd.N_mono Zh.out (fun _ hk=>⟨hk.1.1,⟨hk.1.2.1,⟨hk.1.2.2.1,⟨hk.1.2.2.2.1,⟨hk.1.2.2.2.2.1,⟨hk.1.2.2.2.2.2.1,hk.1.2.2.2.2.2.2.1⟩⟩⟩⟩⟩⟩)⟩,⟨by exact Kd.N_mono Zi.out (fun _ hk=>⟨hk.1.1,⟨hk.1.2.1,⟨hk.1.2.2.1,⟨hk.1.2.2.2.1,⟨hk.1.2.2.2.2.1,⟨hk.1.2.2.2.2.2.1,hk.1.2.2.2.2.2.2.1⟩⟩⟩⟩⟩⟩)⟩,⟨Zb.out⟩,⟨Zd.out⟩,⟨Zl.out⟩,⟨Zn.out⟩,⟨bB⟩⟩
   ·replace c43:=Bool.eq_false_iff.mpr c43
    subst c43
    have H1:((impl_copyClock.f kj36 a0_0 a0_1 l0_2).bind fun bt455=>(some (bt455.1,bt455.2.1,bt455.2.2,true))) = some (r1,r2,r3,r4):=by rw [if_neg (show ¬ (false = true) by decide)] at H;exact H
    clear H
    have H:=H1
    clear H1
    obtain ⟨⟨t455,t456,t457⟩,A154,H⟩:=bQ H
    dsimp only at H
    simp only [Option.some.injEq,Prod.mk.injEq] at H
    obtain ⟨rfl,rfl,rfl,rfl⟩:=H
    have RD:=Zm.out
    have RE:=Zr.out
    obtain ⟨Tm,Tn,To,Tp,Tq,Tr⟩:=cz3 Zb.out
    go_wp2_with (first | ((with_reducible refine gate_callee (f:=48) rfl ?_);refine goesL_ (some 97) rfl rfl Try.func48 (by kernel_rfl) rfl #[.agg #[.int .i64 a0_0,.int .i64 a0_1,.slice A0_2 l0_2.length c0_2]] rfl mP ?_;(with_reducible refine (impl_copyClock.calls kj36 a0_0 a0_1 _ _ l0_2 t455 t456 t457 _ ?Zz ?Ya A154.out).mono ?_);(case Zz=>exact (Kd.V_reads' Za.out).2.2);(case Ya=>exact (Kd.V_reads' Za.out).2.1);rintro e w157 ⟨v458,rfl,ho0,hb⟩;refine ⟨_,rfl,?_⟩;replace Za:=aQ (Kd.V_elder' Za.out (Kd.N_base ho0) hb);have XV:=aQ (Kd.N_lower (Kd.N_mono (ok':=fun k_=>(P0_2_ k_ ∨ w.heap.size ≤ k_)∧k_ ≠ Zf∧k_ ≠ Zc) ho0 (fun k_ hk_=>⟨(.inr (Nat.le_trans (below_size bB) hk_)),(Kd.freshB Zb.out k_ hk_),(Kd.freshB Zd.out k_ hk_)⟩)) (below_size bB));replace Zb:=aQ (blk_below Zb.out hb);replace Zd:=aQ (blk_below Zd.out hb);replace HB:=aQ (below_step bB hb);(try clear hb);(try clear ho0);obtain ⟨Ts,Tt,Tu,Tv,Tw,Tx⟩:=cz3 Zd.out;obtain ⟨Vg,Vh,Vi⟩:=Kd.N_slice XV.out;subst Vi))
    refine bodyPost_ret (results_ct rfl _ _ Zc 29 #[.int .i64 t455,.int .i64 t456,.slice Vg t457.length Vh] (0,0) _ rfl bP Try.underlying29 rfl (by kernel_rfl)) rfl ?_
    exact ⟨_,rfl,by exact Kd.N_mono (nFN (g:=Zc) XV.out (fun k_ hk=>hk.2.2)) (fun _ hk=>hk.1),bB⟩
end Go.Proofs.Ytnkgcjdlfenepaa.P
