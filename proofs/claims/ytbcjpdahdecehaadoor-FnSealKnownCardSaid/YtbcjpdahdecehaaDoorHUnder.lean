/- Whether a message stands in another one (impl.under), with the closure that it hands to slices.ContainsFunc. No condition. -/
import Derived.Test.YtbcjpdahdecehaaDoorP0
import Derived.Test.YtbcjpdahdecehaaDoorP3
import Derived.Test.YtbcjpdahdecehaaDoorAny
namespace Go.Proofs.YtbcjpdahdecehaaDoor.P
open Go.RowKit Go.Proofs.YtbcjpdahdecehaaDoorW.PrintWords Go.Proofs.YtbcjpdahdecehaaDoorW.PrintLast Go.Proofs.YtbcjpdahdecehaaDoorW.PrintMore Go.Proofs.YtbcjpdahdecehaaDoor.Any
attribute [local go_sem] max2_int min2_int max_two min_two max_three min_three max_four min_four
set_option linter.unusedVariables false
set_option linter.unusedSimpArgs false
def Pred25 (g:Nat) (lb:Array Value) (p:S25 → Option Bool) (w:World):Prop :=
 ∀ (x:S25) (A:Option Addr) (c:Nat) (b:Bool) (W:World),Below w.heap.size w W → Kd.C k25 W A x.f2.length x.f2 → x.f2.length ≤ c → p x = some b →
  Calls Tryd.prog g (#[.agg #[.int .i64 x.f0,.int .i64 x.f1,.slice A x.f2.length c]] ++ lb) W fun e w'=>e = .returned (.bool b)∧Below W.heap.size W w'
set_option maxHeartbeats 8000000 in
set_option maxRecDepth 100000 in
theorem idx25 (g:Nat) (lb:Array Value) (eg:∀ args w,(callFunc g args).run Tryd.prog w = .ok (.enter g args) w) (p:S25 → Option Bool) (A:Option Addr) (c:Nat) (xs:List S25) (w:World)
  (hp:Pred25 g lb p w) (hr:Kd.C k25 w A xs.length xs) (hc:xs.length ≤ c) (r:Int) (h:idxOf p xs 0 = some r) :
  Calls Tryd.prog 67 #[.slice A xs.length c,.func (.func g) #[] lb] w fun e w'=>e = .returned (.int .i64 r)∧Below w.heap.size w w':=by
 have hu25:=Tryd.underlying25
 have HR:=Aside0.mk hr
 have hn:xs.length ≤ 9223372036854775807:=hr.2.1
 clear hr
 have HP:=Aside0.mk hp
 clear hp
 have H:=Aside0.mk h
 clear h
 go_enter Tryd.func67,Tryd.ntmps67
 go_wp2
 go_loopg [5,8] xs.length (fun gg _ s8 wr=>∃ kk:Nat,kk ≤ xs.length∧xs.length - kk ≤ gg∧s8 = .int .i64 kk∧Aside0 (idxOf p (xs.drop kk) kk = some r)∧Aside0 (Below w.heap.size w wr))
 case atStart=>exact ⟨0,Nat.zero_le _,Nat.le_refl _,rfl,H,⟨Below.refl _ _⟩⟩
 case round =>
  clear H
  obtain ⟨kk,hkk,hg,rfl,HA,HB⟩:=hrel
  by_cases hlt:kk < xs.length
  ·have hltz:decide ((kk:Int) < (xs.length:Int)) = true:=decide_eq_true (by omega)
   have hltz2:decide (kk < xs.length) = true:=decide_eq_true hlt
   have H:=HA.out
   rw [idxOf_drop hlt] at H
   obtain ⟨b,hb,H⟩:=Option.bind_eq_some_iff.1 H
   have hx:rd_T25 xs (kk:Int) = xs[kk]:=by simp [rd_T25,List.getD_eq_getElem?_getD,List.getElem?_eq_getElem hlt]
   obtain ⟨ad,A2,c2,e2,h0,h1,h2,hl2,hi2⟩:=at_T25 HR.out (kk:Int) (by omega) (by omega)
   rw [hx] at h0 h1 h2 hl2 hi2
   simp only [Int.toNat_natCast] at h0 h1 h2
   cases e2
   replace h0:=(HB.out.cell (World.block_lt_of_cell? w _ h0)).trans h0
   replace h1:=(HB.out.cell (World.block_lt_of_cell? w _ h1)).trans h1
   replace h2:=(HB.out.cell (World.block_lt_of_cell? w _ h2)).trans h2
   have hcall:=HP.out xs[kk] A2 c2 b wr HB.out (Kd.C_below hi2 HB.out) hl2 hb
   generalize xs[kk] = y at h0 h1 h2 hcall
   clear hx hl2 hi2 hb
   have p1:(0 ≤ (kk:Int)) = True:=eq_true (by omega)
   have p2:((kk:Int) < (xs.length:Int)) = True:=eq_true (by omega)
   have HH:=Aside0.mk H
   clear H HA
   cases b with
   | true =>
    go_wp2_with (((with_reducible refine hcall.mono ?_);rintro e w' ⟨rfl,hb'⟩))
    go_ret
    have hr0:(kk:Int) = r:=Option.some.inj HH.out
    subst hr0
    exact ⟨rfl,below_step HB.out hb'⟩
   | false =>
    go_wp2_with (((with_reducible refine hcall.mono ?_);rintro e w' ⟨rfl,hb'⟩))
    go_roundg (xs.length - (kk + 1))
    case measure=>omega
    case rel=>exact ⟨kk + 1,by omega,by omega,by go_num,⟨HH.out⟩,⟨below_step HB.out hb'⟩⟩
  ·have hltz:decide ((kk:Int) < (xs.length:Int)) = false:=decide_eq_false (by omega)
   have hltz2:decide (kk < xs.length) = false:=decide_eq_false hlt
   have H:=HA.out
   rw [List.drop_eq_nil_of_le (by omega)] at H
   have hr0:(-1:Int) = r:=Option.some.inj H
   clear H HA
   go_wp2
   go_ret
   subst hr0
   exact ⟨rfl,HB.out⟩
set_option maxHeartbeats 8000000 in
set_option maxRecDepth 100000 in
theorem any25 (g:Nat) (lb:Array Value) (eg:∀ args w,(callFunc g args).run Tryd.prog w = .ok (.enter g args) w) (p:S25 → Option Bool) (A:Option Addr) (c:Nat) (xs:List S25) (w:World)
  (hp:Pred25 g lb p w) (hr:Kd.C k25 w A xs.length xs) (hc:xs.length ≤ c) (b:Bool) (h:anyOf p xs = some b) :
  Calls Tryd.prog 60 #[.slice A xs.length c,.func (.func g) #[] lb] w fun e w'=>e = .returned (.bool b)∧Below w.heap.size w w':=by
 obtain ⟨r,hr0,rfl⟩:=anyOf_idx xs 0 (by omega) b h
 have hcall:=idx25 g lb eg p A c xs w hp hr hc r hr0
 clear hp hr hc h hr0 eg
 go_enter Tryd.func60,Tryd.ntmps60
 go_wp2_with (go_at_call 67;refine hcall.mono ?_;rintro e w' ⟨rfl,hb'⟩)
 go_ret
 exact ⟨by first | rfl | simp,hb'⟩
mutual
def impl_underAny.f:Nat → List S25 → Int → Int → List S25 → Option Bool
 | 0,_,_,_,_=>none
 | k + 1,xs,m0,m1,m2=>anyOf (fun x=>impl_under.f k m0 m1 m2 x.f0 x.f1 x.f2) xs
def impl_under.f:Nat → Int → Int → List S25 → Int → Int → List S25 → Option Bool
 | 0,_,_,_,_,_,_=>none
 | k + 1,a0_0,a0_1,l0_2,a1_0,a1_1,l1_2=>(impl_sealText.f k a0_0 a0_1 l0_2).bind fun t199=>((impl_sealText.f k a1_0 a1_1 l1_2).bind fun t200=>(if t199.toList = t200.toList then (some true) else ((impl_underAny.f k l1_2 a0_0 a0_1 l0_2).bind fun t201=>(some t201))))
end
theorem impl_under.mono_l:∀ k,(∀ y0 y1 y2 y3,LeO (impl_underAny.f k y0 y1 y2 y3) (impl_underAny.f (k + 1) y0 y1 y2 y3))∧(∀ y0 y1 y2 y3 y4 y5,LeO (impl_under.f k y0 y1 y2 y3 y4 y5) (impl_under.f (k + 1) y0 y1 y2 y3 y4 y5))
 | 0=>⟨fun _ _ _ _ r h=>by simp [impl_underAny.f] at h,fun _ _ _ _ _ _ r h=>by simp [impl_under.f] at h⟩
 | k + 1=>by
  obtain ⟨ih0,ih1⟩:=impl_under.mono_l k
  refine ⟨?_,?_⟩
  ·intro y0 y1 y2 y3
   unfold impl_underAny.f
   exact anyOf_mono (fun x=>ih1 _ _ _ _ _ _) _
  ·intro y0 y1 y2 y3 y4 y5
   unfold impl_under.f
   repeat' first
   | (with_reducible exact ih0 _ _ _ _)
   | (with_reducible exact impl_sealText.mono _ _ _ _)
   | (with_reducible exact LeO.refl _)
   | (with_reducible exact LeO.none _)
   | (with_reducible refine LeO.ite ?_ ?_)
   | (with_reducible refine LeO.bind ?_ (fun _=>?_))
theorem impl_under.mono:∀ a0 a1 a2 a3 a4 a5 k,LeO (impl_under.f k a0 a1 a2 a3 a4 a5) (impl_under.f (k + 1) a0 a1 a2 a3 a4 a5):=fun a0 a1 a2 a3 a4 a5 k=>(impl_under.mono_l k).2 a0 a1 a2 a3 a4 a5
abbrev impl_underAny.Con (k:Nat):Prop:=∀ (g:Nat) (A0:Option Addr) (c0:Nat) (l0:List S25) (m0 m1:Int) (A:Option Addr) (c:Nat) (l2:List S25) (r:Bool) (w:World) (hbox:w.heap[g]? = some (.cells #[.int .i64 m0,.int .i64 m1,.slice A l2.length c] 25 (0,0))) (hr0:Kd.C k25 w A0 l0.length l0) (hc0:l0.length ≤ c0) (hr1:Kd.C k25 w A l2.length l2) (hc1:l2.length ≤ c) (h:impl_underAny.f k l0 m0 m1 l2 = some r),
  Calls Tryd.prog 60 #[.slice A0 l0.length c0,.func (.func 61) #[] #[.pointer (some ⟨g,0,none⟩)]] w fun e w'=>e = .returned (.bool r)∧Below w.heap.size w w'
def impl_under.T1:Bool × List (List Nat × List Nat):=(true,[([],[]),([0],[0]),([],[]),([2,1],[2]),([1,3],[1,3]),([4,3],[4]),([5],[5]),([6,5],[5,6]),([5],[5]),([7,8,5,5],[5,7,8]),([5,9],[5,9]),([10,9,0,1,2,3,4,5,6,7,8,9,10],[10])])
def impl_under.B1:List Nat:=[0,1,0,7,15,31,63,127,63,511,1023,2047]
theorem impl_under.tab1:rtab .any (opsOf Tryd.f47 1) = impl_under.T1:=by kernel_rfl
theorem impl_under.bits1:waitsOk impl_under.T1.2 impl_under.B1 = true:=by kernel_rfl
set_option maxHeartbeats 8000000 in
set_option maxRecDepth 100000 in
theorem impl_under.calls_of (k:Nat) (ihS:∀ j_,j_ ≤ k → impl_underAny.Con j_) (a0_0:Int) (a0_1:Int) (A0_2:Option Addr) (c0_2:Nat) (l0_2:List (S25)) (a1_0:Int) (a1_1:Int) (A1_2:Option Addr) (c1_2:Nat) (l1_2:List (S25)) (r:Bool) (w:World) (hr0_2:Kd.C k25 w A0_2 l0_2.length l0_2) (hc0_2:l0_2.length ≤ c0_2) (hr1_2:Kd.C k25 w A1_2 l1_2.length l1_2) (hc1_2:l1_2.length ≤ c1_2) (h:((impl_sealText.f k a0_0 a0_1 l0_2).bind fun t199=>((impl_sealText.f k a1_0 a1_1 l1_2).bind fun t200=>(if t199.toList = t200.toList then (some true) else ((impl_underAny.f k l1_2 a0_0 a0_1 l0_2).bind fun t201=>(some t201))))) = some r) :
  Calls Tryd.prog 47 #[.agg #[.int .i64 a0_0,.int .i64 a0_1,.slice A0_2 l0_2.length c0_2],.agg #[.int .i64 a1_0,.int .i64 a1_1,.slice A1_2 l1_2.length c1_2]] w fun e w'=>e = .returned (.bool r)∧Below w.heap.size w w':=by
 have hu25:=Tryd.underlying25
 have HR0_2:=Aside0.mk hr0_2
 have HC0_2:=Aside0.mk hc0_2
 clear hr0_2 hc0_2
 have HR1_2:=Aside0.mk hr1_2
 have HC1_2:=Aside0.mk hc1_2
 clear hr1_2 hc1_2
 have HB:=Aside0.mk (Below.refl w.heap.size w)
 have H:((impl_sealText.f k a0_0 a0_1 l0_2).bind fun t199=>((impl_sealText.f k a1_0 a1_1 l1_2).bind fun t200=>(if t199.toList = t200.toList then (some true) else ((impl_underAny.f k l1_2 a0_0 a0_1 l0_2).bind fun t201=>(some t201))))) = some r:=h
 clear h
 replace H:=Option.bind_eq_some_iff.mp H
 obtain ⟨t199,A30,H⟩:=H
 replace H:((impl_sealText.f k a1_0 a1_1 l1_2).bind fun t200=>(if t199.toList = t200.toList then (some true) else ((impl_underAny.f k l1_2 a0_0 a0_1 l0_2).bind fun t201=>(some t201)))) = some r:=H
 have A3:=Aside0.mk A30
 clear A30
 replace H:=Option.bind_eq_some_iff.mp H
 obtain ⟨t200,A40,H⟩:=H
 replace H:(if t199.toList = t200.toList then (some true) else ((impl_underAny.f k l1_2 a0_0 a0_1 l0_2).bind fun t201=>(some t201))) = some r:=H
 have A4:=Aside0.mk A40
 clear A40
 by_cases c5:t199.toList = t200.toList
 ·rw [if_pos c5] at H
  have c5b0:(t199.toList == t200.toList) = true:=beq_iff_eq.mpr c5
  have c5b1:(t199.toList != t200.toList) = false:=bne_eq_false_iff_eq.mpr c5
  clear c5
  obtain rfl:=Option.some.inj H
  go_enter Tryd.func47,Tryd.ntmps47
  try go_wp2_with (first | ((with_reducible refine gate_dst (N:=2) rfl ?_);refine box_event ?hg (N:=2) ?hd (cs:=#[.int .i64 a0_0,.int .i64 a0_1,.slice A0_2 l0_2.length c0_2]) (t:=25) ?hr ?_;(case hd=>rfl);(case hg=>rfl);(case hr=>first | (go_simp;done) | (go_simp;rfl));intro gb197 hg w6 hbox hb;have n0_:=Aside0.mk (below_step (by repeat (first | (with_reducible first | exact HB.out | apply below_alloc | apply pw_below_drewN | apply below_drew1) | exact HB.out)) hb);have n1_:=Aside0.mk (hbox);have n2_:=Aside0.mk ((by rw [hg];exact (below_size (by repeat (first | (with_reducible first | exact HB.out | apply below_alloc | apply pw_below_drewN | apply below_drew1) | exact HB.out))):w.heap.size ≤ gb197));have n3_:=Aside0.mk ((by rw [hg];exact (below_size (by repeat (first | (with_reducible first | exact HB.out | apply below_alloc | apply pw_below_drewN | apply below_drew1) | exact HB.out))):w.heap.size ≤ gb197));clear HB;have HB:=n0_;have BK197:=n1_;have GW197:=n2_;have GE197:=n3_;clear n0_ n1_ n2_ n3_;clear hb hbox hg) | ((with_reducible refine gate_dst (N:=3) rfl ?_);refine box_event ?hg (N:=3) ?hd (cs:=#[.int .i64 a1_0,.int .i64 a1_1,.slice A1_2 l1_2.length c1_2]) (t:=25) ?hr ?_;(case hd=>rfl);(case hg=>rfl);(case hr=>first | (go_simp;done) | (go_simp;rfl));intro gb198 hg w7 hbox hb;have n0_:=Aside0.mk (blk_below (g:=gb197) (o:=.cells #[.int .i64 a0_0,.int .i64 a0_1,.slice A0_2 l0_2.length c0_2] 25 (0,0)) (by (with_reducible repeat (first | refine blk_drewN ?_ _ | refine blk_drew ?_ | refine blk_alloc ?_ _));exact BK197.out) hb);have n1_:=Aside0.mk (below_step (by repeat (first | (with_reducible first | exact HB.out | apply below_alloc | apply pw_below_drewN | apply below_drew1 | refine below_set ?_ GE197.out) | exact HB.out)) hb);have n2_:=Aside0.mk (hbox);have n3_:=Aside0.mk ((by rw [hg];exact (below_size (by repeat (first | (with_reducible first | exact HB.out | apply below_alloc | apply pw_below_drewN | apply below_drew1 | refine below_set ?_ GE197.out) | exact HB.out))):w.heap.size ≤ gb198));have n4_:=Aside0.mk ((by rw [hg];exact (below_size (by repeat (first | (with_reducible first | exact HB.out | apply below_alloc | apply pw_below_drewN | apply below_drew1 | refine below_set ?_ GE197.out) | exact HB.out))):w.heap.size ≤ gb198));have n5_:=Aside0.mk ((by rw [hg];exact Nat.ne_of_lt (blk_lt (g:=gb197) (o:=.cells #[.int .i64 a0_0,.int .i64 a0_1,.slice A0_2 l0_2.length c0_2] 25 (0,0)) (by (with_reducible repeat (first | refine blk_drewN ?_ _ | refine blk_drew ?_ | refine blk_alloc ?_ _));exact BK197.out)):gb197 ≠ gb198));have n6_:=Aside0.mk ((by rw [hg];exact Nat.ne_of_gt (blk_lt (g:=gb197) (o:=.cells #[.int .i64 a0_0,.int .i64 a0_1,.slice A0_2 l0_2.length c0_2] 25 (0,0)) (by (with_reducible repeat (first | refine blk_drewN ?_ _ | refine blk_drew ?_ | refine blk_alloc ?_ _));exact BK197.out)):gb198 ≠ gb197));clear BK197;clear HB;have BK197:=n0_;have HB:=n1_;have BK198:=n2_;have GW198:=n3_;have GE198:=n4_;have NB197_198:=n5_;have NB198_197:=n6_;clear n0_ n1_ n2_ n3_ n4_ n5_ n6_;clear hb hbox hg))
  have n0_:=Aside0.mk (blk_drew BK197.out)
  have n1_:=Aside0.mk (blk_drew BK198.out)
  have n2_:=Aside0.mk (below_drew1 HB.out)
  clear BK197
  clear BK198
  clear HB
  have BK197:=n0_
  have BK198:=n1_
  have HB:=n2_
  clear n0_ n1_ n2_
  refine start_ (n:=12) (S:=fun w'=>w'.cell? ⟨gb197,0,none⟩ = some (.int .i64 a0_0)∧w'.cell? ⟨gb197,1,none⟩ = some (.int .i64 a0_1)∧w'.cell? ⟨gb197,2,none⟩ = some (.slice A0_2 l0_2.length c0_2)∧w'.cell? ⟨gb198,0,none⟩ = some (.int .i64 a1_0)∧w'.cell? ⟨gb198,1,none⟩ = some (.int .i64 a1_1)∧w'.cell? ⟨gb198,2,none⟩ = some (.slice A1_2 l1_2.length c1_2)) (ds:=[]) #[false,false,false,false,false,false,false,false,false,false,false,false] (by kernel_rfl) rfl rfl ⟨(blk_cell BK197.out 0).trans rfl,(blk_cell BK197.out 1).trans rfl,(blk_cell BK197.out 2).trans rfl,(blk_cell BK198.out 0).trans rfl,(blk_cell BK198.out 1).trans rfl,(blk_cell BK198.out 2).trans rfl⟩ (fun hHeld=>?_);refine with_tabW impl_under.tab1 impl_under.bits1 (fun HT_ HW_=>?_)
  generalize w7.drew = w8 at BK197 BK198 HB hHeld ⊢
  refine take_ (i:=0) (N:=some 5) (v:=?_) (a':=?_) #[true,false,false,false,false,false,false,false,false,false,false,false] rfl rfl (take_ofW HT_.out HW_.out (by kernel_rfl)) (fun _ _ _ h=>h) (Or.inl ⟨by rfl,?_⟩) hHeld ?_ ?_
  rotate_left;·rintro w' ⟨s0,s1,s2,s3,s4,s5⟩;go_simp;with_reducible rfl
  rotate_left;·simp only [Act.put,List.setIfInBounds_toArray,List.set_cons_zero,List.set_cons_succ,i64_w,i32_w];rfl
  refine take_ (i:=2) (N:=some 7) (v:=?_) (a':=?_) #[true,false,true,false,false,false,false,false,false,false,false,false] rfl rfl (take_ofW HT_.out HW_.out (by kernel_rfl)) (fun _ _ _ h=>h) (Or.inl ⟨by rfl,?_⟩) hHeld ?_ ?_
  rotate_left;·rintro w' ⟨s0,s1,s2,s3,s4,s5⟩;go_simp;with_reducible rfl
  rotate_left;·simp only [Act.put,List.setIfInBounds_toArray,List.set_cons_zero,List.set_cons_succ,i64_w,i32_w];rfl
  refine one_ (i:=1) (N:=some 6) #[true,true,true,false,false,false,false,false,false,false,false,false] rfl rfl (one_of HT_.out (by kernel_rfl)) (by decide) (fun K hK=>?_)
  refine goes_ Tryd.func46 (by kernel_rfl) rfl #[.agg #[.int .i64 a0_0,.int .i64 a0_1,.slice A0_2 l0_2.length c0_2]] (by rfl) rfl rfl (by (try simp only [List.map_toArray,List.map_cons,List.map_nil]);first | done | rfl | (simp only [List.length_drop,List.length_take];rfl)) ?_
  with_reducible refine (impl_sealText.calls k a0_0 a0_1 _ _ l0_2 t199 _ ?side1 ?side2 A3.out).mono ?_
  (case side1=>repeat (first | exact (Kd.C_below HR0_2.out HB.out) | (with_reducible refine Kd.C_alloc ?_ _) | (with_reducible refine Kd.C_drewN ?_ _) | (with_reducible refine Kd.C_drew ?_)))
  (case side2=>exact HC0_2.out)
  rintro e w9 ⟨rfl,hb⟩
  refine ⟨_,rfl,?_⟩
  have n0_:=Aside0.mk (blk_below (g:=gb197) (o:=.cells #[.int .i64 a0_0,.int .i64 a0_1,.slice A0_2 l0_2.length c0_2] 25 (0,0)) (by (with_reducible repeat (first | refine blk_drewN ?_ _ | refine blk_drew ?_ | refine blk_alloc ?_ _));exact BK197.out) hb)
  have n1_:=Aside0.mk (blk_below (g:=gb198) (o:=.cells #[.int .i64 a1_0,.int .i64 a1_1,.slice A1_2 l1_2.length c1_2] 25 (0,0)) (by (with_reducible repeat (first | refine blk_drewN ?_ _ | refine blk_drew ?_ | refine blk_alloc ?_ _));exact BK198.out) hb)
  have n2_:=Aside0.mk (below_step (by repeat (first | (with_reducible first | exact HB.out | apply below_alloc | apply pw_below_drewN | apply below_drew1 | refine below_set ?_ GE197.out | refine below_set ?_ GE198.out) | exact HB.out)) hb)
  clear BK197
  clear BK198
  clear HB
  have BK197:=n0_
  have BK198:=n1_
  have HB:=n2_
  clear n0_ n1_ n2_
  (try clear hb)
  (try clear hb2)
  (try clear hk)
  (try clear hi)
  refine hK.out _ _ ⟨(blk_cell BK197.out 0).trans rfl,(blk_cell BK197.out 1).trans rfl,(blk_cell BK197.out 2).trans rfl,(blk_cell BK198.out 0).trans rfl,(blk_cell BK198.out 1).trans rfl,(blk_cell BK198.out 2).trans rfl⟩ (fun hHeld=>?_)
  clear hK K
  refine norm_ (a':=?_) ?_ ?_
  rotate_left
  ·show Act.put _ (some 6) _ = _
   simp only [Act.put,List.setIfInBounds_toArray,List.set_cons_zero,List.set_cons_succ,i64_w,i32_w]
   rfl
  refine one_ (i:=3) (N:=some 8) #[true,true,true,true,false,false,false,false,false,false,false,false] rfl rfl (one_of HT_.out (by kernel_rfl)) (by decide) (fun K hK=>?_)
  refine goes_ Tryd.func46 (by kernel_rfl) rfl #[.agg #[.int .i64 a1_0,.int .i64 a1_1,.slice A1_2 l1_2.length c1_2]] (by rfl) rfl rfl (by (try simp only [List.map_toArray,List.map_cons,List.map_nil]);first | done | rfl | (simp only [List.length_drop,List.length_take];rfl)) ?_
  with_reducible refine (impl_sealText.calls k a1_0 a1_1 _ _ l1_2 t200 _ ?side1 ?side2 A4.out).mono ?_
  (case side1=>repeat (first | exact (Kd.C_below HR1_2.out HB.out) | (with_reducible refine Kd.C_alloc ?_ _) | (with_reducible refine Kd.C_drewN ?_ _) | (with_reducible refine Kd.C_drew ?_)))
  (case side2=>exact HC1_2.out)
  rintro e w10 ⟨rfl,hb⟩
  refine ⟨_,rfl,?_⟩
  have n0_:=Aside0.mk (blk_below (g:=gb197) (o:=.cells #[.int .i64 a0_0,.int .i64 a0_1,.slice A0_2 l0_2.length c0_2] 25 (0,0)) (by (with_reducible repeat (first | refine blk_drewN ?_ _ | refine blk_drew ?_ | refine blk_alloc ?_ _));exact BK197.out) hb)
  have n1_:=Aside0.mk (blk_below (g:=gb198) (o:=.cells #[.int .i64 a1_0,.int .i64 a1_1,.slice A1_2 l1_2.length c1_2] 25 (0,0)) (by (with_reducible repeat (first | refine blk_drewN ?_ _ | refine blk_drew ?_ | refine blk_alloc ?_ _));exact BK198.out) hb)
  have n2_:=Aside0.mk (below_step (by repeat (first | (with_reducible first | exact HB.out | apply below_alloc | apply pw_below_drewN | apply below_drew1 | refine below_set ?_ GE197.out | refine below_set ?_ GE198.out) | exact HB.out)) hb)
  clear BK197
  clear BK198
  clear HB
  have BK197:=n0_
  have BK198:=n1_
  have HB:=n2_
  clear n0_ n1_ n2_
  (try clear hb)
  (try clear hb2)
  (try clear hk)
  (try clear hi)
  refine hK.out _ _ ⟨(blk_cell BK197.out 0).trans rfl,(blk_cell BK197.out 1).trans rfl,(blk_cell BK197.out 2).trans rfl,(blk_cell BK198.out 0).trans rfl,(blk_cell BK198.out 1).trans rfl,(blk_cell BK198.out 2).trans rfl⟩ (fun hHeld=>?_)
  clear hK K
  refine norm_ (a':=?_) ?_ ?_
  rotate_left
  ·show Act.put _ (some 8) _ = _
   simp only [Act.put,List.setIfInBounds_toArray,List.set_cons_zero,List.set_cons_succ,i64_w,i32_w]
   rfl
  refine pure_ (i:=4) (N:=some 9) (v:=?_) (a':=?_) #[true,true,true,true,true,false,false,false,false,false,false,false] rfl rfl (any_of HT_.out (by kernel_rfl)) (fun _ _ _ h=>h) (Or.inl ⟨by rfl,?_⟩) ?_ ?_
  rotate_left;·intro w';go_simp;with_reducible rfl
  rotate_left;·simp only [Act.put,List.setIfInBounds_toArray,List.set_cons_zero,List.set_cons_succ,i64_w,i32_w];rfl
  refine pure_ (i:=5) (N:=some 10) (v:=?_) (a':=?_) #[true,true,true,true,true,true,false,false,false,false,false,false] rfl rfl (any_of HT_.out (by kernel_rfl)) (fun _ _ _ h=>h) (Or.inl ⟨by rfl,?_⟩) ?_ ?_
  rotate_left;·intro w';go_simp;with_reducible rfl
  rotate_left;·simp only [Act.put,List.setIfInBounds_toArray,List.set_cons_zero,List.set_cons_succ,i64_w,i32_w];rfl
  refine pure_ (i:=6) (N:=some 11) (v:=undef) (a':=?_) #[true,true,true,true,true,true,true,false,false,false,false,false] rfl rfl (any_of HT_.out (by kernel_rfl)) (fun _ _ _ h=>h) (Or.inr ⟨by rfl,rfl⟩) ?_ ?_
  rotate_left;·simp only [Act.put,List.setIfInBounds_toArray,List.set_cons_zero,List.set_cons_succ,i64_w,i32_w];rfl
  refine pure_ (i:=7) (N:=some 12) (v:=undef) (a':=?_) #[true,true,true,true,true,true,true,true,false,false,false,false] rfl rfl (any_of HT_.out (by kernel_rfl)) (fun _ _ _ h=>h) (Or.inr ⟨by rfl,rfl⟩) ?_ ?_
  rotate_left;·simp only [Act.put,List.setIfInBounds_toArray,List.set_cons_zero,List.set_cons_succ,i64_w,i32_w];rfl
  refine pure_ (i:=8) (N:=some 13) (v:=undef) (a':=?_) #[true,true,true,true,true,true,true,true,true,false,false,false] rfl rfl (any_of HT_.out (by kernel_rfl)) (fun _ _ _ h=>h) (Or.inr ⟨by rfl,rfl⟩) ?_ ?_
  rotate_left;·simp only [Act.put,List.setIfInBounds_toArray,List.set_cons_zero,List.set_cons_succ,i64_w,i32_w];rfl
  refine pure_ (i:=9) (N:=some 14) (v:=undef) (a':=?_) #[true,true,true,true,true,true,true,true,true,true,false,false] rfl rfl (any_of HT_.out (by kernel_rfl)) (fun _ _ _ h=>h) (Or.inr ⟨by rfl,rfl⟩) ?_ ?_
  rotate_left;·simp only [Act.put,List.setIfInBounds_toArray,List.set_cons_zero,List.set_cons_succ,i64_w,i32_w];rfl
  refine pure_ (i:=10) (N:=some 15) (v:=?_) (a':=?_) #[true,true,true,true,true,true,true,true,true,true,true,false] rfl rfl (any_of HT_.out (by kernel_rfl)) (fun _ _ _ h=>h) (Or.inl ⟨by rfl,?_⟩) ?_ ?_
  rotate_left;·intro w';go_simp;with_reducible rfl
  rotate_left;·simp only [Act.put,List.setIfInBounds_toArray,List.set_cons_zero,List.set_cons_succ,i64_w,i32_w];rfl
  refine pure_ (i:=11) (N:=some 4) (v:=?_) (a':=?_) #[true,true,true,true,true,true,true,true,true,true,true,true] rfl rfl (any_of HT_.out (by kernel_rfl)) (fun _ _ _ h=>h) (Or.inl ⟨by rfl,?_⟩) ?_ ?_
  rotate_left;·intro w';go_simp;with_reducible rfl
  rotate_left;·simp only [Act.put,List.setIfInBounds_toArray,List.set_cons_zero,List.set_cons_succ,i64_w,i32_w];rfl
  refine done_ (done_of HT_.out (by kernel_rfl)) ?_
  try go_wp2
  go_ret
  exact ⟨by first | rfl | (simp [errW_none,errW_some] <;> rfl) | (simp [*,errW_none,errW_some] <;> rfl),by repeat (first | (with_reducible first | exact HB.out | apply below_alloc | apply pw_below_drewN | apply below_drew1 | refine below_set ?_ GE197.out | refine below_set ?_ GE198.out) | exact HB.out)⟩
 ·rw [if_neg c5] at H
  have c5b0:(t199.toList == t200.toList) = false:=beq_eq_false_iff_ne.mpr c5
  have c5b1:(t199.toList != t200.toList) = true:=bne_iff_ne.mpr c5
  replace H:=Option.bind_eq_some_iff.mp H
  obtain ⟨t201,A110,H⟩:=H
  replace H:(some t201) = some r:=H
  have A11:=Aside0.mk A110
  clear A110
  obtain rfl:=Option.some.inj H
  go_enter Tryd.func47,Tryd.ntmps47
  try go_wp2_with (first | ((with_reducible refine gate_dst (N:=2) rfl ?_);refine box_event ?hg (N:=2) ?hd (cs:=#[.int .i64 a0_0,.int .i64 a0_1,.slice A0_2 l0_2.length c0_2]) (t:=25) ?hr ?_;(case hd=>rfl);(case hg=>rfl);(case hr=>first | (go_simp;done) | (go_simp;rfl));intro gb197 hg w12 hbox hb;have n0_:=Aside0.mk (below_step (by repeat (first | (with_reducible first | exact HB.out | apply below_alloc | apply pw_below_drewN | apply below_drew1) | exact HB.out)) hb);have n1_:=Aside0.mk (hbox);have n2_:=Aside0.mk ((by rw [hg];exact (below_size (by repeat (first | (with_reducible first | exact HB.out | apply below_alloc | apply pw_below_drewN | apply below_drew1) | exact HB.out))):w.heap.size ≤ gb197));have n3_:=Aside0.mk ((by rw [hg];exact (below_size (by repeat (first | (with_reducible first | exact HB.out | apply below_alloc | apply pw_below_drewN | apply below_drew1) | exact HB.out))):w.heap.size ≤ gb197));clear HB;have HB:=n0_;have BK197:=n1_;have GW197:=n2_;have GE197:=n3_;clear n0_ n1_ n2_ n3_;clear hb hbox hg) | ((with_reducible refine gate_dst (N:=3) rfl ?_);refine box_event ?hg (N:=3) ?hd (cs:=#[.int .i64 a1_0,.int .i64 a1_1,.slice A1_2 l1_2.length c1_2]) (t:=25) ?hr ?_;(case hd=>rfl);(case hg=>rfl);(case hr=>first | (go_simp;done) | (go_simp;rfl));intro gb198 hg w13 hbox hb;have n0_:=Aside0.mk (blk_below (g:=gb197) (o:=.cells #[.int .i64 a0_0,.int .i64 a0_1,.slice A0_2 l0_2.length c0_2] 25 (0,0)) (by (with_reducible repeat (first | refine blk_drewN ?_ _ | refine blk_drew ?_ | refine blk_alloc ?_ _));exact BK197.out) hb);have n1_:=Aside0.mk (below_step (by repeat (first | (with_reducible first | exact HB.out | apply below_alloc | apply pw_below_drewN | apply below_drew1 | refine below_set ?_ GE197.out) | exact HB.out)) hb);have n2_:=Aside0.mk (hbox);have n3_:=Aside0.mk ((by rw [hg];exact (below_size (by repeat (first | (with_reducible first | exact HB.out | apply below_alloc | apply pw_below_drewN | apply below_drew1 | refine below_set ?_ GE197.out) | exact HB.out))):w.heap.size ≤ gb198));have n4_:=Aside0.mk ((by rw [hg];exact (below_size (by repeat (first | (with_reducible first | exact HB.out | apply below_alloc | apply pw_below_drewN | apply below_drew1 | refine below_set ?_ GE197.out) | exact HB.out))):w.heap.size ≤ gb198));have n5_:=Aside0.mk ((by rw [hg];exact Nat.ne_of_lt (blk_lt (g:=gb197) (o:=.cells #[.int .i64 a0_0,.int .i64 a0_1,.slice A0_2 l0_2.length c0_2] 25 (0,0)) (by (with_reducible repeat (first | refine blk_drewN ?_ _ | refine blk_drew ?_ | refine blk_alloc ?_ _));exact BK197.out)):gb197 ≠ gb198));have n6_:=Aside0.mk ((by rw [hg];exact Nat.ne_of_gt (blk_lt (g:=gb197) (o:=.cells #[.int .i64 a0_0,.int .i64 a0_1,.slice A0_2 l0_2.length c0_2] 25 (0,0)) (by (with_reducible repeat (first | refine blk_drewN ?_ _ | refine blk_drew ?_ | refine blk_alloc ?_ _));exact BK197.out)):gb198 ≠ gb197));clear BK197;clear HB;have BK197:=n0_;have HB:=n1_;have BK198:=n2_;have GW198:=n3_;have GE198:=n4_;have NB197_198:=n5_;have NB198_197:=n6_;clear n0_ n1_ n2_ n3_ n4_ n5_ n6_;clear hb hbox hg))
  have n0_:=Aside0.mk (blk_drew BK197.out)
  have n1_:=Aside0.mk (blk_drew BK198.out)
  have n2_:=Aside0.mk (below_drew1 HB.out)
  clear BK197
  clear BK198
  clear HB
  have BK197:=n0_
  have BK198:=n1_
  have HB:=n2_
  clear n0_ n1_ n2_
  refine start_ (n:=12) (S:=fun w'=>w'.cell? ⟨gb197,0,none⟩ = some (.int .i64 a0_0)∧w'.cell? ⟨gb197,1,none⟩ = some (.int .i64 a0_1)∧w'.cell? ⟨gb197,2,none⟩ = some (.slice A0_2 l0_2.length c0_2)∧w'.cell? ⟨gb198,0,none⟩ = some (.int .i64 a1_0)∧w'.cell? ⟨gb198,1,none⟩ = some (.int .i64 a1_1)∧w'.cell? ⟨gb198,2,none⟩ = some (.slice A1_2 l1_2.length c1_2)) (ds:=[]) #[false,false,false,false,false,false,false,false,false,false,false,false] (by kernel_rfl) rfl rfl ⟨(blk_cell BK197.out 0).trans rfl,(blk_cell BK197.out 1).trans rfl,(blk_cell BK197.out 2).trans rfl,(blk_cell BK198.out 0).trans rfl,(blk_cell BK198.out 1).trans rfl,(blk_cell BK198.out 2).trans rfl⟩ (fun hHeld=>?_);refine with_tabW impl_under.tab1 impl_under.bits1 (fun HT_ HW_=>?_)
  generalize w13.drew = w14 at BK197 BK198 HB hHeld ⊢
  refine take_ (i:=0) (N:=some 5) (v:=?_) (a':=?_) #[true,false,false,false,false,false,false,false,false,false,false,false] rfl rfl (take_ofW HT_.out HW_.out (by kernel_rfl)) (fun _ _ _ h=>h) (Or.inl ⟨by rfl,?_⟩) hHeld ?_ ?_
  rotate_left;·rintro w' ⟨s0,s1,s2,s3,s4,s5⟩;go_simp;with_reducible rfl
  rotate_left;·simp only [Act.put,List.setIfInBounds_toArray,List.set_cons_zero,List.set_cons_succ,i64_w,i32_w];rfl
  refine take_ (i:=2) (N:=some 7) (v:=?_) (a':=?_) #[true,false,true,false,false,false,false,false,false,false,false,false] rfl rfl (take_ofW HT_.out HW_.out (by kernel_rfl)) (fun _ _ _ h=>h) (Or.inl ⟨by rfl,?_⟩) hHeld ?_ ?_
  rotate_left;·rintro w' ⟨s0,s1,s2,s3,s4,s5⟩;go_simp;with_reducible rfl
  rotate_left;·simp only [Act.put,List.setIfInBounds_toArray,List.set_cons_zero,List.set_cons_succ,i64_w,i32_w];rfl
  refine one_ (i:=1) (N:=some 6) #[true,true,true,false,false,false,false,false,false,false,false,false] rfl rfl (one_of HT_.out (by kernel_rfl)) (by decide) (fun K hK=>?_)
  refine goes_ Tryd.func46 (by kernel_rfl) rfl #[.agg #[.int .i64 a0_0,.int .i64 a0_1,.slice A0_2 l0_2.length c0_2]] (by rfl) rfl rfl (by (try simp only [List.map_toArray,List.map_cons,List.map_nil]);first | done | rfl | (simp only [List.length_drop,List.length_take];rfl)) ?_
  with_reducible refine (impl_sealText.calls k a0_0 a0_1 _ _ l0_2 t199 _ ?side1 ?side2 A3.out).mono ?_
  (case side1=>repeat (first | exact (Kd.C_below HR0_2.out HB.out) | (with_reducible refine Kd.C_alloc ?_ _) | (with_reducible refine Kd.C_drewN ?_ _) | (with_reducible refine Kd.C_drew ?_)))
  (case side2=>exact HC0_2.out)
  rintro e w15 ⟨rfl,hb⟩
  refine ⟨_,rfl,?_⟩
  have n0_:=Aside0.mk (blk_below (g:=gb197) (o:=.cells #[.int .i64 a0_0,.int .i64 a0_1,.slice A0_2 l0_2.length c0_2] 25 (0,0)) (by (with_reducible repeat (first | refine blk_drewN ?_ _ | refine blk_drew ?_ | refine blk_alloc ?_ _));exact BK197.out) hb)
  have n1_:=Aside0.mk (blk_below (g:=gb198) (o:=.cells #[.int .i64 a1_0,.int .i64 a1_1,.slice A1_2 l1_2.length c1_2] 25 (0,0)) (by (with_reducible repeat (first | refine blk_drewN ?_ _ | refine blk_drew ?_ | refine blk_alloc ?_ _));exact BK198.out) hb)
  have n2_:=Aside0.mk (below_step (by repeat (first | (with_reducible first | exact HB.out | apply below_alloc | apply pw_below_drewN | apply below_drew1 | refine below_set ?_ GE197.out | refine below_set ?_ GE198.out) | exact HB.out)) hb)
  clear BK197
  clear BK198
  clear HB
  have BK197:=n0_
  have BK198:=n1_
  have HB:=n2_
  clear n0_ n1_ n2_
  (try clear hb)
  (try clear hb2)
  (try clear hk)
  (try clear hi)
  refine hK.out _ _ ⟨(blk_cell BK197.out 0).trans rfl,(blk_cell BK197.out 1).trans rfl,(blk_cell BK197.out 2).trans rfl,(blk_cell BK198.out 0).trans rfl,(blk_cell BK198.out 1).trans rfl,(blk_cell BK198.out 2).trans rfl⟩ (fun hHeld=>?_)
  clear hK K
  refine norm_ (a':=?_) ?_ ?_
  rotate_left
  ·show Act.put _ (some 6) _ = _
   simp only [Act.put,List.setIfInBounds_toArray,List.set_cons_zero,List.set_cons_succ,i64_w,i32_w]
   rfl
  refine one_ (i:=3) (N:=some 8) #[true,true,true,true,false,false,false,false,false,false,false,false] rfl rfl (one_of HT_.out (by kernel_rfl)) (by decide) (fun K hK=>?_)
  refine goes_ Tryd.func46 (by kernel_rfl) rfl #[.agg #[.int .i64 a1_0,.int .i64 a1_1,.slice A1_2 l1_2.length c1_2]] (by rfl) rfl rfl (by (try simp only [List.map_toArray,List.map_cons,List.map_nil]);first | done | rfl | (simp only [List.length_drop,List.length_take];rfl)) ?_
  with_reducible refine (impl_sealText.calls k a1_0 a1_1 _ _ l1_2 t200 _ ?side1 ?side2 A4.out).mono ?_
  (case side1=>repeat (first | exact (Kd.C_below HR1_2.out HB.out) | (with_reducible refine Kd.C_alloc ?_ _) | (with_reducible refine Kd.C_drewN ?_ _) | (with_reducible refine Kd.C_drew ?_)))
  (case side2=>exact HC1_2.out)
  rintro e w16 ⟨rfl,hb⟩
  refine ⟨_,rfl,?_⟩
  have n0_:=Aside0.mk (blk_below (g:=gb197) (o:=.cells #[.int .i64 a0_0,.int .i64 a0_1,.slice A0_2 l0_2.length c0_2] 25 (0,0)) (by (with_reducible repeat (first | refine blk_drewN ?_ _ | refine blk_drew ?_ | refine blk_alloc ?_ _));exact BK197.out) hb)
  have n1_:=Aside0.mk (blk_below (g:=gb198) (o:=.cells #[.int .i64 a1_0,.int .i64 a1_1,.slice A1_2 l1_2.length c1_2] 25 (0,0)) (by (with_reducible repeat (first | refine blk_drewN ?_ _ | refine blk_drew ?_ | refine blk_alloc ?_ _));exact BK198.out) hb)
  have n2_:=Aside0.mk (below_step (by repeat (first | (with_reducible first | exact HB.out | apply below_alloc | apply pw_below_drewN | apply below_drew1 | refine below_set ?_ GE197.out | refine below_set ?_ GE198.out) | exact HB.out)) hb)
  clear BK197
  clear BK198
  clear HB
  have BK197:=n0_
  have BK198:=n1_
  have HB:=n2_
  clear n0_ n1_ n2_
  (try clear hb)
  (try clear hb2)
  (try clear hk)
  (try clear hi)
  refine hK.out _ _ ⟨(blk_cell BK197.out 0).trans rfl,(blk_cell BK197.out 1).trans rfl,(blk_cell BK197.out 2).trans rfl,(blk_cell BK198.out 0).trans rfl,(blk_cell BK198.out 1).trans rfl,(blk_cell BK198.out 2).trans rfl⟩ (fun hHeld=>?_)
  clear hK K
  refine norm_ (a':=?_) ?_ ?_
  rotate_left
  ·show Act.put _ (some 8) _ = _
   simp only [Act.put,List.setIfInBounds_toArray,List.set_cons_zero,List.set_cons_succ,i64_w,i32_w]
   rfl
  refine pure_ (i:=4) (N:=some 9) (v:=?_) (a':=?_) #[true,true,true,true,true,false,false,false,false,false,false,false] rfl rfl (any_of HT_.out (by kernel_rfl)) (fun _ _ _ h=>h) (Or.inl ⟨by rfl,?_⟩) ?_ ?_
  rotate_left;·intro w';go_simp;with_reducible rfl
  rotate_left;·simp only [Act.put,List.setIfInBounds_toArray,List.set_cons_zero,List.set_cons_succ,i64_w,i32_w];rfl
  refine pure_ (i:=5) (N:=some 10) (v:=?_) (a':=?_) #[true,true,true,true,true,true,false,false,false,false,false,false] rfl rfl (any_of HT_.out (by kernel_rfl)) (fun _ _ _ h=>h) (Or.inl ⟨by rfl,?_⟩) ?_ ?_
  rotate_left;·intro w';go_simp;with_reducible rfl
  rotate_left;·simp only [Act.put,List.setIfInBounds_toArray,List.set_cons_zero,List.set_cons_succ,i64_w,i32_w];rfl
  refine pure_ (i:=6) (N:=some 11) (v:=?_) (a':=?_) #[true,true,true,true,true,true,true,false,false,false,false,false] rfl rfl (any_of HT_.out (by kernel_rfl)) (fun _ _ _ h=>h) (Or.inl ⟨by rfl,?_⟩) ?_ ?_
  rotate_left;·intro w';go_simp;with_reducible rfl
  rotate_left;·simp only [Act.put,List.setIfInBounds_toArray,List.set_cons_zero,List.set_cons_succ,i64_w,i32_w];rfl
  refine take_ (i:=7) (N:=some 12) (v:=?_) (a':=?_) #[true,true,true,true,true,true,true,true,false,false,false,false] rfl rfl (take_ofW HT_.out HW_.out (by kernel_rfl)) (fun _ _ _ h=>h) (Or.inl ⟨by rfl,?_⟩) hHeld ?_ ?_
  rotate_left;·rintro w' ⟨s0,s1,s2,s3,s4,s5⟩;go_simp;with_reducible rfl
  rotate_left;·simp only [Act.put,List.setIfInBounds_toArray,List.set_cons_zero,List.set_cons_succ,i64_w,i32_w];rfl
  refine pure_ (i:=8) (N:=some 13) (v:=?_) (a':=?_) #[true,true,true,true,true,true,true,true,true,false,false,false] rfl rfl (any_of HT_.out (by kernel_rfl)) (fun _ _ _ h=>h) (Or.inl ⟨by rfl,?_⟩) ?_ ?_
  rotate_left;·intro w';go_simp;with_reducible rfl
  rotate_left;·simp only [Act.put,List.setIfInBounds_toArray,List.set_cons_zero,List.set_cons_succ,i64_w,i32_w];rfl
  refine one_ (i:=9) (N:=some 14) #[true,true,true,true,true,true,true,true,true,true,false,false] rfl rfl (one_of HT_.out (by kernel_rfl)) (by decide) (fun K hK=>?_)
  refine goes_ Tryd.func60 (by kernel_rfl) rfl #[.slice A1_2 l1_2.length c1_2,.func (.func 61) #[] #[.pointer (some ⟨gb197,0,none⟩)]] (by rfl) rfl rfl (by (try simp only [List.map_toArray,List.map_cons,List.map_nil]);first | done | rfl | (simp only [List.length_drop,List.length_take];rfl)) ?_
  with_reducible refine (ihS k (Nat.le_refl _) gb197 _ _ l1_2 a0_0 a0_1 A0_2 c0_2 l0_2 t201 _ ?side0 ?side1 ?side2 ?side3 ?side4 A11.out).mono ?_
  (case side0=>(with_reducible repeat (first | refine blk_drewN ?_ _ | refine blk_drew ?_ | refine blk_alloc ?_ _));exact BK197.out)
  (case side1=>repeat (first | exact (Kd.C_below HR1_2.out HB.out) | (with_reducible refine Kd.C_alloc ?_ _) | (with_reducible refine Kd.C_drewN ?_ _) | (with_reducible refine Kd.C_drew ?_)))
  (case side2=>exact HC1_2.out)
  (case side3=>repeat (first | exact (Kd.C_below HR0_2.out HB.out) | (with_reducible refine Kd.C_alloc ?_ _) | (with_reducible refine Kd.C_drewN ?_ _) | (with_reducible refine Kd.C_drew ?_)))
  (case side4=>exact HC0_2.out)
  rintro e w17 ⟨rfl,hb⟩
  refine ⟨_,rfl,?_⟩
  have n0_:=Aside0.mk (blk_below (g:=gb197) (o:=.cells #[.int .i64 a0_0,.int .i64 a0_1,.slice A0_2 l0_2.length c0_2] 25 (0,0)) (by (with_reducible repeat (first | refine blk_drewN ?_ _ | refine blk_drew ?_ | refine blk_alloc ?_ _));exact BK197.out) hb)
  have n1_:=Aside0.mk (blk_below (g:=gb198) (o:=.cells #[.int .i64 a1_0,.int .i64 a1_1,.slice A1_2 l1_2.length c1_2] 25 (0,0)) (by (with_reducible repeat (first | refine blk_drewN ?_ _ | refine blk_drew ?_ | refine blk_alloc ?_ _));exact BK198.out) hb)
  have n2_:=Aside0.mk (below_step (by repeat (first | (with_reducible first | exact HB.out | apply below_alloc | apply pw_below_drewN | apply below_drew1 | refine below_set ?_ GE197.out | refine below_set ?_ GE198.out) | exact HB.out)) hb)
  clear BK197
  clear BK198
  clear HB
  have BK197:=n0_
  have BK198:=n1_
  have HB:=n2_
  clear n0_ n1_ n2_
  (try clear hb)
  (try clear hb2)
  (try clear hk)
  (try clear hi)
  refine hK.out _ _ ⟨(blk_cell BK197.out 0).trans rfl,(blk_cell BK197.out 1).trans rfl,(blk_cell BK197.out 2).trans rfl,(blk_cell BK198.out 0).trans rfl,(blk_cell BK198.out 1).trans rfl,(blk_cell BK198.out 2).trans rfl⟩ (fun hHeld=>?_)
  clear hK K
  refine norm_ (a':=?_) ?_ ?_
  rotate_left
  ·show Act.put _ (some 14) _ = _
   simp only [Act.put,List.setIfInBounds_toArray,List.set_cons_zero,List.set_cons_succ,i64_w,i32_w]
   rfl
  refine pure_ (i:=10) (N:=some 15) (v:=?_) (a':=?_) #[true,true,true,true,true,true,true,true,true,true,true,false] rfl rfl (any_of HT_.out (by kernel_rfl)) (fun _ _ _ h=>h) (Or.inl ⟨by rfl,?_⟩) ?_ ?_
  rotate_left;·intro w';go_simp;with_reducible rfl
  rotate_left;·simp only [Act.put,List.setIfInBounds_toArray,List.set_cons_zero,List.set_cons_succ,i64_w,i32_w];rfl
  refine pure_ (i:=11) (N:=some 4) (v:=?_) (a':=?_) #[true,true,true,true,true,true,true,true,true,true,true,true] rfl rfl (any_of HT_.out (by kernel_rfl)) (fun _ _ _ h=>h) (Or.inl ⟨by rfl,?_⟩) ?_ ?_
  rotate_left;·intro w';go_simp;with_reducible rfl
  rotate_left;·simp only [Act.put,List.setIfInBounds_toArray,List.set_cons_zero,List.set_cons_succ,i64_w,i32_w];rfl
  refine done_ (done_of HT_.out (by kernel_rfl)) ?_
  try go_wp2
  go_ret
  exact ⟨by first | rfl | (simp [errW_none,errW_some] <;> rfl) | (simp [*,errW_none,errW_some] <;> rfl),by repeat (first | (with_reducible first | exact HB.out | apply below_alloc | apply pw_below_drewN | apply below_drew1 | refine below_set ?_ GE197.out | refine below_set ?_ GE198.out) | exact HB.out)⟩
theorem impl_under.calls_if (k:Nat) (ihS:∀ j_,j_ + 1 ≤ k → impl_underAny.Con j_) (a0_0:Int) (a0_1:Int) (A0_2:Option Addr) (c0_2:Nat) (l0_2:List (S25)) (a1_0:Int) (a1_1:Int) (A1_2:Option Addr) (c1_2:Nat) (l1_2:List (S25)) (r:Bool) (w:World) (hr0_2:Kd.C k25 w A0_2 l0_2.length l0_2) (hc0_2:l0_2.length ≤ c0_2) (hr1_2:Kd.C k25 w A1_2 l1_2.length l1_2) (hc1_2:l1_2.length ≤ c1_2) (h:impl_under.f k a0_0 a0_1 l0_2 a1_0 a1_1 l1_2 = some r) :
  Calls Tryd.prog 47 #[.agg #[.int .i64 a0_0,.int .i64 a0_1,.slice A0_2 l0_2.length c0_2],.agg #[.int .i64 a1_0,.int .i64 a1_1,.slice A1_2 l1_2.length c1_2]] w fun e w'=>e = .returned (.bool r)∧Below w.heap.size w w':=by
 cases k with
 | zero=>exact absurd h (by simp [impl_under.f])
 | succ k =>
  simp only [impl_under.f] at h
  exact impl_under.calls_of k (fun j_ hj_=>ihS j_ (by omega)) a0_0 a0_1 A0_2 c0_2 l0_2 a1_0 a1_1 A1_2 c1_2 l1_2 r w hr0_2 hc0_2 hr1_2 hc1_2 h
set_option maxHeartbeats 8000000 in
set_option maxRecDepth 100000 in
theorem underP (k:Nat) (ihS:∀ j_,j_ + 1 ≤ k → impl_underAny.Con j_) (g:Nat) (m0 m1:Int) (A:Option Addr) (c:Nat) (l2:List S25) (w:World) (hbox:w.heap[g]? = some (.cells #[.int .i64 m0,.int .i64 m1,.slice A l2.length c] 25 (0,0))) (hr1:Kd.C k25 w A l2.length l2) (hc1:l2.length ≤ c) :
  Pred25 61 #[.pointer (some ⟨g,0,none⟩)] (fun x=>impl_under.f k m0 m1 l2 x.f0 x.f1 x.f2) w:=by
 intro x A' c' b W hB hC hc hp
 have BK0:=Aside0.mk (blk_below hbox hB)
 have hcall:=fun W' (h:Below W.heap.size W W')=>impl_under.calls_if k ihS m0 m1 A c l2 x.f0 x.f1 A' c' x.f2 b W' (Kd.C_below (Kd.C_below hr1 hB) h) hc1 (Kd.C_below hC h) hc hp
 obtain ⟨a0,a1,k2⟩:=x
 dsimp only at hcall ⊢
 clear hC hc hp ihS hB hr1 hbox
 have HB:=Aside0.mk (Below.refl W.heap.size W)
 have hu25:=Tryd.underlying25
 show Calls Tryd.prog 61 #[.agg #[.int .i64 a0,.int .i64 a1,.slice A' k2.length c'],.pointer (some ⟨g,0,none⟩)] W _
 go_enter Tryd.func61,Tryd.ntmps61
 go_wp2_with (first | ((with_reducible refine gate_dst (N:=2) rfl ?_);refine box_event ?hg (N:=2) ?hd (cs:=#[.int .i64 a0,.int .i64 a1,.slice A' k2.length c']) (t:=25) ?hr ?_;(case hd=>rfl);(case hg=>rfl);(case hr=>first | (go_simp;done) | (go_simp;rfl));intro gb hg w5 hbox hb;have n0_:=Aside0.mk (below_step HB.out hb);have BK:=Aside0.mk hbox;have BK1:=Aside0.mk (blk_below BK0.out hb);clear HB;have HB:=n0_;clear n0_ hb hbox hg;have hcz0:w5.cell? ⟨gb,0,none⟩ = some (.int .i64 a0):=(blk_cell BK.out 0).trans rfl;have hcz1:w5.cell? ⟨gb,1,none⟩ = some (.int .i64 a1):=(blk_cell BK.out 1).trans rfl;have hcz2:w5.cell? ⟨gb,2,none⟩ = some (.slice A' k2.length c'):=(blk_cell BK.out 2).trans rfl;have hcy0:w5.cell? ⟨g,0,none⟩ = some (.int .i64 m0):=(blk_cell BK1.out 0).trans rfl;have hcy1:w5.cell? ⟨g,1,none⟩ = some (.int .i64 m1):=(blk_cell BK1.out 1).trans rfl;have hcy2:w5.cell? ⟨g,2,none⟩ = some (.slice A l2.length c):=(blk_cell BK1.out 2).trans rfl) | (go_at_call 47;(with_reducible refine (hcall _ HB.out).mono ?_);rintro e w' ⟨rfl,hb'⟩))
 go_ret
 exact ⟨rfl,below_step HB.out hb'⟩
set_option maxRecDepth 100000 in
theorem impl_underAny.calls (k:Nat):impl_underAny.Con k:=by
 induction k using Nat.strongRecOn with
 | _ k ih =>
 intro g A0 c0 l0 m0 m1 A c l2 r w hbox hr0 hc0 hr1 hc1 h
 cases k with
 | zero=>exact absurd h (by simp [impl_underAny.f])
 | succ k =>
  simp only [impl_underAny.f] at h
  exact any25 61 #[.pointer (some ⟨g,0,none⟩)] (fun args w=>by rfl) _ A0 c0 l0 w (underP k (fun j_ hj_=>ih j_ (by omega)) g m0 m1 A c l2 w hbox hr1 hc1) hr0 hc0 r h
theorem impl_under.calls (k:Nat) (a0_0:Int) (a0_1:Int) (A0_2:Option Addr) (c0_2:Nat) (l0_2:List (S25)) (a1_0:Int) (a1_1:Int) (A1_2:Option Addr) (c1_2:Nat) (l1_2:List (S25)) (r:Bool) (w:World) (hr0_2:Kd.C k25 w A0_2 l0_2.length l0_2) (hc0_2:l0_2.length ≤ c0_2) (hr1_2:Kd.C k25 w A1_2 l1_2.length l1_2) (hc1_2:l1_2.length ≤ c1_2) (h:impl_under.f k a0_0 a0_1 l0_2 a1_0 a1_1 l1_2 = some r) :
  Calls Tryd.prog 47 #[.agg #[.int .i64 a0_0,.int .i64 a0_1,.slice A0_2 l0_2.length c0_2],.agg #[.int .i64 a1_0,.int .i64 a1_1,.slice A1_2 l1_2.length c1_2]] w fun e w'=>e = .returned (.bool r)∧Below w.heap.size w w' :=
 impl_under.calls_if k (fun j_ _=>impl_underAny.calls j_) a0_0 a0_1 A0_2 c0_2 l0_2 a1_0 a1_1 A1_2 c1_2 l1_2 r w hr0_2 hc0_2 hr1_2 hc1_2 h
end Go.Proofs.YtbcjpdahdecehaaDoor.P
