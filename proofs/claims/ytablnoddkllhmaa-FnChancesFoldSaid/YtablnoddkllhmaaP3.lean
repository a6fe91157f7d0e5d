/- What the Go functions that the laws reach compute, and that their calls come to just that: told by a program of this session (aprint.py). No condition. -/
import Derived.Test.YtablnoddkllhmaaP0
import Derived.Test.YtablnoddkllhmaaP1
import Derived.Test.YtablnoddkllhmaaP2
import Derived.Test.YtablnoddkllhmaaHClasses
namespace Go.Proofs.Ytablnoddkllhmaa.P
open Go.RowKit Go.Proofs.YtablnoddkllhmaaW.PrintWords Go.Proofs.YtablnoddkllhmaaW.PrintLast Go.Proofs.YtablnoddkllhmaaW.PrintMore
attribute [local go_sem] max2_int min2_int max_two min_two max_three min_three max_four min_four
set_option linter.unusedVariables false
set_option linter.unusedSimpArgs false
mutual
def impl_ChancesFold.l0:Nat → List Int → List Int → Int → Int → List Int → List (List Int) → List Int → List (List Int) → Option (List Int × (List (List Int)) × Bool)
 | 0,_,_,_,_,_,_,_,_=>none
 | k + 1,x4,x19,x20,x21,x206000,x206001,x212000,x212001=>if x21 < x20 then (if 0 ≤ x21 then (if x21 < (x19.length:Int) then (if (rd x19 x21) = x21 then ((impl_sums.f k x206000 x206001 x4 x21).bind fun t216=>(impl_ChancesFold.l1 k x4 x21 (([]:List Int)) t216 x19 x20 x21 x4 (x4.length:Int) 0 x206000 x206001 x212000 x212001)) else (impl_ChancesFold.l0 k x4 x19 x20 (wrap64 (x21 + 1)) x206000 x206001 x212000 x212001)) else (none)) else (none)) else (some (x212000,x212001,true))
def impl_ChancesFold.l1:Nat → List Int → Int → List Int → List Int → List Int → Int → Int → List Int → Int → Int → List Int → List (List Int) → List Int → List (List Int) → Option (List Int × (List (List Int)) × Bool)
 | 0,_,_,_,_,_,_,_,_,_,_,_,_,_,_=>none
 | k + 1,x4,x6,x8,x9,x19,x20,x21,x34,x35,x36,x206000,x206001,x212000,x212001=>if x36 < x35 then (if 0 ≤ x36 then (if x36 < (x34.length:Int) then (if (rd x34 x36) = x36 then (if x36 < (x9.length:Int) then (if x8.length < 17592186044416 then (impl_ChancesFold.l1 k x4 x6 (x8 ++ [rd x9 x36]) x9 x19 x20 x21 x34 x35 (wrap64 (x36 + 1)) x206000 x206001 x212000 x212001) else (none)) else (none)) else (impl_ChancesFold.l1 k x4 x6 x8 x9 x19 x20 x21 x34 x35 (wrap64 (x36 + 1)) x206000 x206001 x212000 x212001)) else (none)) else (none)) else (if 0 ≤ x6 then (if x6 < (x206000.length:Int) then (if x212000.length < 17592186044416 then (if x212001.length < 5864062014805 then (impl_ChancesFold.l0 k x4 x19 x20 (wrap64 (x21 + 1)) x206000 x206001 (x212000 ++ [rd x206000 x6]) (x212001 ++ [x8])) else (none)) else (none)) else (none)) else (none))
end
def impl_ChancesFold.f (k:Nat) (l0_0:List Int) (l0_1:List (List Int)):Option (List Int × (List (List Int)) × Bool):=(impl_ChancesOk.f k l0_0 l0_1).bind fun t207=>(if t207 = true then ((impl_chanceClasses.f k l0_0 l0_1).bind fun t208=>(impl_ChancesFold.l0 k t208 t208 (t208.length:Int) 0 l0_0 l0_1 ([]:List Int) ([]:List (List Int)))) else (some (([]:List Int),([]:List (List Int)),false)))
theorem impl_ChancesFold.mono_l:∀ k,(∀ y0 y1 y2 y3 y4 y5 y6 y7,LeO (impl_ChancesFold.l0 k y0 y1 y2 y3 y4 y5 y6 y7) (impl_ChancesFold.l0 (k + 1) y0 y1 y2 y3 y4 y5 y6 y7))∧(∀ y0 y1 y2 y3 y4 y5 y6 y7 y8 y9 y10 y11 y12 y13,LeO (impl_ChancesFold.l1 k y0 y1 y2 y3 y4 y5 y6 y7 y8 y9 y10 y11 y12 y13) (impl_ChancesFold.l1 (k + 1) y0 y1 y2 y3 y4 y5 y6 y7 y8 y9 y10 y11 y12 y13))
 | 0=>⟨fun _ _ _ _ _ _ _ _ r h=>by simp [impl_ChancesFold.l0] at h,fun _ _ _ _ _ _ _ _ _ _ _ _ _ _ r h=>by simp [impl_ChancesFold.l1] at h⟩
 | k + 1=>by
  obtain ⟨ih0,ih1⟩:=impl_ChancesFold.mono_l k
  refine ⟨?_,?_⟩
  ·intro y0 y1 y2 y3 y4 y5 y6 y7
   unfold impl_ChancesFold.l0
   repeat' first
   | (with_reducible exact ih0 _ _ _ _ _ _ _ _)
   | (with_reducible exact ih1 _ _ _ _ _ _ _ _ _ _ _ _ _ _)
   | (with_reducible exact impl_ChancesOk.mono _ _ _)
   | (with_reducible exact impl_chanceClasses.mono _ _ _)
   | (with_reducible exact impl_sums.mono _ _ _ _ _)
   | (with_reducible exact LeO.refl _)
   | (with_reducible exact LeO.none _)
   | (with_reducible refine LeO.ite ?_ ?_)
   | (with_reducible refine LeO.bind ?_ (fun _=>?_))
   | exact ih0 _ _ _ _ _ _ _ _
   | exact ih1 _ _ _ _ _ _ _ _ _ _ _ _ _ _
   | exact impl_ChancesOk.mono _ _ _
   | exact impl_chanceClasses.mono _ _ _
   | exact impl_sums.mono _ _ _ _ _
   | exact LeO.none _
   | refine LeO.ite ?_ ?_
   | refine LeO.bind ?_ (fun _=>?_)
  ·intro y0 y1 y2 y3 y4 y5 y6 y7 y8 y9 y10 y11 y12 y13
   unfold impl_ChancesFold.l1
   repeat' first
   | (with_reducible exact ih0 _ _ _ _ _ _ _ _)
   | (with_reducible exact ih1 _ _ _ _ _ _ _ _ _ _ _ _ _ _)
   | (with_reducible exact impl_ChancesOk.mono _ _ _)
   | (with_reducible exact impl_chanceClasses.mono _ _ _)
   | (with_reducible exact impl_sums.mono _ _ _ _ _)
   | (with_reducible exact LeO.refl _)
   | (with_reducible exact LeO.none _)
   | (with_reducible refine LeO.ite ?_ ?_)
   | (with_reducible refine LeO.bind ?_ (fun _=>?_))
   | exact ih0 _ _ _ _ _ _ _ _
   | exact ih1 _ _ _ _ _ _ _ _ _ _ _ _ _ _
   | exact impl_ChancesOk.mono _ _ _
   | exact impl_chanceClasses.mono _ _ _
   | exact impl_sums.mono _ _ _ _ _
   | exact LeO.none _
   | refine LeO.ite ?_ ?_
   | refine LeO.bind ?_ (fun _=>?_)
theorem impl_ChancesFold.mono:∀ a0 a1 k,LeO (impl_ChancesFold.f k a0 a1) (impl_ChancesFold.f (k + 1) a0 a1):=by
 intro a0 a1 k
 obtain ⟨ih0,ih1⟩:=impl_ChancesFold.mono_l k
 unfold impl_ChancesFold.f
 repeat' first
   | (with_reducible exact ih0 _ _ _ _ _ _ _ _)
   | (with_reducible exact ih1 _ _ _ _ _ _ _ _ _ _ _ _ _ _)
   | (with_reducible exact impl_ChancesOk.mono _ _ _)
   | (with_reducible exact impl_chanceClasses.mono _ _ _)
   | (with_reducible exact impl_sums.mono _ _ _ _ _)
   | (with_reducible exact LeO.refl _)
   | (with_reducible exact LeO.none _)
   | (with_reducible refine LeO.ite ?_ ?_)
   | (with_reducible refine LeO.bind ?_ (fun _=>?_))
   | exact ih0 _ _ _ _ _ _ _ _
   | exact ih1 _ _ _ _ _ _ _ _ _ _ _ _ _ _
   | exact impl_ChancesOk.mono _ _ _
   | exact impl_chanceClasses.mono _ _ _
   | exact impl_sums.mono _ _ _ _ _
   | exact LeO.none _
   | refine LeO.ite ?_ ?_
   | refine LeO.bind ?_ (fun _=>?_)
def impl_ChancesFold.T15:Bool × List (List Nat × List Nat):=(true,[([],[]),([0],[0]),([],[]),([2],[2]),([],[]),([3,4],[3,4]),([5],[5]),([6],[6]),([1,7],[1,7]),([0,1,2,3,4,5,6,7,8],[]),([9,8,8,0,1,2,3,4,5,6,7,8],[8,9])])
def impl_ChancesFold.B15:List Nat:=[0,1,0,4,0,28,60,124,255,511,1023]
theorem impl_ChancesFold.tab15:rtab .any (opsOf Try.f19 15) = impl_ChancesFold.T15:=by kernel_rfl
theorem impl_ChancesFold.bits15:waitsOk impl_ChancesFold.T15.2 impl_ChancesFold.B15 = true:=by kernel_rfl
set_option maxHeartbeats 8000000 in
set_option maxRecDepth 100000 in
theorem impl_ChancesFold.calls (k:Nat) (A0_0:Option Addr) (c0_0:Nat) (l0_0:List Int) (A0_1:Option Addr) (c0_1:Nat) (l0_1:List (List Int)) (r1:List Int) (r2:List (List Int)) (r3:Bool) (w:World) (hr0_0:Kd.C (Kd.int .i64) w A0_0 l0_0.length l0_0) (hc0_0:l0_0.length ≤ c0_0) (hr0_1:Kd.C (Kd.slice 3 (Kd.int .i64)) w A0_1 l0_1.length l0_1) (hc0_1:l0_1.length ≤ c0_1) (h:impl_ChancesFold.f k l0_0 l0_1 = some (r1,r2,r3)) :
  Calls Try.prog 19 #[.agg #[.slice A0_0 l0_0.length c0_0,.slice A0_1 l0_1.length c0_1]] w fun e w'=>∃ v0_ v1_:Value,e = .returned (.tuple #[.agg #[v0_,v1_],.bool r3])∧Kd.R (Kd.int .i64) 3 w' w.heap.size (fun k_=>(w.heap.size ≤ k_)) v0_ r1∧Kd.N (Kd.slice 3 (Kd.int .i64)) 22 w' w.heap.size (fun k_=>(w.heap.size ≤ k_)∧some k_ ≠ (v0_:Value).ownBlock) v1_ r2∧Below w.heap.size w w':=by
 have hu28:=Try.underlying28
 have HR0_0:=Aside0.mk hr0_0
 have HC0_0:=Aside0.mk hc0_0
 clear hr0_0 hc0_0
 have HR0_1:=Aside0.mk hr0_1
 have HC0_1:=Aside0.mk hc0_1
 clear hr0_1 hc0_1
 have HB:=Aside0.mk (Below.refl w.heap.size w)
 have H:((impl_ChancesOk.f k l0_0 l0_1).bind fun t207=>(if t207 = true then ((impl_chanceClasses.f k l0_0 l0_1).bind fun t208=>(impl_ChancesFold.l0 k t208 t208 (t208.length:Int) 0 l0_0 l0_1 ([]:List Int) ([]:List (List Int)))) else (some (([]:List Int),([]:List (List Int)),false)))) = some (r1,r2,r3):=h
 clear h
 replace H:=Option.bind_eq_some_iff.mp H
 obtain ⟨t207,A20,H⟩:=H
 replace H:(if t207 = true then ((impl_chanceClasses.f k l0_0 l0_1).bind fun t208=>(impl_ChancesFold.l0 k t208 t208 (t208.length:Int) 0 l0_0 l0_1 ([]:List Int) ([]:List (List Int)))) else (some (([]:List Int),([]:List (List Int)),false))) = some (r1,r2,r3):=H
 have A2:=Aside0.mk A20
 clear A20
 by_cases c3:t207 = true
 ·subst c3
  have H1:((impl_chanceClasses.f k l0_0 l0_1).bind fun t208=>(impl_ChancesFold.l0 k t208 t208 (t208.length:Int) 0 l0_0 l0_1 ([]:List Int) ([]:List (List Int)))) = some (r1,r2,r3):=by rw [if_pos rfl] at H;exact H
  clear H
  have H:=H1
  clear H1
  replace H:=Option.bind_eq_some_iff.mp H
  obtain ⟨t208,A40,H⟩:=H
  replace H:(impl_ChancesFold.l0 k t208 t208 (t208.length:Int) 0 l0_0 l0_1 ([]:List Int) ([]:List (List Int))) = some (r1,r2,r3):=H
  have A4:=Aside0.mk A40
  clear A40
  have H':=Aside0.mk H
  clear H
  go_enter Try.func19,Try.ntmps19
  go_wp2_with (first | ((with_reducible refine gate_dst (N:=1) rfl ?_);refine box_event ?hg (N:=1) ?hd (cs:=#[.slice A0_0 l0_0.length c0_0,.slice A0_1 l0_1.length c0_1]) (t:=28) ?hr ?_;(case hd=>rfl);(case hg=>rfl);(case hr=>first | (go_simp;done) | (go_simp;rfl));intro gb205 hg w5 hbox hb;have n0_:=Aside0.mk (below_step (by repeat (with_reducible first | exact HB.out | apply below_alloc | apply pw_below_drewN | apply below_drew1)) hb);have n1_:=Aside0.mk (hbox);have n2_:=Aside0.mk ((by rw [hg];exact (below_size (by repeat (with_reducible first | exact HB.out | apply below_alloc | apply pw_below_drewN | apply below_drew1))):w.heap.size ≤ gb205));have n3_:=Aside0.mk ((by rw [hg];exact (below_size (by repeat (with_reducible first | exact HB.out | apply below_alloc | apply pw_below_drewN | apply below_drew1))):w.heap.size ≤ gb205));clear HB;have HB:=n0_;have BK205:=n1_;have GW205:=n2_;have GE205:=n3_;clear n0_ n1_ n2_ n3_;clear hb hbox hg) | ((with_reducible refine gate_dst (N:=2) rfl ?_);refine box_event ?hg (N:=2) ?hd (cs:=#[.slice none 0 0,.slice none 0 0]) (t:=28) ?hr ?_;(case hd=>rfl);(case hg=>rfl);(case hr=>first | (go_simp;done) | (go_simp;rfl));intro gb206 hg w6 hbox hb;have n0_:=Aside0.mk (blk_below (g:=gb205) (o:=.cells #[.slice A0_0 l0_0.length c0_0,.slice A0_1 l0_1.length c0_1] 28 (0,0)) (by (with_reducible repeat (first | refine blk_drewN ?_ _ | refine blk_drew ?_ | refine blk_alloc ?_ _));exact BK205.out) hb);have n1_:=Aside0.mk (below_step (by repeat (with_reducible first | exact HB.out | apply below_alloc | apply pw_below_drewN | apply below_drew1 | refine below_set ?_ GE205.out)) hb);have n2_:=Aside0.mk (hbox);have n3_:=Aside0.mk ((by rw [hg];exact (below_size (by repeat (with_reducible first | exact HB.out | apply below_alloc | apply pw_below_drewN | apply below_drew1 | refine below_set ?_ GE205.out))):w.heap.size ≤ gb206));have n4_:=Aside0.mk ((by rw [hg];exact (below_size (by repeat (with_reducible first | exact HB.out | apply below_alloc | apply pw_below_drewN | apply below_drew1 | refine below_set ?_ GE205.out))):w.heap.size ≤ gb206));have n5_:=Aside0.mk ((by rw [hg];exact Nat.ne_of_lt (blk_lt (g:=gb205) (o:=.cells #[.slice A0_0 l0_0.length c0_0,.slice A0_1 l0_1.length c0_1] 28 (0,0)) (by (with_reducible repeat (first | refine blk_drewN ?_ _ | refine blk_drew ?_ | refine blk_alloc ?_ _));exact BK205.out)):gb205 ≠ gb206));have n6_:=Aside0.mk ((by rw [hg];exact Nat.ne_of_gt (blk_lt (g:=gb205) (o:=.cells #[.slice A0_0 l0_0.length c0_0,.slice A0_1 l0_1.length c0_1] 28 (0,0)) (by (with_reducible repeat (first | refine blk_drewN ?_ _ | refine blk_drew ?_ | refine blk_alloc ?_ _));exact BK205.out)):gb206 ≠ gb205));clear BK205;clear HB;have BK205:=n0_;have HB:=n1_;have BK206:=n2_;have GW206:=n3_;have GE206:=n4_;have NB205_206:=n5_;have NB206_205:=n6_;clear n0_ n1_ n2_ n3_ n4_ n5_ n6_;clear hb hbox hg;have hnb7:=NB205_206.out;have hnc7:=NB206_205.out;have hcz8_0:w6.cell? ⟨gb205,0,none⟩ = some (.slice A0_0 l0_0.length c0_0):=(blk_cell BK205.out 0).trans rfl;have hcz8_1:w6.cell? ⟨gb205,1,none⟩ = some (.slice A0_1 l0_1.length c0_1):=(blk_cell BK205.out 1).trans rfl;have hfz8_0:=blk_frozen BK205.out 0;have hfz8_1:=blk_frozen BK205.out 1) | ((with_reducible refine gate_callee (f:=16) rfl ?_);refine goesL_ (some 13) rfl rfl Try.func16 (by kernel_rfl) rfl #[.agg #[.slice A0_0 l0_0.length c0_0,.slice A0_1 l0_1.length c0_1]] rfl (by (try simp only [List.map_toArray,List.map_cons,List.map_nil]);first | done | rfl | (simp only [List.length_drop,List.length_take];rfl)) ?_;(with_reducible refine (impl_ChancesOk.calls k _ _ l0_0 _ _ l0_1 true _ ?side1 ?side2 ?side3 ?side4 A2.out).mono ?_);(case side1=>repeat (first | exact (Kd.C_below HR0_0.out HB.out) | (with_reducible refine Kd.C_alloc ?_ _) | (with_reducible refine Kd.C_drewN ?_ _) | (with_reducible refine Kd.C_drew ?_)));(case side2=>exact HC0_0.out);(case side3=>repeat (first | exact (Kd.C_below HR0_1.out HB.out) | (with_reducible refine Kd.C_alloc ?_ _) | (with_reducible refine Kd.C_drewN ?_ _) | (with_reducible refine Kd.C_drew ?_)));(case side4=>exact HC0_1.out);rintro e w9 ⟨rfl,hb⟩;refine ⟨_,rfl,?_⟩;have n0_:=Aside0.mk (blk_below (g:=gb205) (o:=.cells #[.slice A0_0 l0_0.length c0_0,.slice A0_1 l0_1.length c0_1] 28 (0,0)) (by (with_reducible repeat (first | refine blk_drewN ?_ _ | refine blk_drew ?_ | refine blk_alloc ?_ _));exact BK205.out) hb);have n1_:=Aside0.mk (blk_below (g:=gb206) (o:=.cells #[.slice none 0 0,.slice none 0 0] 28 (0,0)) (by (with_reducible repeat (first | refine blk_drewN ?_ _ | refine blk_drew ?_ | refine blk_alloc ?_ _));exact BK206.out) hb);have n2_:=Aside0.mk (below_step (by repeat (with_reducible first | exact HB.out | apply below_alloc | apply pw_below_drewN | apply below_drew1 | refine below_set ?_ GE205.out | refine below_set ?_ GE206.out)) hb);clear BK205;clear BK206;clear HB;have BK205:=n0_;have BK206:=n1_;have HB:=n2_;clear n0_ n1_ n2_;(try clear hb);(try clear hb2);(try clear hk);(try clear hi);have hcz10_0:w9.cell? ⟨gb205,0,none⟩ = some (.slice A0_0 l0_0.length c0_0):=(blk_cell BK205.out 0).trans rfl;have hcz10_1:w9.cell? ⟨gb205,1,none⟩ = some (.slice A0_1 l0_1.length c0_1):=(blk_cell BK205.out 1).trans rfl;have hfz10_0:=blk_frozen BK205.out 0;have hfz10_1:=blk_frozen BK205.out 1) | ((with_reducible refine gate_callee (f:=46) rfl ?_);refine goesL_ (some 17) rfl rfl Try.func46 (by kernel_rfl) rfl #[.agg #[.slice A0_0 l0_0.length c0_0,.slice A0_1 l0_1.length c0_1]] rfl (by (try simp only [List.map_toArray,List.map_cons,List.map_nil]);first | done | rfl | (simp only [List.length_drop,List.length_take];rfl)) ?_;(with_reducible refine (impl_chanceClasses.calls k _ _ l0_0 _ _ l0_1 t208 _ ?side1 ?side2 ?side3 ?side4 A4.out).mono ?_);(case side1=>repeat (first | exact (Kd.C_below HR0_0.out HB.out) | (with_reducible refine Kd.C_alloc ?_ _) | (with_reducible refine Kd.C_drewN ?_ _) | (with_reducible refine Kd.C_drew ?_)));(case side2=>exact HC0_0.out);(case side3=>repeat (first | exact (Kd.C_below HR0_1.out HB.out) | (with_reducible refine Kd.C_alloc ?_ _) | (with_reducible refine Kd.C_drewN ?_ _) | (with_reducible refine Kd.C_drew ?_)));(case side4=>exact HC0_1.out);rintro e w11 ⟨v209,rfl,ho0,hb⟩;refine ⟨_,rfl,?_⟩;have n0_:=Aside0.mk (Kd.R_lower (Kd.R_newM (M:=fun k_=>(w.heap.size ≤ k_)) ho0 (below_size (by repeat (with_reducible first | exact HB.out | apply below_alloc | apply pw_below_drewN | apply below_drew1 | refine below_set ?_ GE205.out | refine below_set ?_ GE206.out))) (fun k_ h_=>h_)) (below_size (by repeat (with_reducible first | exact HB.out | apply below_alloc | apply pw_below_drewN | apply below_drew1 | refine below_set ?_ GE205.out | refine below_set ?_ GE206.out))));have n1_:=Aside0.mk (blk_below (g:=gb205) (o:=.cells #[.slice A0_0 l0_0.length c0_0,.slice A0_1 l0_1.length c0_1] 28 (0,0)) (by (with_reducible repeat (first | refine blk_drewN ?_ _ | refine blk_drew ?_ | refine blk_alloc ?_ _));exact BK205.out) hb);have n2_:=Aside0.mk (blk_below (g:=gb206) (o:=.cells #[.slice none 0 0,.slice none 0 0] 28 (0,0)) (by (with_reducible repeat (first | refine blk_drewN ?_ _ | refine blk_drew ?_ | refine blk_alloc ?_ _));exact BK206.out) hb);have n3_:=Aside0.mk (below_step (by repeat (with_reducible first | exact HB.out | apply below_alloc | apply pw_below_drewN | apply below_drew1 | refine below_set ?_ GE205.out | refine below_set ?_ GE206.out)) hb);clear BK205;clear BK206;clear HB;have HO210:=n0_;have BK205:=n1_;have BK206:=n2_;have HB:=n3_;clear n0_ n1_ n2_ n3_;(try clear hb);(try clear hb2);(try clear hk);(try clear hi);(try clear ho0)) | ((with_reducible refine gate_dst (N:=5) rfl ?_);refine box_event ?hg (N:=5) ?hd (cs:=#[.slice none 0 0,.slice none 0 0]) (t:=28) ?hr ?_;(case hd=>rfl);(case hg=>rfl);(case hr=>first | (go_simp;done) | (go_simp;rfl));intro gb211 hg w12 hbox hb;have n0_:=Aside0.mk (Kd.R_below (by (with_reducible repeat (first | apply Kd.R_alloc | apply Kd.R_drewN | apply Kd.R_drew));exact HO210.out) hb);have n1_:=Aside0.mk (blk_below (g:=gb205) (o:=.cells #[.slice A0_0 l0_0.length c0_0,.slice A0_1 l0_1.length c0_1] 28 (0,0)) (by (with_reducible repeat (first | refine blk_drewN ?_ _ | refine blk_drew ?_ | refine blk_alloc ?_ _));exact BK205.out) hb);have n2_:=Aside0.mk (blk_below (g:=gb206) (o:=.cells #[.slice none 0 0,.slice none 0 0] 28 (0,0)) (by (with_reducible repeat (first | refine blk_drewN ?_ _ | refine blk_drew ?_ | refine blk_alloc ?_ _));exact BK206.out) hb);have n3_:=Aside0.mk (below_step (by repeat (with_reducible first | exact HB.out | apply below_alloc | apply pw_below_drewN | apply below_drew1 | refine below_set ?_ GE205.out | refine below_set ?_ GE206.out)) hb);have n4_:=Aside0.mk (hbox);have n5_:=Aside0.mk ((by rw [hg];exact (below_size (by repeat (with_reducible first | exact HB.out | apply below_alloc | apply pw_below_drewN | apply below_drew1 | refine below_set ?_ GE205.out | refine below_set ?_ GE206.out))):w.heap.size ≤ gb211));have n6_:=Aside0.mk ((by rw [hg];exact (below_size (by repeat (with_reducible first | exact HB.out | apply below_alloc | apply pw_below_drewN | apply below_drew1 | refine below_set ?_ GE205.out | refine below_set ?_ GE206.out))):w.heap.size ≤ gb211));have n7_:=Aside0.mk ((by rw [hg];exact Nat.ne_of_lt (blk_lt (g:=gb205) (o:=.cells #[.slice A0_0 l0_0.length c0_0,.slice A0_1 l0_1.length c0_1] 28 (0,0)) (by (with_reducible repeat (first | refine blk_drewN ?_ _ | refine blk_drew ?_ | refine blk_alloc ?_ _));exact BK205.out)):gb205 ≠ gb211));have n8_:=Aside0.mk ((by rw [hg];exact Nat.ne_of_gt (blk_lt (g:=gb205) (o:=.cells #[.slice A0_0 l0_0.length c0_0,.slice A0_1 l0_1.length c0_1] 28 (0,0)) (by (with_reducible repeat (first | refine blk_drewN ?_ _ | refine blk_drew ?_ | refine blk_alloc ?_ _));exact BK205.out)):gb211 ≠ gb205));have n9_:=Aside0.mk ((by rw [hg];exact Nat.ne_of_lt (blk_lt (g:=gb206) (o:=.cells #[.slice none 0 0,.slice none 0 0] 28 (0,0)) (by (with_reducible repeat (first | refine blk_drewN ?_ _ | refine blk_drew ?_ | refine blk_alloc ?_ _));exact BK206.out)):gb206 ≠ gb211));have n10_:=Aside0.mk ((by rw [hg];exact Nat.ne_of_gt (blk_lt (g:=gb206) (o:=.cells #[.slice none 0 0,.slice none 0 0] 28 (0,0)) (by (with_reducible repeat (first | refine blk_drewN ?_ _ | refine blk_drew ?_ | refine blk_alloc ?_ _));exact BK206.out)):gb211 ≠ gb206));clear HO210;clear BK205;clear BK206;clear HB;have HO210:=n0_;have BK205:=n1_;have BK206:=n2_;have HB:=n3_;have BK211:=n4_;have GW211:=n5_;have GE211:=n6_;have NB205_211:=n7_;have NB211_205:=n8_;have NB206_211:=n9_;have NB211_206:=n10_;clear n0_ n1_ n2_ n3_ n4_ n5_ n6_ n7_ n8_ n9_ n10_;clear hb hbox hg;have hnb13:=NB211_205.out;have hnc13:=NB205_211.out;have hnb14:=NB211_206.out;have hnc14:=NB206_211.out;have hcz15_0:w12.cell? ⟨gb211,0,none⟩ = some (.slice none 0 0):=(blk_cell BK211.out 0).trans rfl;have hcz15_1:w12.cell? ⟨gb211,1,none⟩ = some (.slice none 0 0):=(blk_cell BK211.out 1).trans rfl;have hfz15_0:=blk_frozen BK211.out 0;have hfz15_1:=blk_frozen BK211.out 1;obtain ⟨Ao16,co16,eo16⟩:=Kd.R_slice HO210.out;subst eo16))
  go_loopg [21] k (fun kq v21 w'=>∃ (x21_1:Int) (x212000_1:List Int) (x212001_1:List (List Int)) (u212000:Value) (u212001:Value),v21 = .int .i64 x21_1∧Aside0 (impl_ChancesFold.l0 kq t208 t208 (t208.length:Int) x21_1 l0_0 l0_1 x212000_1 x212001_1 = some (r1,r2,r3))∧Aside0 (kq ≤ k)∧Aside0 (Kd.R (Kd.int .i64) 3 w' w.heap.size (fun k_=>(w.heap.size ≤ k_)∧some k_ ≠ (u212000:Value).ownBlock) (.slice Ao16 t208.length co16) t208)∧Aside0 (Kd.R (Kd.int .i64) 3 w' w.heap.size (fun k_=>(w.heap.size ≤ k_)∧some k_ ≠ (u212000:Value).ownBlock) (.slice Ao16 t208.length co16) t208)∧Aside0 (Kd.R (Kd.int .i64) 3 w' w.heap.size (fun k_=>(w.heap.size ≤ k_)∧some k_ ≠ ((.slice Ao16 t208.length co16):Value).ownBlock∧some k_ ≠ ((.slice Ao16 t208.length co16):Value).ownBlock) u212000 x212000_1)∧Aside0 (Kd.N (Kd.slice 3 (Kd.int .i64)) 22 w' w.heap.size (fun k_=>(w.heap.size ≤ k_)∧some k_ ≠ ((.slice Ao16 t208.length co16):Value).ownBlock∧some k_ ≠ ((.slice Ao16 t208.length co16):Value).ownBlock∧some k_ ≠ (u212000:Value).ownBlock∧k_ ≠ gb205∧k_ ≠ gb206∧k_ ≠ gb211) u212001 x212001_1)∧Aside0 (w'.heap[gb205]? = some (.cells #[(.slice A0_0 l0_0.length c0_0),(.slice A0_1 l0_1.length c0_1)] 28 (0,0)))∧Aside0 (w'.heap[gb206]? = some (.cells #[(.slice none 0 0),(.slice none 0 0)] 28 (0,0)))∧Aside0 (w'.heap[gb211]? = some (.cells #[u212000,u212001] 28 (0,0)))∧Aside0 (Below w.heap.size w w'))
  case atStart=>exact ⟨(0),(([]:List Int)),(([]:List (List Int))),(.slice none 0 0),(.slice none 0 0),(by first | rfl | (simp;done) | (simp [*];done)),H',⟨Nat.le_refl _⟩,⟨by (with_reducible repeat (first | apply Kd.R_alloc | apply Kd.R_drewN | apply Kd.R_drew));exact Kd.R_mono (Kd.R_far (p:=⟨gb211,1,none⟩) (Kd.R_far (p:=⟨gb211,0,none⟩) (Kd.R_types HO210.out BK211.out (by decide)) (fun _ hk=>hk.2) (.slice none 0 0)) (fun _ hk=>hk.2) (.slice none 0 0)) (fun _ hk=>⟨hk.1.1,(by simp [Value.ownBlock])⟩)⟩,⟨by (with_reducible repeat (first | apply Kd.R_alloc | apply Kd.R_drewN | apply Kd.R_drew));exact Kd.R_mono (Kd.R_far (p:=⟨gb211,1,none⟩) (Kd.R_far (p:=⟨gb211,0,none⟩) (Kd.R_types HO210.out BK211.out (by decide)) (fun _ hk=>hk.2) (.slice none 0 0)) (fun _ hk=>hk.2) (.slice none 0 0)) (fun _ hk=>⟨hk.1.1,(by simp [Value.ownBlock])⟩)⟩,⟨by first | exact Kd.R_nil _ _ _ _ _ | exact Kd.N_nil _ _ _ _ _ | exact Kd.V_nil _ _ _ _ _ | exact Kd.Q_nil _ _ _ _ _ | exact Kd.S_nil _ _ _ _ _⟩,⟨by first | exact Kd.S_nil _ _ _ _ _ | exact Kd.N_nil _ _ _ _ _ | exact Kd.V_nil _ _ _ _ _ | exact Kd.Q_nil _ _ _ _ _ | exact Kd.R_nil _ _ _ _ _⟩,⟨by (with_reducible repeat (first | refine blk_drewN ?_ _ | refine blk_drew ?_ | refine blk_alloc ?_ _));refine blk_far ?_ NB205_211.out _;(with_reducible repeat (first | refine blk_drewN ?_ _ | refine blk_drew ?_ | refine blk_alloc ?_ _));refine blk_far ?_ NB205_211.out _;(with_reducible repeat (first | refine blk_drewN ?_ _ | refine blk_drew ?_ | refine blk_alloc ?_ _));exact BK205.out⟩,⟨by (with_reducible repeat (first | refine blk_drewN ?_ _ | refine blk_drew ?_ | refine blk_alloc ?_ _));refine blk_far ?_ NB206_211.out _;(with_reducible repeat (first | refine blk_drewN ?_ _ | refine blk_drew ?_ | refine blk_alloc ?_ _));refine blk_far ?_ NB206_211.out _;(with_reducible repeat (first | refine blk_drewN ?_ _ | refine blk_drew ?_ | refine blk_alloc ?_ _));exact BK206.out⟩,⟨by (with_reducible repeat (first | refine blk_drewN ?_ _ | refine blk_drew ?_ | refine blk_alloc ?_ _));refine blk_put (cs:=#[.slice none 0 0,.slice none 0 0]) ?_ 1 _ rfl;(with_reducible repeat (first | refine blk_drewN ?_ _ | refine blk_drew ?_ | refine blk_alloc ?_ _));refine blk_put (cs:=#[.slice none 0 0,.slice none 0 0]) ?_ 0 _ rfl;(with_reducible repeat (first | refine blk_drewN ?_ _ | refine blk_drew ?_ | refine blk_alloc ?_ _));exact BK211.out⟩,⟨by repeat (with_reducible first | exact HB.out | apply below_alloc | apply pw_below_drewN | apply below_drew1 | refine below_set ?_ GE205.out | refine below_set ?_ GE206.out | refine below_set ?_ GE211.out)⟩⟩
  case round =>
   clear H'
   try clear c1
   try clear p2
   try clear c3
   try clear c4
   try clear c7
   try clear c13
   try clear c14
   try clear c16
   try clear hcz10_0
   try clear hcz10_1
   try clear hcz15_0
   try clear hcz15_1
   try clear hcz8_0
   try clear hcz8_1
   try clear hfz10_0
   try clear hfz10_1
   try clear hfz15_0
   try clear hfz15_1
   try clear hfz8_0
   try clear hfz8_1
   obtain ⟨x21_1,x212000_1,x212001_1,u212000,u212001,rfl,HA,HK1,HO_4,HO_19,HO_212000,HO_212001,BK205,BK206,BK211,HB⟩:=hrel
   cases gk with
   | zero=>exact absurd HA.out (by simp [impl_ChancesFold.l0])
   | succ k1 =>
    have H:=HA.out
    clear HA
    simp only [impl_ChancesFold.l0] at H
    by_cases c17:x21_1 < (t208.length:Int)
    ·rw [if_pos c17] at H
     have c17b0:decide (x21_1 < (t208.length:Int)) = true:=decide_eq_true c17
     clear c17
     by_cases c18:0 ≤ x21_1
     ·rw [if_pos c18] at H
      have c18b0:decide (0 ≤ x21_1) = true:=decide_eq_true c18
      clear c18
      by_cases c19:x21_1 < (t208.length:Int)
      ·rw [if_pos c19] at H
       have c19b0:decide (x21_1 < (t208.length:Int)) = true:=decide_eq_true c19
       clear c19
       by_cases c20:(rd t208 x21_1) = x21_1
       ·rw [if_pos c20] at H
        have c20b0:((rd t208 x21_1) == x21_1) = true:=beq_iff_eq.mpr c20
        have c20b1:((rd t208 x21_1) != x21_1) = false:=bne_eq_false_iff_eq.mpr c20
        clear c20
        obtain ⟨y213,hy213⟩:∃ y_:List Int,y_ = (([]:List Int)):=⟨_,rfl⟩
        replace H:((impl_sums.f k1 l0_0 l0_1 t208 x21_1).bind fun t216=>(impl_ChancesFold.l1 k1 t208 x21_1 y213 t216 t208 (t208.length:Int) x21_1 t208 (t208.length:Int) 0 l0_0 l0_1 x212000_1 x212001_1)) = some (r1,r2,r3):=by rw [hy213];exact H
        have Ny213:=Aside0.mk hy213
        clear hy213
        replace H:=Option.bind_eq_some_iff.mp H
        obtain ⟨t216,A210,H⟩:=H
        replace H:(impl_ChancesFold.l1 k1 t208 x21_1 y213 t216 t208 (t208.length:Int) x21_1 t208 (t208.length:Int) 0 l0_0 l0_1 x212000_1 x212001_1) = some (r1,r2,r3):=H
        have A21:=Aside0.mk A210
        clear A210
        have H':=Aside0.mk H
        clear H
        have p212:0 ≤ (x21_1:Int):=of_decide_eq_true (by assumption)
        have q212:x21_1 < (t208.length:Int):=of_decide_eq_true (by assumption)
        obtain ⟨ad212,e212,hx212_0⟩:=Kd.at_int (Kd.R_reads' HO_19.out).2.2 x21_1 p212 q212
        cases e212
        replace p212:=eq_true p212
        replace q212:=eq_true q212
        go_wp2_with (first | ((with_reducible refine gate_dst (N:=29) rfl ?_);refine Kd.R_lit (Kd.int .i64) _ 3 ?hg (N:=29) ?hd (xs:=([]:List Int)) (inner:=[]) (ok:=fun _=>True) (okp:=fun _=>True) ?hr ?hp (fun _ hk=>hk) trivial (Below.refl _ _) (Nat.le_refl _) (by simp) ?_;(case hd=>rfl);(case hg=>rfl);(case hr=>first | (go_simp;done) | (go_simp;rfl));(case hp=>exact (Reps.none _ _));intro v214 w22 ho23 hb hg_ hnew_;clear hg_ hnew_;(first | rw [← Ny213.out] at ho23 | (simp only [Int.reduceToNat] at ho23;rw [← Ny213.out] at ho23));have n0_:=Aside0.mk (Kd.R_elder' (by (with_reducible repeat (first | apply Kd.R_alloc | apply Kd.R_drewN | apply Kd.R_drew));exact HO_4.out) (Kd.R_base ho23) hb);have n1_:=Aside0.mk (Kd.R_elder' (by (with_reducible repeat (first | apply Kd.R_alloc | apply Kd.R_drewN | apply Kd.R_drew));exact HO_19.out) (Kd.R_base ho23) hb);have n2_:=Aside0.mk (Kd.R_elder' (by (with_reducible repeat (first | apply Kd.R_alloc | apply Kd.R_drewN | apply Kd.R_drew));exact HO_212000.out) (Kd.R_base ho23) hb);have n3_:=Aside0.mk (Kd.N_elder' (by (with_reducible repeat (first | apply Kd.N_alloc | apply Kd.N_drewN | apply Kd.N_drew));exact HO_212001.out) (Kd.R_base ho23) hb);have n4_:=Aside0.mk (Kd.R_lower (Kd.R_new' (Kd.R_new' (Kd.R_new' (Kd.R_newM (M:=fun k_=>(w.heap.size ≤ k_)) ho23 (below_size (by repeat (with_reducible first | exact HB.out | apply below_alloc | apply pw_below_drewN | apply below_drew1 | refine below_set ?_ GE205.out | refine below_set ?_ GE206.out | refine below_set ?_ GE211.out))) (fun k_ h_=>h_)) (Kd.R_lt (by (with_reducible repeat (first | apply Kd.R_alloc | apply Kd.R_drewN | apply Kd.R_drew));exact HO_4.out))) (Kd.R_lt (by (with_reducible repeat (first | apply Kd.R_alloc | apply Kd.R_drewN | apply Kd.R_drew));exact HO_19.out))) (Kd.R_lt (by (with_reducible repeat (first | apply Kd.R_alloc | apply Kd.R_drewN | apply Kd.R_drew));exact HO_212000.out))) (below_size (by repeat (with_reducible first | exact HB.out | apply below_alloc | apply pw_below_drewN | apply below_drew1 | refine below_set ?_ GE205.out | refine below_set ?_ GE206.out | refine below_set ?_ GE211.out))));have n5_:=Aside0.mk (blk_below (g:=gb205) (o:=.cells #[.slice A0_0 l0_0.length c0_0,.slice A0_1 l0_1.length c0_1] 28 (0,0)) (by (with_reducible repeat (first | refine blk_drewN ?_ _ | refine blk_drew ?_ | refine blk_alloc ?_ _));exact BK205.out) hb);have n6_:=Aside0.mk (blk_below (g:=gb206) (o:=.cells #[.slice none 0 0,.slice none 0 0] 28 (0,0)) (by (with_reducible repeat (first | refine blk_drewN ?_ _ | refine blk_drew ?_ | refine blk_alloc ?_ _));exact BK206.out) hb);have n7_:=Aside0.mk (blk_below (g:=gb211) (o:=.cells #[u212000,u212001] 28 (0,0)) (by (with_reducible repeat (first | refine blk_drewN ?_ _ | refine blk_drew ?_ | refine blk_alloc ?_ _));exact BK211.out) hb);have n8_:=Aside0.mk (below_step (by repeat (with_reducible first | exact HB.out | apply below_alloc | apply pw_below_drewN | apply below_drew1 | refine below_set ?_ GE205.out | refine below_set ?_ GE206.out | refine below_set ?_ GE211.out)) hb);clear HO_4;clear HO_19;clear HO_212000;clear HO_212001;clear BK205;clear BK206;clear BK211;clear HB;have HO_4:=n0_;have HO_19:=n1_;have HO_212000:=n2_;have HO_212001:=n3_;have HO215:=n4_;have BK205:=n5_;have BK206:=n6_;have BK211:=n7_;have HB:=n8_;clear n0_ n1_ n2_ n3_ n4_ n5_ n6_ n7_ n8_;clear hb ho23;have hnb24:=NB205_206.out;have hnc24:=NB206_205.out;have hnb25:=NB205_211.out;have hnc25:=NB211_205.out;have hcz26_0:w22.cell? ⟨gb205,0,none⟩ = some (.slice A0_0 l0_0.length c0_0):=(blk_cell BK205.out 0).trans rfl;have hcz26_1:w22.cell? ⟨gb205,1,none⟩ = some (.slice A0_1 l0_1.length c0_1):=(blk_cell BK205.out 1).trans rfl;have hfz26_0:=blk_frozen BK205.out 0;have hfz26_1:=blk_frozen BK205.out 1) | ((with_reducible refine gate_callee (f:=47) rfl ?_);refine goesL_ (some 33) rfl rfl Try.func47 (by kernel_rfl) rfl #[.agg #[.slice A0_0 l0_0.length c0_0,.slice A0_1 l0_1.length c0_1],.slice (some ad212) t208.length co16,.int .i64 x21_1] rfl (by (try simp only [List.map_toArray,List.map_cons,List.map_nil]);first | done | rfl | (simp only [List.length_drop,List.length_take];rfl)) ?_;(with_reducible refine (impl_sums.calls k1 _ _ l0_0 _ _ l0_1 _ _ t208 x21_1 t216 _ ?side1 ?side2 ?side3 ?side4 ?side5 ?side6 A21.out).mono ?_);(case side1=>repeat (first | exact (Kd.C_below HR0_0.out HB.out) | (with_reducible refine Kd.C_alloc ?_ _) | (with_reducible refine Kd.C_drewN ?_ _) | (with_reducible refine Kd.C_drew ?_)));(case side2=>exact HC0_0.out);(case side3=>repeat (first | exact (Kd.C_below HR0_1.out HB.out) | (with_reducible refine Kd.C_alloc ?_ _) | (with_reducible refine Kd.C_drewN ?_ _) | (with_reducible refine Kd.C_drew ?_)));(case side4=>exact HC0_1.out);(case side5=>repeat (first | exact (Kd.R_reads' HO_4.out).2.2 | (with_reducible refine Kd.C_alloc ?_ _) | (with_reducible refine Kd.C_drewN ?_ _) | (with_reducible refine Kd.C_drew ?_)));(case side6=>exact (Kd.R_reads' HO_4.out).2.1);rintro e w27 ⟨v217,rfl,ho0,hb⟩;refine ⟨_,rfl,?_⟩;have n0_:=Aside0.mk (Kd.R_elder' (by (with_reducible repeat (first | apply Kd.R_alloc | apply Kd.R_drewN | apply Kd.R_drew));exact HO_4.out) (Kd.R_base ho0) hb);have n1_:=Aside0.mk (Kd.R_elder' (by (with_reducible repeat (first | apply Kd.R_alloc | apply Kd.R_drewN | apply Kd.R_drew));exact HO_19.out) (Kd.R_base ho0) hb);have n2_:=Aside0.mk (Kd.R_elder' (by (with_reducible repeat (first | apply Kd.R_alloc | apply Kd.R_drewN | apply Kd.R_drew));exact HO_212000.out) (Kd.R_base ho0) hb);have n3_:=Aside0.mk (Kd.N_elder' (by (with_reducible repeat (first | apply Kd.N_alloc | apply Kd.N_drewN | apply Kd.N_drew));exact HO_212001.out) (Kd.R_base ho0) hb);have n4_:=Aside0.mk (Kd.R_elder' (by (with_reducible repeat (first | apply Kd.R_alloc | apply Kd.R_drewN | apply Kd.R_drew));exact HO215.out) (Kd.R_base ho0) hb);have n5_:=Aside0.mk (Kd.R_lower (Kd.R_new' (Kd.R_new' (Kd.R_new' (Kd.R_new' (Kd.R_newM (M:=fun k_=>(w.heap.size ≤ k_)) ho0 (below_size (by repeat (with_reducible first | exact HB.out | apply below_alloc | apply pw_below_drewN | apply below_drew1 | refine below_set ?_ GE205.out | refine below_set ?_ GE206.out | refine below_set ?_ GE211.out))) (fun k_ h_=>h_)) (Kd.R_lt (by (with_reducible repeat (first | apply Kd.R_alloc | apply Kd.R_drewN | apply Kd.R_drew));exact HO_4.out))) (Kd.R_lt (by (with_reducible repeat (first | apply Kd.R_alloc | apply Kd.R_drewN | apply Kd.R_drew));exact HO_19.out))) (Kd.R_lt (by (with_reducible repeat (first | apply Kd.R_alloc | apply Kd.R_drewN | apply Kd.R_drew));exact HO_212000.out))) (Kd.R_lt (by (with_reducible repeat (first | apply Kd.R_alloc | apply Kd.R_drewN | apply Kd.R_drew));exact HO215.out))) (below_size (by repeat (with_reducible first | exact HB.out | apply below_alloc | apply pw_below_drewN | apply below_drew1 | refine below_set ?_ GE205.out | refine below_set ?_ GE206.out | refine below_set ?_ GE211.out))));have n6_:=Aside0.mk (blk_below (g:=gb205) (o:=.cells #[.slice A0_0 l0_0.length c0_0,.slice A0_1 l0_1.length c0_1] 28 (0,0)) (by (with_reducible repeat (first | refine blk_drewN ?_ _ | refine blk_drew ?_ | refine blk_alloc ?_ _));exact BK205.out) hb);have n7_:=Aside0.mk (blk_below (g:=gb206) (o:=.cells #[.slice none 0 0,.slice none 0 0] 28 (0,0)) (by (with_reducible repeat (first | refine blk_drewN ?_ _ | refine blk_drew ?_ | refine blk_alloc ?_ _));exact BK206.out) hb);have n8_:=Aside0.mk (blk_below (g:=gb211) (o:=.cells #[u212000,u212001] 28 (0,0)) (by (with_reducible repeat (first | refine blk_drewN ?_ _ | refine blk_drew ?_ | refine blk_alloc ?_ _));exact BK211.out) hb);have n9_:=Aside0.mk (below_step (by repeat (with_reducible first | exact HB.out | apply below_alloc | apply pw_below_drewN | apply below_drew1 | refine below_set ?_ GE205.out | refine below_set ?_ GE206.out | refine below_set ?_ GE211.out)) hb);clear HO_4;clear HO_19;clear HO_212000;clear HO_212001;clear HO215;clear BK205;clear BK206;clear BK211;clear HB;have HO_4:=n0_;have HO_19:=n1_;have HO_212000:=n2_;have HO_212001:=n3_;have HO215:=n4_;have HO218:=n5_;have BK205:=n6_;have BK206:=n7_;have BK211:=n8_;have HB:=n9_;clear n0_ n1_ n2_ n3_ n4_ n5_ n6_ n7_ n8_ n9_;(try clear hb);(try clear hb2);(try clear hk);(try clear hi);(try clear ho0)))
        go_loopg [8,36] k1 (fun kq v8 v36 w'=>∃ (x8_2:List Int) (x36_2:Int),v36 = .int .i64 x36_2∧Aside0 (impl_ChancesFold.l1 kq t208 x21_1 x8_2 t216 t208 (t208.length:Int) x21_1 t208 (t208.length:Int) x36_2 l0_0 l0_1 x212000_1 x212001_1 = some (r1,r2,r3))∧Aside0 (kq ≤ k1)∧Aside0 (Kd.R (Kd.int .i64) 3 w' w.heap.size (fun k_=>(w.heap.size ≤ k_)∧some k_ ≠ (v8:Value).ownBlock∧some k_ ≠ (v217:Value).ownBlock∧some k_ ≠ (u212000:Value).ownBlock) (.slice (some ad212) t208.length co16) t208)∧Aside0 (Kd.R (Kd.int .i64) 3 w' w.heap.size (fun k_=>(w.heap.size ≤ k_)∧some k_ ≠ ((.slice (some ad212) t208.length co16):Value).ownBlock∧some k_ ≠ (v217:Value).ownBlock∧some k_ ≠ ((.slice (some ad212) t208.length co16):Value).ownBlock∧some k_ ≠ ((.slice (some ad212) t208.length co16):Value).ownBlock∧some k_ ≠ (u212000:Value).ownBlock) v8 x8_2)∧Aside0 (Kd.R (Kd.int .i64) 3 w' w.heap.size (fun k_=>(w.heap.size ≤ k_)∧some k_ ≠ ((.slice (some ad212) t208.length co16):Value).ownBlock∧some k_ ≠ (v8:Value).ownBlock∧some k_ ≠ ((.slice (some ad212) t208.length co16):Value).ownBlock∧some k_ ≠ ((.slice (some ad212) t208.length co16):Value).ownBlock∧some k_ ≠ (u212000:Value).ownBlock) v217 t216)∧Aside0 (Kd.R (Kd.int .i64) 3 w' w.heap.size (fun k_=>(w.heap.size ≤ k_)∧some k_ ≠ (v8:Value).ownBlock∧some k_ ≠ (v217:Value).ownBlock∧some k_ ≠ (u212000:Value).ownBlock) (.slice (some ad212) t208.length co16) t208)∧Aside0 (Kd.R (Kd.int .i64) 3 w' w.heap.size (fun k_=>(w.heap.size ≤ k_)∧some k_ ≠ (v8:Value).ownBlock∧some k_ ≠ (v217:Value).ownBlock∧some k_ ≠ (u212000:Value).ownBlock) (.slice (some ad212) t208.length co16) t208)∧Aside0 (Kd.R (Kd.int .i64) 3 w' w.heap.size (fun k_=>(w.heap.size ≤ k_)∧some k_ ≠ ((.slice (some ad212) t208.length co16):Value).ownBlock∧some k_ ≠ (v8:Value).ownBlock∧some k_ ≠ (v217:Value).ownBlock∧some k_ ≠ ((.slice (some ad212) t208.length co16):Value).ownBlock∧some k_ ≠ ((.slice (some ad212) t208.length co16):Value).ownBlock) u212000 x212000_1)∧Aside0 (Kd.N (Kd.slice 3 (Kd.int .i64)) 22 w' w.heap.size (fun k_=>(w.heap.size ≤ k_)∧some k_ ≠ ((.slice (some ad212) t208.length co16):Value).ownBlock∧some k_ ≠ (v8:Value).ownBlock∧some k_ ≠ (v217:Value).ownBlock∧some k_ ≠ ((.slice (some ad212) t208.length co16):Value).ownBlock∧some k_ ≠ ((.slice (some ad212) t208.length co16):Value).ownBlock∧some k_ ≠ (u212000:Value).ownBlock∧k_ ≠ gb205∧k_ ≠ gb206∧k_ ≠ gb211) u212001 x212001_1)∧Aside0 (w'.heap[gb205]? = some (.cells #[(.slice A0_0 l0_0.length c0_0),(.slice A0_1 l0_1.length c0_1)] 28 (0,0)))∧Aside0 (w'.heap[gb206]? = some (.cells #[(.slice none 0 0),(.slice none 0 0)] 28 (0,0)))∧Aside0 (w'.heap[gb211]? = some (.cells #[u212000,u212001] 28 (0,0)))∧Aside0 (Below w.heap.size w w'))
        case atStart=>exact ⟨(y213),(0),(by first | rfl | (simp;done) | (simp [*];done)),H',⟨Nat.le_refl _⟩,⟨by exact Kd.R_mono HO_4.out (fun _ hk=>⟨hk.1.1.1,⟨hk.1.2,⟨hk.2,hk.1.1.2⟩⟩⟩)⟩,⟨by exact Kd.R_mono HO215.out (fun _ hk=>⟨hk.1.1.1.1.1,⟨hk.1.1.1.2,⟨hk.2,⟨hk.1.1.2,⟨hk.1.1.1.2,hk.1.2⟩⟩⟩⟩⟩)⟩,⟨by exact Kd.R_mono HO218.out (fun _ hk=>⟨hk.1.1.1.1.1,⟨hk.1.1.1.2,⟨hk.2,⟨hk.1.1.2,⟨hk.1.1.1.2,hk.1.2⟩⟩⟩⟩⟩)⟩,⟨by exact Kd.R_mono HO_19.out (fun _ hk=>⟨hk.1.1.1,⟨hk.1.2,⟨hk.2,hk.1.1.2⟩⟩⟩)⟩,⟨by exact Kd.R_mono HO_4.out (fun _ hk=>⟨hk.1.1.1,⟨hk.1.2,⟨hk.2,hk.1.1.2⟩⟩⟩)⟩,⟨by exact Kd.R_mono HO_212000.out (fun _ hk=>⟨hk.1.1.1,⟨hk.1.1.2.1,⟨hk.1.2,⟨hk.2,⟨hk.1.1.2.2,hk.1.1.2.1⟩⟩⟩⟩⟩)⟩,⟨by exact Kd.N_mono HO_212001.out (fun _ hk=>⟨hk.1.1.1,⟨hk.1.1.2.1,⟨hk.1.2,⟨hk.2,⟨hk.1.1.2.2.1,⟨hk.1.1.2.1,⟨hk.1.1.2.2.2.1,⟨hk.1.1.2.2.2.2.1,⟨hk.1.1.2.2.2.2.2.1,hk.1.1.2.2.2.2.2.2⟩⟩⟩⟩⟩⟩⟩⟩⟩)⟩,⟨by exact BK205.out⟩,⟨by exact BK206.out⟩,⟨by exact BK211.out⟩,⟨by exact HB.out⟩⟩
        case round =>
         clear H'
         try clear c1
         try clear c2
         try clear p2
         try clear q2
         try clear hx2
         try clear c3
         try clear c4
         try clear c7
         try clear c13
         try clear c14
         try clear c16
         try clear c17
         try clear c17b0
         try clear c18
         try clear c18b0
         try clear c19
         try clear c19b0
         try clear c20
         try clear c20b0
         try clear c20b1
         try clear p21
         try clear q21
         try clear hx21
         try clear c24
         try clear c25
         try clear hcz10_0
         try clear hcz10_1
         try clear hcz15_0
         try clear hcz15_1
         try clear hcz26_0
         try clear hcz26_1
         try clear hcz8_0
         try clear hcz8_1
         try clear hfz10_0
         try clear hfz10_1
         try clear hfz15_0
         try clear hfz15_1
         try clear hfz26_0
         try clear hfz26_1
         try clear hfz8_0
         try clear hfz8_1
         try clear hx212_0
         try clear p2
         try clear p212
         try clear q212
         obtain ⟨x8_2,x36_2,rfl,HA,HK2,HO_4,HO_8,HO_9,HO_19,HO_34,HO_212000,HO_212001,BK205,BK206,BK211,HB⟩:=hrel
         cases gk with
         | zero=>exact absurd HA.out (by simp [impl_ChancesFold.l1])
         | succ k2 =>
          have H:=HA.out
          clear HA
          simp only [impl_ChancesFold.l1] at H
          by_cases c28:x36_2 < (t208.length:Int)
          ·rw [if_pos c28] at H
           have c28b0:decide (x36_2 < (t208.length:Int)) = true:=decide_eq_true c28
           clear c28
           by_cases c29:0 ≤ x36_2
           ·rw [if_pos c29] at H
            have c29b0:decide (0 ≤ x36_2) = true:=decide_eq_true c29
            clear c29
            by_cases c30:x36_2 < (t208.length:Int)
            ·rw [if_pos c30] at H
             have c30b0:decide (x36_2 < (t208.length:Int)) = true:=decide_eq_true c30
             clear c30
             by_cases c31:(rd t208 x36_2) = x36_2
             ·rw [if_pos c31] at H
              have c31b0:((rd t208 x36_2) == x36_2) = true:=beq_iff_eq.mpr c31
              have c31b1:((rd t208 x36_2) != x36_2) = false:=bne_eq_false_iff_eq.mpr c31
              clear c31
              by_cases c32:x36_2 < (t216.length:Int)
              ·rw [if_pos c32] at H
               have c32b0:decide (x36_2 < (t216.length:Int)) = true:=decide_eq_true c32
               clear c32
               by_cases c33:x8_2.length < 17592186044416
               ·rw [if_pos c33] at H
                have LMc33:=Aside0.mk c33
                clear c33
                obtain ⟨y221,hy221⟩:∃ y_:List Int,y_ = (x8_2 ++ [rd t216 x36_2]):=⟨_,rfl⟩
                replace H:(impl_ChancesFold.l1 k2 t208 x21_1 y221 t216 t208 (t208.length:Int) x21_1 t208 (t208.length:Int) (wrap64 (x36_2 + 1)) l0_0 l0_1 x212000_1 x212001_1) = some (r1,r2,r3):=by rw [hy221];exact H
                have Ny221:=Aside0.mk hy221
                clear hy221
                have H':=Aside0.mk H
                clear H
                have p219:0 ≤ (x36_2:Int):=of_decide_eq_true (by assumption)
                have q219:x36_2 < (t208.length:Int):=of_decide_eq_true (by assumption)
                obtain ⟨ad219,e219,hx219_0⟩:=Kd.at_int (Kd.R_reads' HO_34.out).2.2 x36_2 p219 q219
                obtain rfl:ad212 = ad219:=(by injection e219)
                replace p219:=eq_true p219
                replace q219:=eq_true q219
                obtain ⟨Ao34,co34,eo34⟩:=Kd.R_slice HO_9.out
                subst eo34
                have p220:0 ≤ (x36_2:Int):=of_decide_eq_true (by assumption)
                have q220:x36_2 < (t216.length:Int):=of_decide_eq_true (by assumption)
                obtain ⟨ad220,e220,hx220_0⟩:=Kd.at_int (Kd.R_reads' HO_9.out).2.2 x36_2 p220 q220
                cases e220
                replace p220:=eq_true p220
                replace q220:=eq_true q220
                go_wp2_with (first | ((with_reducible refine gate_builtin (b:=.append) (xs:=#[.tmp 44,.tmp 49]) rfl ?_);at_builtin;refine Kd.R_append (Kd.int .i64) (w0:=w) w.heap.size rfl (.tmp 44) (.tmp 49) 22 3 (.int .i64 0) 8 rfl Try.underlying22 info3 rfl (by decide) (by omega) u8 x8_2 (rd t216 x36_2) [.int .i64 (rd t216 x36_2)] (fun k_=>(w.heap.size ≤ k_)∧some k_ ≠ (.slice (some ad212) t208.length co16:Value).ownBlock∧some k_ ≠ (.slice (some ad220) t216.length co34:Value).ownBlock∧some k_ ≠ (.slice (some ad212) t208.length co16:Value).ownBlock∧some k_ ≠ (.slice (some ad212) t208.length co16:Value).ownBlock∧some k_ ≠ (u212000:Value).ownBlock) (fun _=>False) rfl rfl ?aP (fun _ hk=>hk.elim) ?aF ?aO ?aB ?aS ?aL ?_;(case aP=>exact rfl);(case aB=>exact (by exact HB.out));(case aF=>exact (fun k_ hk=>⟨(Nat.le_trans (below_size (by exact HB.out)) hk),Kd.fresh' (Kd.R_lt (by exact HO_4.out)) k_ hk,Kd.fresh' (Kd.R_lt (by exact HO_9.out)) k_ hk,Kd.fresh' (Kd.R_lt (by exact HO_19.out)) k_ hk,Kd.fresh' (Kd.R_lt (by exact HO_34.out)) k_ hk,Kd.fresh' (Kd.R_lt (by exact HO_212000.out)) k_ hk⟩));(case aO=>exact (by exact HO_8.out));(case aS=>exact (below_size (by exact HB.out)));(case aL=>have:=LMc33.out;omega);intro v222 w35 ho hb hg hat;rw [← Ny221.out] at ho;have n0_:=Aside0.mk (Kd.R_after (ok:=(fun k_=>(w.heap.size ≤ k_)∧some k_ ≠ (.slice (some ad220) t216.length co34:Value).ownBlock∧some k_ ≠ (u212000:Value).ownBlock)) (by exact Kd.R_mono HO_4.out (fun _ hk=>⟨⟨hk.1,⟨hk.2.2.1,hk.2.2.2⟩⟩,hk.2.1⟩)) hg hat);have n1_:=Aside0.mk (Kd.R_after (ok:=(fun k_=>(w.heap.size ≤ k_)∧some k_ ≠ (.slice (some ad212) t208.length co16:Value).ownBlock∧some k_ ≠ (.slice (some ad212) t208.length co16:Value).ownBlock∧some k_ ≠ (.slice (some ad212) t208.length co16:Value).ownBlock∧some k_ ≠ (u212000:Value).ownBlock)) (by exact Kd.R_mono HO_9.out (fun _ hk=>⟨⟨hk.1,⟨hk.2.1,⟨hk.2.2.2.1,⟨hk.2.2.2.2.1,hk.2.2.2.2.2⟩⟩⟩⟩,hk.2.2.1⟩)) hg hat);have n2_:=Aside0.mk (Kd.R_after (ok:=(fun k_=>(w.heap.size ≤ k_)∧some k_ ≠ (.slice (some ad220) t216.length co34:Value).ownBlock∧some k_ ≠ (u212000:Value).ownBlock)) (by exact Kd.R_mono HO_19.out (fun _ hk=>⟨⟨hk.1,⟨hk.2.2.1,hk.2.2.2⟩⟩,hk.2.1⟩)) hg hat);have n3_:=Aside0.mk (Kd.R_after (ok:=(fun k_=>(w.heap.size ≤ k_)∧some k_ ≠ (.slice (some ad220) t216.length co34:Value).ownBlock∧some k_ ≠ (u212000:Value).ownBlock)) (by exact Kd.R_mono HO_34.out (fun _ hk=>⟨⟨hk.1,⟨hk.2.2.1,hk.2.2.2⟩⟩,hk.2.1⟩)) hg hat);have n4_:=Aside0.mk (Kd.R_after (ok:=(fun k_=>(w.heap.size ≤ k_)∧some k_ ≠ (.slice (some ad212) t208.length co16:Value).ownBlock∧some k_ ≠ (.slice (some ad220) t216.length co34:Value).ownBlock∧some k_ ≠ (.slice (some ad212) t208.length co16:Value).ownBlock∧some k_ ≠ (.slice (some ad212) t208.length co16:Value).ownBlock)) (by exact Kd.R_mono HO_212000.out (fun _ hk=>⟨⟨hk.1,⟨hk.2.1,⟨hk.2.2.2.1,⟨hk.2.2.2.2.1,hk.2.2.2.2.2⟩⟩⟩⟩,hk.2.2.1⟩)) hg hat);have n5_:=Aside0.mk (Kd.N_afterv (ok:=(fun k_=>(w.heap.size ≤ k_)∧some k_ ≠ (.slice (some ad212) t208.length co16:Value).ownBlock∧some k_ ≠ (.slice (some ad220) t216.length co34:Value).ownBlock∧some k_ ≠ (.slice (some ad212) t208.length co16:Value).ownBlock∧some k_ ≠ (.slice (some ad212) t208.length co16:Value).ownBlock∧some k_ ≠ (u212000:Value).ownBlock∧k_ ≠ gb205∧k_ ≠ gb206∧k_ ≠ gb211)) (by exact Kd.N_mono HO_212001.out (fun _ hk=>⟨⟨hk.1,⟨hk.2.1,⟨hk.2.2.2.1,⟨hk.2.2.2.2.1,⟨hk.2.2.2.2.2.1,⟨hk.2.2.2.2.2.2.1,⟨hk.2.2.2.2.2.2.2.1,⟨hk.2.2.2.2.2.2.2.2.1,hk.2.2.2.2.2.2.2.2.2⟩⟩⟩⟩⟩⟩⟩⟩,hk.2.2.1⟩)) hg hat);have n6_:=Aside0.mk (blk_grown (g:=gb205) (o:=.cells #[.slice A0_0 l0_0.length c0_0,.slice A0_1 l0_1.length c0_1] 28 (0,0)) (by exact BK205.out) hg (Kd.R_ne HO_8.out BK205.out (by decide)));have n7_:=Aside0.mk (blk_grown (g:=gb206) (o:=.cells #[.slice none 0 0,.slice none 0 0] 28 (0,0)) (by exact BK206.out) hg (Kd.R_ne HO_8.out BK206.out (by decide)));have n8_:=Aside0.mk (blk_grown (g:=gb211) (o:=.cells #[u212000,u212001] 28 (0,0)) (by exact BK211.out) hg (Kd.R_ne HO_8.out BK211.out (by decide)));have n9_:=Aside0.mk (hb);have n10_:=Aside0.mk (ho);clear HO_4;clear HO_9;clear HO_19;clear HO_34;clear HO_212000;clear HO_212001;clear BK205;clear BK206;clear BK211;clear HB;clear HO_8;have HO_4:=n0_;have HO_9:=n1_;have HO_19:=n2_;have HO_34:=n3_;have HO_212000:=n4_;have HO_212001:=n5_;have BK205:=n6_;have BK206:=n7_;have BK211:=n8_;have HB:=n9_;have HO223:=n10_;clear n0_ n1_ n2_ n3_ n4_ n5_ n6_ n7_ n8_ n9_ n10_;clear ho hb hg hat))
                go_roundg k2
                case measure=>have:=HK1.out;have:=HK2.out;omega
                case rel=>exact ⟨(y221),(wrap64 (x36_2 + 1)),(by first | rfl | (simp;done) | (simp [*];done)),H',⟨by have:=HK1.out;have:=HK2.out;omega⟩,⟨by exact Kd.R_mono HO_4.out (fun _ hk=>⟨hk.1.1,⟨hk.2,⟨hk.1.2.1,hk.1.2.2⟩⟩⟩)⟩,⟨by exact HO223.out⟩,⟨by exact Kd.R_mono HO_9.out (fun _ hk=>⟨hk.1.1,⟨hk.1.2.1,⟨hk.2,⟨hk.1.2.2.1,⟨hk.1.2.2.2.1,hk.1.2.2.2.2⟩⟩⟩⟩⟩)⟩,⟨by exact Kd.R_mono HO_19.out (fun _ hk=>⟨hk.1.1,⟨hk.2,⟨hk.1.2.1,hk.1.2.2⟩⟩⟩)⟩,⟨by exact Kd.R_mono HO_34.out (fun _ hk=>⟨hk.1.1,⟨hk.2,⟨hk.1.2.1,hk.1.2.2⟩⟩⟩)⟩,⟨by exact Kd.R_mono HO_212000.out (fun _ hk=>⟨hk.1.1,⟨hk.1.2.1,⟨hk.2,⟨hk.1.2.2.1,⟨hk.1.2.2.2.1,hk.1.2.2.2.2⟩⟩⟩⟩⟩)⟩,⟨by exact Kd.N_mono HO_212001.out (fun _ hk=>⟨hk.1.1,⟨hk.1.2.1,⟨hk.2,⟨hk.1.2.2.1,⟨hk.1.2.2.2.1,⟨hk.1.2.2.2.2.1,⟨hk.1.2.2.2.2.2.1,⟨hk.1.2.2.2.2.2.2.1,⟨hk.1.2.2.2.2.2.2.2.1,hk.1.2.2.2.2.2.2.2.2⟩⟩⟩⟩⟩⟩⟩⟩⟩)⟩,⟨by exact BK205.out⟩,⟨by exact BK206.out⟩,⟨by exact BK211.out⟩,⟨by exact HB.out⟩⟩
               ·rw [if_neg c33] at H
                exact absurd H (by simp)
              ·rw [if_neg c32] at H
               exact absurd H (by simp)
             ·rw [if_neg c31] at H
              have c31b0:((rd t208 x36_2) == x36_2) = false:=beq_eq_false_iff_ne.mpr c31
              have c31b1:((rd t208 x36_2) != x36_2) = true:=bne_iff_ne.mpr c31
              have H':=Aside0.mk H
              clear H
              have p219:0 ≤ (x36_2:Int):=of_decide_eq_true (by assumption)
              have q219:x36_2 < (t208.length:Int):=of_decide_eq_true (by assumption)
              obtain ⟨ad219,e219,hx219_0⟩:=Kd.at_int (Kd.R_reads' HO_34.out).2.2 x36_2 p219 q219
              obtain rfl:ad212 = ad219:=(by injection e219)
              replace p219:=eq_true p219
              replace q219:=eq_true q219
              go_wp2
              go_roundg k2
              case measure=>have:=HK1.out;have:=HK2.out;omega
              case rel=>exact ⟨(x8_2),(wrap64 (x36_2 + 1)),(by first | rfl | (simp;done) | (simp [*];done)),H',⟨by have:=HK1.out;have:=HK2.out;omega⟩,⟨by exact HO_4.out⟩,⟨by exact HO_8.out⟩,⟨by exact HO_9.out⟩,⟨by exact HO_19.out⟩,⟨by exact HO_34.out⟩,⟨by exact HO_212000.out⟩,⟨by exact HO_212001.out⟩,⟨by exact BK205.out⟩,⟨by exact BK206.out⟩,⟨by exact BK211.out⟩,⟨by exact HB.out⟩⟩
            ·rw [if_neg c30] at H
             exact absurd H (by simp)
           ·rw [if_neg c29] at H
            exact absurd H (by simp)
          ·rw [if_neg c28] at H
           have c28b0:decide (x36_2 < (t208.length:Int)) = false:=decide_eq_false c28
           clear c28
           by_cases c36:0 ≤ x21_1
           ·rw [if_pos c36] at H
            have c36b0:decide (0 ≤ x21_1) = true:=decide_eq_true c36
            clear c36
            by_cases c37:x21_1 < (l0_0.length:Int)
            ·rw [if_pos c37] at H
             have c37b0:decide (x21_1 < (l0_0.length:Int)) = true:=decide_eq_true c37
             clear c37
             by_cases c38:x212000_1.length < 17592186044416
             ·rw [if_pos c38] at H
              have LMc38:=Aside0.mk c38
              clear c38
              obtain ⟨y225,hy225⟩:∃ y_:List Int,y_ = (x212000_1 ++ [rd l0_0 x21_1]):=⟨_,rfl⟩
              replace H:(if x212001_1.length < 5864062014805 then (impl_ChancesFold.l0 k2 t208 t208 (t208.length:Int) (wrap64 (x21_1 + 1)) l0_0 l0_1 y225 (x212001_1 ++ [x8_2])) else (none)) = some (r1,r2,r3):=by rw [hy225];exact H
              have Ny225:=Aside0.mk hy225
              clear hy225
              by_cases c39:x212001_1.length < 5864062014805
              ·rw [if_pos c39] at H
               have LMc39:=Aside0.mk c39
               clear c39
               obtain ⟨y228,hy228⟩:∃ y_:List (List Int),y_ = (x212001_1 ++ [x8_2]):=⟨_,rfl⟩
               replace H:(impl_ChancesFold.l0 k2 t208 t208 (t208.length:Int) (wrap64 (x21_1 + 1)) l0_0 l0_1 y225 y228) = some (r1,r2,r3):=by rw [hy228];exact H
               have Ny228:=Aside0.mk hy228
               clear hy228
               have H':=Aside0.mk H
               clear H
               try go_wp2
               have n0_:=Aside0.mk (Kd.R_drew HO_4.out)
               have n1_:=Aside0.mk (Kd.R_drew HO_8.out)
               have n2_:=Aside0.mk (Kd.R_drew HO_9.out)
               have n3_:=Aside0.mk (Kd.R_drew HO_19.out)
               have n4_:=Aside0.mk (Kd.R_drew HO_34.out)
               have n5_:=Aside0.mk (Kd.R_drew HO_212000.out)
               have n6_:=Aside0.mk (Kd.N_drew HO_212001.out)
               have n7_:=Aside0.mk (blk_drew BK205.out)
               have n8_:=Aside0.mk (blk_drew BK206.out)
               have n9_:=Aside0.mk (blk_drew BK211.out)
               have n10_:=Aside0.mk (below_drew1 HB.out)
               clear HO_4
               clear HO_8
               clear HO_9
               clear HO_19
               clear HO_34
               clear HO_212000
               clear HO_212001
               clear BK205
               clear BK206
               clear BK211
               clear HB
               have HO_4:=n0_
               have HO_8:=n1_
               have HO_9:=n2_
               have HO_19:=n3_
               have HO_34:=n4_
               have HO_212000:=n5_
               have HO_212001:=n6_
               have BK205:=n7_
               have BK206:=n8_
               have BK211:=n9_
               have HB:=n10_
               clear n0_ n1_ n2_ n3_ n4_ n5_ n6_ n7_ n8_ n9_ n10_
               have p224:0 ≤ (x21_1:Int):=of_decide_eq_true (by assumption)
               have q224:x21_1 < (l0_0.length:Int):=of_decide_eq_true (by assumption)
               obtain ⟨ad224,e224,hx224_0⟩:=Kd.at_int HR0_0.out x21_1 p224 q224
               have hw224_0:=hx224_0
               cases e224
               replace hx224_0:=(HB.out.cell (World.block_lt_of_cell? w _ hx224_0)).trans hx224_0
               replace p224:=eq_true p224
               replace q224:=eq_true q224
               refine start_ (n:=11) (S:=fun w'=>w'.cell? ⟨gb211,0,none⟩ = some (u212000)∧w'.cell? ⟨gb211,1,none⟩ = some (u212001)∧w'.cell? ⟨gb205,0,none⟩ = some (.slice (some ad224) l0_0.length c0_0)∧w'.cell? ⟨gb205,1,none⟩ = some (.slice A0_1 l0_1.length c0_1)∧w'.cell? (ad224.add (x21_1).toNat) = some (.int .i64 (rd l0_0 x21_1))) (ds:=[10]) #[false,false,false,false,false,false,false,false,false,false,false] (by kernel_rfl) rfl rfl ⟨(blk_cell BK211.out 0).trans rfl,(blk_cell BK211.out 1).trans rfl,(blk_cell BK205.out 0).trans rfl,(blk_cell BK205.out 1).trans rfl,((HB.out.cell (World.block_lt_of_cell? w _ hw224_0)).trans hw224_0)⟩ (fun hHeld=>?_);refine with_tabW impl_ChancesFold.tab15 impl_ChancesFold.bits15 (fun HT_ HW_=>?_)
               generalize wr.drew = w40 at HO_4 HO_8 HO_9 HO_19 HO_34 HO_212000 HO_212001 BK205 BK206 BK211 HB hx224_0 hHeld ⊢
               refine pure_ (i:=0) (N:=some 52) (v:=?_) (a':=?_) #[true,false,false,false,false,false,false,false,false,false,false] rfl rfl (any_of HT_.out (by kernel_rfl)) (fun _ _ _ h=>h) (Or.inl ⟨by rfl,?_⟩) ?_ ?_
               rotate_left;·intro w';go_simp;with_reducible rfl
               rotate_left;·simp only [Act.put,List.setIfInBounds_toArray,List.set_cons_zero,List.set_cons_succ,i64_w,i32_w];rfl
               refine pure_ (i:=2) (N:=some 54) (v:=?_) (a':=?_) #[true,false,true,false,false,false,false,false,false,false,false] rfl rfl (any_of HT_.out (by kernel_rfl)) (fun _ _ _ h=>h) (Or.inl ⟨by rfl,?_⟩) ?_ ?_
               rotate_left;·intro w';go_simp;with_reducible rfl
               rotate_left;·simp only [Act.put,List.setIfInBounds_toArray,List.set_cons_zero,List.set_cons_succ,i64_w,i32_w];rfl
               refine pure_ (i:=4) (N:=some 56) (v:=?_) (a':=?_) #[true,false,true,false,true,false,false,false,false,false,false] rfl rfl (any_of HT_.out (by kernel_rfl)) (fun _ _ _ h=>h) (Or.inl ⟨by rfl,?_⟩) ?_ ?_
               rotate_left;·intro w';go_simp;with_reducible rfl
               rotate_left;·simp only [Act.put,List.setIfInBounds_toArray,List.set_cons_zero,List.set_cons_succ,i64_w,i32_w];rfl
               refine take_ (i:=1) (N:=some 53) (v:=?_) (a':=?_) #[true,true,true,false,true,false,false,false,false,false,false] rfl rfl (take_ofW HT_.out HW_.out (by kernel_rfl)) (fun _ _ _ h=>h) (Or.inl ⟨by rfl,?_⟩) hHeld ?_ ?_
               rotate_left;·rintro w' ⟨s0,s1,s2,s3,s4⟩;go_simp;with_reducible rfl
               rotate_left;·simp only [Act.put,List.setIfInBounds_toArray,List.set_cons_zero,List.set_cons_succ,i64_w,i32_w];rfl
               refine take_ (i:=3) (N:=some 55) (v:=?_) (a':=?_) #[true,true,true,true,true,false,false,false,false,false,false] rfl rfl (take_ofW HT_.out HW_.out (by kernel_rfl)) (fun _ _ _ h=>h) (Or.inl ⟨by rfl,?_⟩) hHeld ?_ ?_
               rotate_left;·rintro w' ⟨s0,s1,s2,s3,s4⟩;go_simp;with_reducible rfl
               rotate_left;·simp only [Act.put,List.setIfInBounds_toArray,List.set_cons_zero,List.set_cons_succ,i64_w,i32_w];rfl
               refine pure_ (i:=5) (N:=some 57) (v:=?_) (a':=?_) #[true,true,true,true,true,true,false,false,false,false,false] rfl rfl (any_of HT_.out (by kernel_rfl)) (fun _ _ _ h=>h) (Or.inl ⟨by rfl,?_⟩) ?_ ?_
               rotate_left;·intro w';go_simp;with_reducible rfl
               rotate_left;·simp only [Act.put,List.setIfInBounds_toArray,List.set_cons_zero,List.set_cons_succ,i64_w,i32_w];rfl
               refine take_ (i:=6) (N:=some 58) (v:=?_) (a':=?_) #[true,true,true,true,true,true,true,false,false,false,false] rfl rfl (take_ofW HT_.out HW_.out (by kernel_rfl)) (fun _ _ _ h=>h) (Or.inl ⟨by rfl,?_⟩) hHeld ?_ ?_
               rotate_left;·rintro w' ⟨s0,s1,s2,s3,s4⟩;go_simp;with_reducible rfl
               rotate_left;·simp only [Act.put,List.setIfInBounds_toArray,List.set_cons_zero,List.set_cons_succ,i64_w,i32_w];rfl
               refine one_ (i:=7) (N:=some 59) #[true,true,true,true,true,true,true,true,false,false,false] rfl rfl (one_of HT_.out (by kernel_rfl)) (by decide) (fun K hK=>?_)
               refine value_ (w1:=?_) (v:=?_) (by rfl) rfl ?_ ?_
               rotate_left 2
               ·go_simp
                constructor
                ·rfl
                ·rfl
               refine hK.out _ _ ⟨(blk_cell (blk_alloc BK211.out _) 0).trans rfl,(blk_cell (blk_alloc BK211.out _) 1).trans rfl,(blk_cell (blk_alloc BK205.out _) 0).trans rfl,(blk_cell (blk_alloc BK205.out _) 1).trans rfl,(World.cell?_alloc_lt _ _ _ (World.block_lt_of_cell? _ _ (((HB.out.cell (World.block_lt_of_cell? w _ hw224_0)).trans hw224_0)))).trans (((HB.out.cell (World.block_lt_of_cell? w _ hw224_0)).trans hw224_0))⟩ (fun hHeld=>?_)
               clear hK K
               refine norm_ (a':=?_) ?_ ?_
               rotate_left
               ·show Act.put _ (some 59) _ = _
                simp only [Act.put,List.setIfInBounds_toArray,List.set_cons_zero,List.set_cons_succ,i64_w,i32_w]
                rfl
               refine one_ (i:=8) (N:=some 60) #[true,true,true,true,true,true,true,true,true,false,false] rfl rfl (one_of HT_.out (by kernel_rfl)) (by decide) (fun K hK=>?_)
               refine Kd.R_append_step (Kd.int .i64) (w0:=w) w.heap.size (by rfl) (.tmp 53) (.tmp 59) 22 3 (.int .i64 0) 8 rfl Try.underlying22 info3 rfl (by decide) (by omega) u212000 x212000_1 (rd l0_0 x21_1) [.int .i64 (rd l0_0 x21_1)] (fun k_=>(w.heap.size ≤ k_)∧some k_ ≠ (.slice (some ad212) t208.length co16:Value).ownBlock∧some k_ ≠ (u8:Value).ownBlock∧some k_ ≠ (v217:Value).ownBlock∧some k_ ≠ (.slice (some ad212) t208.length co16:Value).ownBlock∧some k_ ≠ (.slice (some ad212) t208.length co16:Value).ownBlock) (fun _=>False) rfl rfl ?aP (fun _ hk=>hk.elim) ?aF ?aO ?aB ?aS ?aL ?_
               (case aP=>exact rfl)
               (case aB=>exact (by exact HB.out))
               (case aF=>exact (fun k_ hk=>⟨(Nat.le_trans (below_size (by exact HB.out)) hk),Kd.fresh' (Kd.R_lt (by exact HO_4.out)) k_ hk,Kd.fresh' (Kd.R_lt (by exact HO_8.out)) k_ hk,Kd.fresh' (Kd.R_lt (by exact HO_9.out)) k_ hk,Kd.fresh' (Kd.R_lt (by exact HO_19.out)) k_ hk,Kd.fresh' (Kd.R_lt (by exact HO_34.out)) k_ hk⟩))
               (case aO=>exact (by exact HO_212000.out))
               (case aS=>exact (below_size (by exact HB.out)))
               (case aL=>have:=LMc38.out;omega)
               intro v226 w41 ho hb hg hat
               rw [← Ny225.out] at ho
               have n0_:=Aside0.mk (Kd.R_after (ok:=(fun k_=>(w.heap.size ≤ k_)∧some k_ ≠ (u8:Value).ownBlock∧some k_ ≠ (v217:Value).ownBlock)) (by exact Kd.R_mono HO_4.out (fun _ hk=>⟨⟨hk.1,⟨hk.2.1,hk.2.2.1⟩⟩,hk.2.2.2⟩)) hg hat)
               have n1_:=Aside0.mk (Kd.R_after (ok:=(fun k_=>(w.heap.size ≤ k_)∧some k_ ≠ (.slice (some ad212) t208.length co16:Value).ownBlock∧some k_ ≠ (v217:Value).ownBlock∧some k_ ≠ (.slice (some ad212) t208.length co16:Value).ownBlock∧some k_ ≠ (.slice (some ad212) t208.length co16:Value).ownBlock)) (by exact Kd.R_mono HO_8.out (fun _ hk=>⟨⟨hk.1,⟨hk.2.1,⟨hk.2.2.1,⟨hk.2.2.2.1,hk.2.2.2.2.1⟩⟩⟩⟩,hk.2.2.2.2.2⟩)) hg hat)
               have n2_:=Aside0.mk (Kd.R_after (ok:=(fun k_=>(w.heap.size ≤ k_)∧some k_ ≠ (.slice (some ad212) t208.length co16:Value).ownBlock∧some k_ ≠ (u8:Value).ownBlock∧some k_ ≠ (.slice (some ad212) t208.length co16:Value).ownBlock∧some k_ ≠ (.slice (some ad212) t208.length co16:Value).ownBlock)) (by exact Kd.R_mono HO_9.out (fun _ hk=>⟨⟨hk.1,⟨hk.2.1,⟨hk.2.2.1,⟨hk.2.2.2.1,hk.2.2.2.2.1⟩⟩⟩⟩,hk.2.2.2.2.2⟩)) hg hat)
               have n3_:=Aside0.mk (Kd.R_after (ok:=(fun k_=>(w.heap.size ≤ k_)∧some k_ ≠ (u8:Value).ownBlock∧some k_ ≠ (v217:Value).ownBlock)) (by exact Kd.R_mono HO_19.out (fun _ hk=>⟨⟨hk.1,⟨hk.2.1,hk.2.2.1⟩⟩,hk.2.2.2⟩)) hg hat)
               have n4_:=Aside0.mk (Kd.R_after (ok:=(fun k_=>(w.heap.size ≤ k_)∧some k_ ≠ (u8:Value).ownBlock∧some k_ ≠ (v217:Value).ownBlock)) (by exact Kd.R_mono HO_34.out (fun _ hk=>⟨⟨hk.1,⟨hk.2.1,hk.2.2.1⟩⟩,hk.2.2.2⟩)) hg hat)
               have n5_:=Aside0.mk (Kd.N_afterv (ok:=(fun k_=>(w.heap.size ≤ k_)∧some k_ ≠ (.slice (some ad212) t208.length co16:Value).ownBlock∧some k_ ≠ (u8:Value).ownBlock∧some k_ ≠ (v217:Value).ownBlock∧some k_ ≠ (.slice (some ad212) t208.length co16:Value).ownBlock∧some k_ ≠ (.slice (some ad212) t208.length co16:Value).ownBlock∧k_ ≠ gb205∧k_ ≠ gb206∧k_ ≠ gb211)) (by exact Kd.N_mono HO_212001.out (fun _ hk=>⟨⟨hk.1,⟨hk.2.1,⟨hk.2.2.1,⟨hk.2.2.2.1,⟨hk.2.2.2.2.1,⟨hk.2.2.2.2.2.1,⟨hk.2.2.2.2.2.2.2.1,⟨hk.2.2.2.2.2.2.2.2.1,hk.2.2.2.2.2.2.2.2.2⟩⟩⟩⟩⟩⟩⟩⟩,hk.2.2.2.2.2.2.1⟩)) hg hat)
               have n6_:=Aside0.mk (blk_grown (g:=gb205) (o:=.cells #[.slice (some ad224) l0_0.length c0_0,.slice A0_1 l0_1.length c0_1] 28 (0,0)) (by exact BK205.out) hg (Kd.R_ne HO_212000.out BK205.out (by decide)))
               have n7_:=Aside0.mk (blk_grown (g:=gb206) (o:=.cells #[.slice none 0 0,.slice none 0 0] 28 (0,0)) (by exact BK206.out) hg (Kd.R_ne HO_212000.out BK206.out (by decide)))
               have n8_:=Aside0.mk (blk_grown (g:=gb211) (o:=.cells #[u212000,u212001] 28 (0,0)) (by exact BK211.out) hg (Kd.R_ne HO_212000.out BK211.out (by decide)))
               have n9_:=Aside0.mk (hb)
               have n10_:=Aside0.mk (ho)
               clear HO_4
               clear HO_8
               clear HO_9
               clear HO_19
               clear HO_34
               clear HO_212001
               clear BK205
               clear BK206
               clear BK211
               clear HB
               clear HO_212000
               have HO_4:=n0_
               have HO_8:=n1_
               have HO_9:=n2_
               have HO_19:=n3_
               have HO_34:=n4_
               have HO_212001:=n5_
               have BK205:=n6_
               have BK206:=n7_
               have BK211:=n8_
               have HB:=n9_
               have HO227:=n10_
               clear n0_ n1_ n2_ n3_ n4_ n5_ n6_ n7_ n8_ n9_ n10_
               clear ho hb hg hat
               obtain ⟨Ao42,co42,eo42⟩:=Kd.R_slice HO227.out
               (first | subst eo42 | (injection eo42 with f1_ f2_ f3_;have f4_:=f1_.symm;have f5_:=f3_.symm;clear f1_ f2_ f3_;subst f4_;subst f5_))
               refine hK.out _ _ ⟨(blk_cell BK211.out 0).trans rfl,(blk_cell BK211.out 1).trans rfl,(blk_cell BK205.out 0).trans rfl,(blk_cell BK205.out 1).trans rfl,((HB.out.cell (World.block_lt_of_cell? w _ hw224_0)).trans hw224_0)⟩ (fun hHeld=>?_)
               clear hK K
               refine norm_ (a':=?_) ?_ ?_
               rotate_left
               ·show Act.put _ (some 60) _ = _
                simp only [Act.put,List.setIfInBounds_toArray,List.set_cons_zero,List.set_cons_succ,i64_w,i32_w]
                rfl
               refine pure_ (i:=9) (N:=some 61) (v:=?_) (a':=?_) #[true,true,true,true,true,true,true,true,true,true,false] rfl rfl (any_of HT_.out (by kernel_rfl)) (fun _ _ _ h=>h) (Or.inl ⟨by rfl,?_⟩) ?_ ?_
               rotate_left;·intro w';go_simp;with_reducible rfl
               rotate_left;·simp only [Act.put,List.setIfInBounds_toArray,List.set_cons_zero,List.set_cons_succ,i64_w,i32_w];rfl
               refine last_ (i:=10) (N:=none) #[true,true,true,true,true,true,true,true,true,true,true] rfl rfl (one_of HT_.out (by kernel_rfl)) (by decide) (fun K hK=>?_)
               have hs43:w41.cell? ⟨gb211,0,none⟩ = some (u212000):=(blk_cell BK211.out 0).trans rfl
               have hfs43:=blk_frozen BK211.out 0
               have hns43_0:=NB205_211.out
               have hns43_1:=NB206_211.out
               have hms43_0:=NB211_205.out
               have hms43_1:=NB211_206.out
               refine skip_ (w1:=?_) (by rfl) rfl ?_ ?_
               rotate_left
               ·go_simp
                rfl
               refine hK.out _ _ ?_
               clear hK K
               refine done_ (done_of HT_.out (by kernel_rfl)) ?_
               have n0_:Aside0 (Kd.R (Kd.int .i64) 3 (w41.setCell ⟨gb211,0,none⟩ (.slice Ao42 y225.length co42)) w.heap.size (fun k_=>(w.heap.size ≤ k_)∧some k_ ≠ (u8:Value).ownBlock∧some k_ ≠ (v217:Value).ownBlock∧some k_ ≠ (.slice Ao42 y225.length co42:Value).ownBlock) (.slice (some ad212) t208.length co16) t208):=⟨by exact Kd.R_mono (Kd.R_far (p:=⟨gb211,0,none⟩) (Kd.R_types HO_4.out BK211.out (by decide)) (fun _ hk=>hk.2) (.slice Ao42 y225.length co42)) (fun _ hk=>⟨hk.1.1.1,⟨hk.1.1.2.1,⟨hk.1.1.2.2,hk.1.2⟩⟩⟩)⟩
               have n1_:Aside0 (Kd.R (Kd.int .i64) 3 (w41.setCell ⟨gb211,0,none⟩ (.slice Ao42 y225.length co42)) w.heap.size (fun k_=>(w.heap.size ≤ k_)∧some k_ ≠ (.slice (some ad212) t208.length co16:Value).ownBlock∧some k_ ≠ (v217:Value).ownBlock∧some k_ ≠ (.slice (some ad212) t208.length co16:Value).ownBlock∧some k_ ≠ (.slice (some ad212) t208.length co16:Value).ownBlock∧some k_ ≠ (.slice Ao42 y225.length co42:Value).ownBlock) u8 x8_2):=⟨by exact Kd.R_mono (Kd.R_far (p:=⟨gb211,0,none⟩) (Kd.R_types HO_8.out BK211.out (by decide)) (fun _ hk=>hk.2) (.slice Ao42 y225.length co42)) (fun _ hk=>⟨hk.1.1.1,⟨hk.1.1.2.1,⟨hk.1.1.2.2.1,⟨hk.1.1.2.2.2.1,⟨hk.1.1.2.2.2.2,hk.1.2⟩⟩⟩⟩⟩)⟩
               have n2_:Aside0 (Kd.R (Kd.int .i64) 3 (w41.setCell ⟨gb211,0,none⟩ (.slice Ao42 y225.length co42)) w.heap.size (fun k_=>(w.heap.size ≤ k_)∧some k_ ≠ (.slice (some ad212) t208.length co16:Value).ownBlock∧some k_ ≠ (u8:Value).ownBlock∧some k_ ≠ (.slice (some ad212) t208.length co16:Value).ownBlock∧some k_ ≠ (.slice (some ad212) t208.length co16:Value).ownBlock∧some k_ ≠ (.slice Ao42 y225.length co42:Value).ownBlock) v217 t216):=⟨by exact Kd.R_mono (Kd.R_far (p:=⟨gb211,0,none⟩) (Kd.R_types HO_9.out BK211.out (by decide)) (fun _ hk=>hk.2) (.slice Ao42 y225.length co42)) (fun _ hk=>⟨hk.1.1.1,⟨hk.1.1.2.1,⟨hk.1.1.2.2.1,⟨hk.1.1.2.2.2.1,⟨hk.1.1.2.2.2.2,hk.1.2⟩⟩⟩⟩⟩)⟩
               have n3_:Aside0 (Kd.R (Kd.int .i64) 3 (w41.setCell ⟨gb211,0,none⟩ (.slice Ao42 y225.length co42)) w.heap.size (fun k_=>(w.heap.size ≤ k_)∧some k_ ≠ (u8:Value).ownBlock∧some k_ ≠ (v217:Value).ownBlock∧some k_ ≠ (.slice Ao42 y225.length co42:Value).ownBlock) (.slice (some ad212) t208.length co16) t208):=⟨by exact Kd.R_mono (Kd.R_far (p:=⟨gb211,0,none⟩) (Kd.R_types HO_19.out BK211.out (by decide)) (fun _ hk=>hk.2) (.slice Ao42 y225.length co42)) (fun _ hk=>⟨hk.1.1.1,⟨hk.1.1.2.1,⟨hk.1.1.2.2,hk.1.2⟩⟩⟩)⟩
               have n4_:Aside0 (Kd.R (Kd.int .i64) 3 (w41.setCell ⟨gb211,0,none⟩ (.slice Ao42 y225.length co42)) w.heap.size (fun k_=>(w.heap.size ≤ k_)∧some k_ ≠ (u8:Value).ownBlock∧some k_ ≠ (v217:Value).ownBlock∧some k_ ≠ (.slice Ao42 y225.length co42:Value).ownBlock) (.slice (some ad212) t208.length co16) t208):=⟨by exact Kd.R_mono (Kd.R_far (p:=⟨gb211,0,none⟩) (Kd.R_types HO_34.out BK211.out (by decide)) (fun _ hk=>hk.2) (.slice Ao42 y225.length co42)) (fun _ hk=>⟨hk.1.1.1,⟨hk.1.1.2.1,⟨hk.1.1.2.2,hk.1.2⟩⟩⟩)⟩
               have n5_:Aside0 (Kd.N (Kd.slice 3 (Kd.int .i64)) 22 (w41.setCell ⟨gb211,0,none⟩ (.slice Ao42 y225.length co42)) w.heap.size (fun k_=>(w.heap.size ≤ k_)∧some k_ ≠ (.slice (some ad212) t208.length co16:Value).ownBlock∧some k_ ≠ (u8:Value).ownBlock∧some k_ ≠ (v217:Value).ownBlock∧some k_ ≠ (.slice (some ad212) t208.length co16:Value).ownBlock∧some k_ ≠ (.slice (some ad212) t208.length co16:Value).ownBlock∧some k_ ≠ (.slice Ao42 y225.length co42:Value).ownBlock∧k_ ≠ gb205∧k_ ≠ gb206∧k_ ≠ gb211) u212001 x212001_1):=⟨by exact Kd.N_mono (Kd.N_far (p:=⟨gb211,0,none⟩) (Kd.N_mono HO_212001.out (fun k_ hk=>(⟨hk,hk.1.2.2.2.2.2.2.2.2⟩:_∧k_ ≠ gb211))) (fun _ hk=>hk.2) (.slice Ao42 y225.length co42)) (fun _ hk=>⟨hk.1.1.1,⟨hk.1.1.2.1,⟨hk.1.1.2.2.1,⟨hk.1.1.2.2.2.1,⟨hk.1.1.2.2.2.2.1,⟨hk.1.1.2.2.2.2.2.1,⟨hk.1.2,⟨hk.1.1.2.2.2.2.2.2.1,⟨hk.1.1.2.2.2.2.2.2.2.1,hk.1.1.2.2.2.2.2.2.2.2⟩⟩⟩⟩⟩⟩⟩⟩⟩)⟩
               have n6_:Aside0 (Kd.R (Kd.int .i64) 3 (w41.setCell ⟨gb211,0,none⟩ (.slice Ao42 y225.length co42)) w.heap.size (fun k_=>(w.heap.size ≤ k_)∧some k_ ≠ (.slice (some ad212) t208.length co16:Value).ownBlock∧some k_ ≠ (u8:Value).ownBlock∧some k_ ≠ (v217:Value).ownBlock∧some k_ ≠ (.slice (some ad212) t208.length co16:Value).ownBlock∧some k_ ≠ (.slice (some ad212) t208.length co16:Value).ownBlock) (.slice Ao42 y225.length co42) y225):=⟨by exact Kd.R_mono (Kd.R_far (p:=⟨gb211,0,none⟩) (Kd.R_types HO227.out BK211.out (by decide)) (fun _ hk=>hk.2) (.slice Ao42 y225.length co42)) (fun _ hk=>⟨hk.1.1,⟨hk.1.2.1,⟨hk.1.2.2.1,⟨hk.1.2.2.2.1,⟨hk.1.2.2.2.2.1,hk.1.2.2.2.2.2⟩⟩⟩⟩⟩)⟩
               have n7_:Aside0 ((w41.setCell ⟨gb211,0,none⟩ (.slice Ao42 y225.length co42)).heap[gb205]? = some (.cells #[.slice (some ad224) l0_0.length c0_0,.slice A0_1 l0_1.length c0_1] 28 (0,0))):=⟨by refine blk_far ?_ NB205_211.out _;exact BK205.out⟩
               have n8_:Aside0 ((w41.setCell ⟨gb211,0,none⟩ (.slice Ao42 y225.length co42)).heap[gb206]? = some (.cells #[.slice none 0 0,.slice none 0 0] 28 (0,0))):=⟨by refine blk_far ?_ NB206_211.out _;exact BK206.out⟩
               have n9_:Aside0 ((w41.setCell ⟨gb211,0,none⟩ (.slice Ao42 y225.length co42)).heap[gb211]? = some (.cells #[.slice Ao42 y225.length co42,u212001] 28 (0,0))):=⟨by refine blk_put (cs:=#[u212000,u212001]) ?_ 0 _ rfl;exact BK211.out⟩
               have n10_:Aside0 (Below w.heap.size w (w41.setCell ⟨gb211,0,none⟩ (.slice Ao42 y225.length co42))):=⟨by repeat (with_reducible first | exact HB.out | apply below_alloc | apply pw_below_drewN | apply below_drew1 | refine below_set ?_ GE205.out | refine below_set ?_ GE206.out | refine below_set ?_ GE211.out)⟩
               (try clear HO_4)
               (try clear HO_8)
               (try clear HO_9)
               (try clear HO_19)
               (try clear HO_34)
               (try clear HO_212001)
               (try clear HO227)
               (try clear BK205)
               (try clear BK206)
               (try clear BK211)
               (try clear HB)
               generalize (w41.setCell ⟨gb211,0,none⟩ (.slice Ao42 y225.length co42)) = w44 at n0_ n1_ n2_ n3_ n4_ n5_ n6_ n7_ n8_ n9_ n10_ ⊢
               have HO_4:=n0_
               have HO_8:=n1_
               have HO_9:=n2_
               have HO_19:=n3_
               have HO_34:=n4_
               have HO_212001:=n5_
               have HO227:=n6_
               have BK205:=n7_
               have BK206:=n8_
               have BK211:=n9_
               have HB:=n10_
               clear n0_ n1_ n2_ n3_ n4_ n5_ n6_ n7_ n8_ n9_ n10_
               have hnb45:=NB211_205.out
               have hnc45:=NB205_211.out
               have hnb46:=NB211_206.out
               have hnc46:=NB206_211.out
               have hcz47_0:w44.cell? ⟨gb211,0,none⟩ = some (.slice Ao42 y225.length co42):=(blk_cell BK211.out 0).trans rfl
               have hcz47_1:w44.cell? ⟨gb211,1,none⟩ = some (u212001):=(blk_cell BK211.out 1).trans rfl
               have hfz47_0:=blk_frozen BK211.out 0
               have hfz47_1:=blk_frozen BK211.out 1
               obtain ⟨Ao49,co49,eo49⟩:=Kd.R_slice HO_8.out
               subst eo49
               try go_wp2_with (first | ((with_reducible refine gate_builtin (b:=.append) (xs:=#[.tmp 63,.tmp 65]) rfl ?_);at_builtin;refine Kd.N_append (Kd.slice 3 (Kd.int .i64)) (w0:=w) w.heap.size rfl (.tmp 63) (.tmp 65) 23 22 (.slice none 0 0) 24 rfl Try.underlying23 info22 rfl (by decide) (by omega) u212001 x212001_1 x8_2 [.slice Ao49 x8_2.length co49] (fun k_=>(w.heap.size ≤ k_)∧some k_ ≠ (.slice (some ad212) t208.length co16:Value).ownBlock∧some k_ ≠ (v217:Value).ownBlock∧some k_ ≠ (.slice (some ad212) t208.length co16:Value).ownBlock∧some k_ ≠ (.slice (some ad212) t208.length co16:Value).ownBlock∧some k_ ≠ (.slice Ao42 y225.length co42:Value).ownBlock∧k_ ≠ gb205∧k_ ≠ gb206∧k_ ≠ gb211) (fun k_=>((fun k_=>(w.heap.size ≤ k_)∧some k_ ≠ (.slice (some ad212) t208.length co16:Value).ownBlock∧some k_ ≠ (v217:Value).ownBlock∧some k_ ≠ (.slice (some ad212) t208.length co16:Value).ownBlock∧some k_ ≠ (.slice (some ad212) t208.length co16:Value).ownBlock∧some k_ ≠ (.slice Ao42 y225.length co42:Value).ownBlock∧k_ ≠ gb205∧k_ ≠ gb206∧k_ ≠ gb211)) k_∧some k_ ≠ (u212001:Value).ownBlock) rfl rfl ?aP (fun _ hk=>hk) ?aF ?aO ?aB ?aS ?aL ?_;(case aP=>exact (Kd.FK_slice_mk (Kd.R_reads' (Kd.R_mono (ok':=(fun k_=>((fun k_=>(w.heap.size ≤ k_)∧some k_ ≠ (.slice (some ad212) t208.length co16:Value).ownBlock∧some k_ ≠ (v217:Value).ownBlock∧some k_ ≠ (.slice (some ad212) t208.length co16:Value).ownBlock∧some k_ ≠ (.slice (some ad212) t208.length co16:Value).ownBlock∧some k_ ≠ (.slice Ao42 y225.length co42:Value).ownBlock∧k_ ≠ gb205∧k_ ≠ gb206∧k_ ≠ gb211)) k_∧some k_ ≠ (u212001:Value).ownBlock)) (Kd.R_types (Kd.R_types (Kd.R_types (Kd.R_apart' (HO_8.out) (Kd.N_typed HO_212001.out) (by decide)) BK205.out (by decide)) BK206.out (by decide)) BK211.out (by decide)) (fun k_ hk=>⟨⟨hk.1.1.1.1.1,⟨hk.1.1.1.1.2.1,⟨hk.1.1.1.1.2.2.1,⟨hk.1.1.1.1.2.2.2.1,⟨hk.1.1.1.1.2.2.2.2.1,⟨hk.1.1.1.1.2.2.2.2.2,⟨hk.1.1.2,⟨hk.1.2,hk.2⟩⟩⟩⟩⟩⟩⟩⟩,hk.1.1.1.2⟩))).2.1 (Kd.R_F (Kd.R_mono (ok':=(fun k_=>((fun k_=>(w.heap.size ≤ k_)∧some k_ ≠ (.slice (some ad212) t208.length co16:Value).ownBlock∧some k_ ≠ (v217:Value).ownBlock∧some k_ ≠ (.slice (some ad212) t208.length co16:Value).ownBlock∧some k_ ≠ (.slice (some ad212) t208.length co16:Value).ownBlock∧some k_ ≠ (.slice Ao42 y225.length co42:Value).ownBlock∧k_ ≠ gb205∧k_ ≠ gb206∧k_ ≠ gb211)) k_∧some k_ ≠ (u212001:Value).ownBlock)) (Kd.R_types (Kd.R_types (Kd.R_types (Kd.R_apart' (HO_8.out) (Kd.N_typed HO_212001.out) (by decide)) BK205.out (by decide)) BK206.out (by decide)) BK211.out (by decide)) (fun k_ hk=>⟨⟨hk.1.1.1.1.1,⟨hk.1.1.1.1.2.1,⟨hk.1.1.1.1.2.2.1,⟨hk.1.1.1.1.2.2.2.1,⟨hk.1.1.1.1.2.2.2.2.1,⟨hk.1.1.1.1.2.2.2.2.2,⟨hk.1.1.2,⟨hk.1.2,hk.2⟩⟩⟩⟩⟩⟩⟩⟩,hk.1.1.1.2⟩)))));(case aB=>exact (by exact HB.out));(case aF=>exact (fun k_ hk=>⟨(Nat.le_trans (below_size (by exact HB.out)) hk),Kd.fresh' (Kd.R_lt (by exact HO_4.out)) k_ hk,Kd.fresh' (Kd.R_lt (by exact HO_9.out)) k_ hk,Kd.fresh' (Kd.R_lt (by exact HO_19.out)) k_ hk,Kd.fresh' (Kd.R_lt (by exact HO_34.out)) k_ hk,Kd.fresh' (Kd.R_lt (by exact HO227.out)) k_ hk,Kd.freshB (g:=gb205) (o:=.cells #[.slice (some ad224) l0_0.length c0_0,.slice A0_1 l0_1.length c0_1] 28 (0,0)) (by exact BK205.out) k_ hk,Kd.freshB (g:=gb206) (o:=.cells #[.slice none 0 0,.slice none 0 0] 28 (0,0)) (by exact BK206.out) k_ hk,Kd.freshB (g:=gb211) (o:=.cells #[.slice Ao42 y225.length co42,u212001] 28 (0,0)) (by exact BK211.out) k_ hk⟩));(case aO=>exact (by exact Kd.N_mono HO_212001.out (fun _ hk=>⟨hk.1,⟨hk.2.1,⟨hk.2.2.2.1,⟨hk.2.2.2.2.1,⟨hk.2.2.2.2.2.1,⟨hk.2.2.2.2.2.2.1,⟨hk.2.2.2.2.2.2.2.1,⟨hk.2.2.2.2.2.2.2.2.1,hk.2.2.2.2.2.2.2.2.2⟩⟩⟩⟩⟩⟩⟩⟩)));(case aS=>exact (below_size (by exact HB.out)));(case aL=>have:=LMc39.out;omega);intro v229 w48 ho hb hg hat;rw [← Ny228.out] at ho;have n0_:=Aside0.mk (Kd.R_over' (by exact HO_4.out) (Kd.N_typed (by exact HO_212001.out)) (by decide) hg);have n1_:=Aside0.mk (Kd.R_over' (by exact HO_9.out) (Kd.N_typed (by exact HO_212001.out)) (by decide) hg);have n2_:=Aside0.mk (Kd.R_over' (by exact HO_19.out) (Kd.N_typed (by exact HO_212001.out)) (by decide) hg);have n3_:=Aside0.mk (Kd.R_over' (by exact HO_34.out) (Kd.N_typed (by exact HO_212001.out)) (by decide) hg);have n4_:=Aside0.mk (blk_grown (g:=gb205) (o:=.cells #[.slice (some ad224) l0_0.length c0_0,.slice A0_1 l0_1.length c0_1] 28 (0,0)) (by exact BK205.out) hg (Kd.N_ne HO_212001.out BK205.out (by decide)));have n5_:=Aside0.mk (blk_grown (g:=gb206) (o:=.cells #[.slice none 0 0,.slice none 0 0] 28 (0,0)) (by exact BK206.out) hg (Kd.N_ne HO_212001.out BK206.out (by decide)));have n6_:=Aside0.mk (blk_grown (g:=gb211) (o:=.cells #[.slice Ao42 y225.length co42,u212001] 28 (0,0)) (by exact BK211.out) hg (Kd.N_ne HO_212001.out BK211.out (by decide)));have n7_:=Aside0.mk (Kd.R_over' (by exact HO227.out) (Kd.N_typed (by exact HO_212001.out)) (by decide) hg);have n8_:=Aside0.mk (hb);have n9_:=Aside0.mk (ho);clear HO_4;clear HO_9;clear HO_19;clear HO_34;clear BK205;clear BK206;clear BK211;clear HO227;clear HB;clear HO_212001;clear HO_8;have HO_4:=n0_;have HO_9:=n1_;have HO_19:=n2_;have HO_34:=n3_;have BK205:=n4_;have BK206:=n5_;have BK211:=n6_;have HO227:=n7_;have HB:=n8_;have HO230:=n9_;clear n0_ n1_ n2_ n3_ n4_ n5_ n6_ n7_ n8_ n9_;clear ho hb hg hat;obtain ⟨Ao50,co50,eo50⟩:=Kd.N_slice HO230.out;subst eo50;have hcz51_0:w48.cell? ⟨gb211,0,none⟩ = some (.slice Ao42 y225.length co42):=(blk_cell BK211.out 0).trans rfl;have hcz51_1:w48.cell? ⟨gb211,1,none⟩ = some (u212001):=(blk_cell BK211.out 1).trans rfl;have hfz51_0:=blk_frozen BK211.out 0;have hfz51_1:=blk_frozen BK211.out 1))
               go_roundg k2
               case measure=>have:=HK1.out;have:=HK2.out;omega
               case rel=>exact ⟨(wrap64 (x21_1 + 1)),(y225),(y228),(.slice Ao42 y225.length co42),(.slice Ao50 y228.length co50),(by first | rfl | (simp;done) | (simp [*];done)),H',⟨by have:=HK1.out;have:=HK2.out;omega⟩,⟨by (with_reducible repeat (first | apply Kd.R_alloc | apply Kd.R_drewN | apply Kd.R_drew));exact Kd.R_mono (Kd.R_far (p:=⟨gb211,1,none⟩) (Kd.R_types HO_4.out BK211.out (by decide)) (fun _ hk=>hk.2) (.slice Ao50 y228.length co50)) (fun _ hk=>⟨hk.1.1,hk.1.2.2.2⟩)⟩,⟨by (with_reducible repeat (first | apply Kd.R_alloc | apply Kd.R_drewN | apply Kd.R_drew));exact Kd.R_mono (Kd.R_far (p:=⟨gb211,1,none⟩) (Kd.R_types HO_19.out BK211.out (by decide)) (fun _ hk=>hk.2) (.slice Ao50 y228.length co50)) (fun _ hk=>⟨hk.1.1,hk.1.2.2.2⟩)⟩,⟨by (with_reducible repeat (first | apply Kd.R_alloc | apply Kd.R_drewN | apply Kd.R_drew));exact Kd.R_mono (Kd.R_far (p:=⟨gb211,1,none⟩) (Kd.R_types HO227.out BK211.out (by decide)) (fun _ hk=>hk.2) (.slice Ao50 y228.length co50)) (fun _ hk=>⟨hk.1.1,⟨hk.1.2.1,hk.1.2.2.2.2.1⟩⟩)⟩,⟨by (with_reducible repeat (first | apply Kd.N_alloc | apply Kd.N_drewN | apply Kd.N_drew));exact Kd.N_mono (Kd.N_far (p:=⟨gb211,1,none⟩) (Kd.N_mono HO230.out (fun k_ hk=>(⟨hk,hk.2.2.2.2.2.2.2.2⟩:_∧k_ ≠ gb211))) (fun _ hk=>hk.2) (.slice Ao50 y228.length co50)) (fun _ hk=>⟨hk.1.1,⟨hk.1.2.1,⟨hk.1.2.2.2.1,⟨hk.1.2.2.2.2.2.1,⟨hk.1.2.2.2.2.2.2.1,⟨hk.1.2.2.2.2.2.2.2.1,hk.1.2.2.2.2.2.2.2.2⟩⟩⟩⟩⟩⟩)⟩,⟨by (with_reducible repeat (first | refine blk_drewN ?_ _ | refine blk_drew ?_ | refine blk_alloc ?_ _));refine blk_far ?_ NB205_211.out _;(with_reducible repeat (first | refine blk_drewN ?_ _ | refine blk_drew ?_ | refine blk_alloc ?_ _));exact BK205.out⟩,⟨by (with_reducible repeat (first | refine blk_drewN ?_ _ | refine blk_drew ?_ | refine blk_alloc ?_ _));refine blk_far ?_ NB206_211.out _;(with_reducible repeat (first | refine blk_drewN ?_ _ | refine blk_drew ?_ | refine blk_alloc ?_ _));exact BK206.out⟩,⟨by (with_reducible repeat (first | refine blk_drewN ?_ _ | refine blk_drew ?_ | refine blk_alloc ?_ _));refine blk_put (cs:=#[.slice Ao42 y225.length co42,u212001]) ?_ 1 _ rfl;(with_reducible repeat (first | refine blk_drewN ?_ _ | refine blk_drew ?_ | refine blk_alloc ?_ _));exact BK211.out⟩,⟨by repeat (with_reducible first | exact HB.out | apply below_alloc | apply pw_below_drewN | apply below_drew1 | refine below_set ?_ GE205.out | refine below_set ?_ GE206.out | refine below_set ?_ GE211.out)⟩⟩
              ·rw [if_neg c39] at H
               exact absurd H (by simp)
             ·rw [if_neg c38] at H
              exact absurd H (by simp)
            ·rw [if_neg c37] at H
             exact absurd H (by simp)
           ·rw [if_neg c36] at H
            exact absurd H (by simp)
       ·rw [if_neg c20] at H
        have c20b0:((rd t208 x21_1) == x21_1) = false:=beq_eq_false_iff_ne.mpr c20
        have c20b1:((rd t208 x21_1) != x21_1) = true:=bne_iff_ne.mpr c20
        have H':=Aside0.mk H
        clear H
        have p212:0 ≤ (x21_1:Int):=of_decide_eq_true (by assumption)
        have q212:x21_1 < (t208.length:Int):=of_decide_eq_true (by assumption)
        obtain ⟨ad212,e212,hx212_0⟩:=Kd.at_int (Kd.R_reads' HO_19.out).2.2 x21_1 p212 q212
        cases e212
        replace p212:=eq_true p212
        replace q212:=eq_true q212
        go_wp2
        go_roundg k1
        case measure=>have:=HK1.out;omega
        case rel=>exact ⟨(wrap64 (x21_1 + 1)),(x212000_1),(x212001_1),(u212000),(u212001),(by first | rfl | (simp;done) | (simp [*];done)),H',⟨by have:=HK1.out;omega⟩,⟨by exact HO_4.out⟩,⟨by exact HO_19.out⟩,⟨by exact HO_212000.out⟩,⟨by exact HO_212001.out⟩,⟨by exact BK205.out⟩,⟨by exact BK206.out⟩,⟨by exact BK211.out⟩,⟨by exact HB.out⟩⟩
      ·rw [if_neg c19] at H
       exact absurd H (by simp)
     ·rw [if_neg c18] at H
      exact absurd H (by simp)
    ·rw [if_neg c17] at H
     have c17b0:decide (x21_1 < (t208.length:Int)) = false:=decide_eq_false c17
     clear c17
     simp only [Option.some.injEq,Prod.mk.injEq] at H
     obtain ⟨rfl,rfl,rfl⟩:=H
     have hnb52:=NB211_205.out
     have hnc52:=NB205_211.out
     have hnb53:=NB211_206.out
     have hnc53:=NB206_211.out
     have hcz54_0:wr.cell? ⟨gb211,0,none⟩ = some (u212000):=(blk_cell BK211.out 0).trans rfl
     have hcz54_1:wr.cell? ⟨gb211,1,none⟩ = some (u212001):=(blk_cell BK211.out 1).trans rfl
     have hfz54_0:=blk_frozen BK211.out 0
     have hfz54_1:=blk_frozen BK211.out 1
     obtain ⟨Ao55,co55,eo55⟩:=Kd.R_slice HO_212000.out
     subst eo55
     have hnb56:=NB206_205.out
     have hnc56:=NB205_206.out
     have hcz57_0:wr.cell? ⟨gb206,0,none⟩ = some (.slice none 0 0):=(blk_cell BK206.out 0).trans rfl
     have hcz57_1:wr.cell? ⟨gb206,1,none⟩ = some (.slice none 0 0):=(blk_cell BK206.out 1).trans rfl
     have hfz57_0:=blk_frozen BK206.out 0
     have hfz57_1:=blk_frozen BK206.out 1
     obtain ⟨Ao58,co58,eo58⟩:=Kd.N_slice HO_212001.out
     subst eo58
     go_wp2
     refine bodyPost_ret (results_ct rfl _ _ gb206 28 #[.slice Ao55 x212000_1.length co55,.slice Ao58 x212001_1.length co58] (0,0) _ rfl (by refine blk_put (cs:=#[.slice Ao55 x212000_1.length co55,.slice none 0 0]) ?_ 1 _ rfl;refine blk_put (cs:=#[.slice none 0 0,.slice none 0 0]) ?_ 0 _ rfl;exact BK206.out) Try.underlying28 rfl (by kernel_rfl)) rfl ?_
     exact ⟨_,_,by first | rfl | (simp [errW_none,errW_some] <;> rfl) | (simp [*,errW_none,errW_some] <;> rfl),by (with_reducible repeat (first | apply Kd.R_alloc | apply Kd.R_drewN | apply Kd.R_drew));exact Kd.R_mono (Kd.R_far (p:=⟨gb206,1,none⟩) (Kd.R_far (p:=⟨gb206,0,none⟩) (Kd.R_types HO_212000.out BK206.out (by decide)) (fun _ hk=>hk.2) (.slice Ao55 x212000_1.length co55)) (fun _ hk=>hk.2) (.slice Ao58 x212001_1.length co58)) (fun _ hk=>hk.1.1),by (with_reducible repeat (first | apply Kd.N_alloc | apply Kd.N_drewN | apply Kd.N_drew));exact Kd.N_mono (Kd.N_far (p:=⟨gb206,1,none⟩) (Kd.N_far (p:=⟨gb206,0,none⟩) (Kd.N_mono HO_212001.out (fun k_ hk=>(⟨hk,hk.2.2.2.2.2.1⟩:_∧k_ ≠ gb206))) (fun _ hk=>hk.2) (.slice Ao55 x212000_1.length co55)) (fun _ hk=>hk.2) (.slice Ao58 x212001_1.length co58)) (fun _ hk=>⟨hk.1.1,hk.1.2.2.2.1⟩),by repeat (with_reducible first | exact HB.out | apply below_alloc | apply pw_below_drewN | apply below_drew1 | refine below_set ?_ GE205.out | refine below_set ?_ GE206.out | refine below_set ?_ GE211.out)⟩
 ·replace c3:=Bool.eq_false_iff.mpr c3
  subst c3
  have H1:(some (([]:List Int),([]:List (List Int)),false)) = some (r1,r2,r3):=by rw [if_neg (show ¬ (false = true) by decide)] at H;exact H
  clear H
  have H:=H1
  clear H1
  simp only [Option.some.injEq,Prod.mk.injEq] at H
  obtain ⟨rfl,rfl,rfl⟩:=H
  go_enter Try.func19,Try.ntmps19
  go_wp2_with (first | ((with_reducible refine gate_dst (N:=1) rfl ?_);refine box_event ?hg (N:=1) ?hd (cs:=#[.slice A0_0 l0_0.length c0_0,.slice A0_1 l0_1.length c0_1]) (t:=28) ?hr ?_;(case hd=>rfl);(case hg=>rfl);(case hr=>first | (go_simp;done) | (go_simp;rfl));intro gb205 hg w59 hbox hb;have n0_:=Aside0.mk (below_step (by repeat (with_reducible first | exact HB.out | apply below_alloc | apply pw_below_drewN | apply below_drew1)) hb);have n1_:=Aside0.mk (hbox);have n2_:=Aside0.mk ((by rw [hg];exact (below_size (by repeat (with_reducible first | exact HB.out | apply below_alloc | apply pw_below_drewN | apply below_drew1))):w.heap.size ≤ gb205));have n3_:=Aside0.mk ((by rw [hg];exact (below_size (by repeat (with_reducible first | exact HB.out | apply below_alloc | apply pw_below_drewN | apply below_drew1))):w.heap.size ≤ gb205));clear HB;have HB:=n0_;have BK205:=n1_;have GW205:=n2_;have GE205:=n3_;clear n0_ n1_ n2_ n3_;clear hb hbox hg) | ((with_reducible refine gate_dst (N:=2) rfl ?_);refine box_event ?hg (N:=2) ?hd (cs:=#[.slice none 0 0,.slice none 0 0]) (t:=28) ?hr ?_;(case hd=>rfl);(case hg=>rfl);(case hr=>first | (go_simp;done) | (go_simp;rfl));intro gb206 hg w60 hbox hb;have n0_:=Aside0.mk (blk_below (g:=gb205) (o:=.cells #[.slice A0_0 l0_0.length c0_0,.slice A0_1 l0_1.length c0_1] 28 (0,0)) (by (with_reducible repeat (first | refine blk_drewN ?_ _ | refine blk_drew ?_ | refine blk_alloc ?_ _));exact BK205.out) hb);have n1_:=Aside0.mk (below_step (by repeat (with_reducible first | exact HB.out | apply below_alloc | apply pw_below_drewN | apply below_drew1 | refine below_set ?_ GE205.out)) hb);have n2_:=Aside0.mk (hbox);have n3_:=Aside0.mk ((by rw [hg];exact (below_size (by repeat (with_reducible first | exact HB.out | apply below_alloc | apply pw_below_drewN | apply below_drew1 | refine below_set ?_ GE205.out))):w.heap.size ≤ gb206));have n4_:=Aside0.mk ((by rw [hg];exact (below_size (by repeat (with_reducible first | exact HB.out | apply below_alloc | apply pw_below_drewN | apply below_drew1 | refine below_set ?_ GE205.out))):w.heap.size ≤ gb206));have n5_:=Aside0.mk ((by rw [hg];exact Nat.ne_of_lt (blk_lt (g:=gb205) (o:=.cells #[.slice A0_0 l0_0.length c0_0,.slice A0_1 l0_1.length c0_1] 28 (0,0)) (by (with_reducible repeat (first | refine blk_drewN ?_ _ | refine blk_drew ?_ | refine blk_alloc ?_ _));exact BK205.out)):gb205 ≠ gb206));have n6_:=Aside0.mk ((by rw [hg];exact Nat.ne_of_gt (blk_lt (g:=gb205) (o:=.cells #[.slice A0_0 l0_0.length c0_0,.slice A0_1 l0_1.length c0_1] 28 (0,0)) (by (with_reducible repeat (first | refine blk_drewN ?_ _ | refine blk_drew ?_ | refine blk_alloc ?_ _));exact BK205.out)):gb206 ≠ gb205));clear BK205;clear HB;have BK205:=n0_;have HB:=n1_;have BK206:=n2_;have GW206:=n3_;have GE206:=n4_;have NB205_206:=n5_;have NB206_205:=n6_;clear n0_ n1_ n2_ n3_ n4_ n5_ n6_;clear hb hbox hg;have hnb61:=NB205_206.out;have hnc61:=NB206_205.out;have hcz62_0:w60.cell? ⟨gb205,0,none⟩ = some (.slice A0_0 l0_0.length c0_0):=(blk_cell BK205.out 0).trans rfl;have hcz62_1:w60.cell? ⟨gb205,1,none⟩ = some (.slice A0_1 l0_1.length c0_1):=(blk_cell BK205.out 1).trans rfl;have hfz62_0:=blk_frozen BK205.out 0;have hfz62_1:=blk_frozen BK205.out 1) | ((with_reducible refine gate_callee (f:=16) rfl ?_);refine goesL_ (some 13) rfl rfl Try.func16 (by kernel_rfl) rfl #[.agg #[.slice A0_0 l0_0.length c0_0,.slice A0_1 l0_1.length c0_1]] rfl (by (try simp only [List.map_toArray,List.map_cons,List.map_nil]);first | done | rfl | (simp only [List.length_drop,List.length_take];rfl)) ?_;(with_reducible refine (impl_ChancesOk.calls k _ _ l0_0 _ _ l0_1 false _ ?side1 ?side2 ?side3 ?side4 A2.out).mono ?_);(case side1=>repeat (first | exact (Kd.C_below HR0_0.out HB.out) | (with_reducible refine Kd.C_alloc ?_ _) | (with_reducible refine Kd.C_drewN ?_ _) | (with_reducible refine Kd.C_drew ?_)));(case side2=>exact HC0_0.out);(case side3=>repeat (first | exact (Kd.C_below HR0_1.out HB.out) | (with_reducible refine Kd.C_alloc ?_ _) | (with_reducible refine Kd.C_drewN ?_ _) | (with_reducible refine Kd.C_drew ?_)));(case side4=>exact HC0_1.out);rintro e w63 ⟨rfl,hb⟩;refine ⟨_,rfl,?_⟩;have n0_:=Aside0.mk (blk_below (g:=gb205) (o:=.cells #[.slice A0_0 l0_0.length c0_0,.slice A0_1 l0_1.length c0_1] 28 (0,0)) (by (with_reducible repeat (first | refine blk_drewN ?_ _ | refine blk_drew ?_ | refine blk_alloc ?_ _));exact BK205.out) hb);have n1_:=Aside0.mk (blk_below (g:=gb206) (o:=.cells #[.slice none 0 0,.slice none 0 0] 28 (0,0)) (by (with_reducible repeat (first | refine blk_drewN ?_ _ | refine blk_drew ?_ | refine blk_alloc ?_ _));exact BK206.out) hb);have n2_:=Aside0.mk (below_step (by repeat (with_reducible first | exact HB.out | apply below_alloc | apply pw_below_drewN | apply below_drew1 | refine below_set ?_ GE205.out | refine below_set ?_ GE206.out)) hb);clear BK205;clear BK206;clear HB;have BK205:=n0_;have BK206:=n1_;have HB:=n2_;clear n0_ n1_ n2_;(try clear hb);(try clear hb2);(try clear hk);(try clear hi);have hcz64_0:w63.cell? ⟨gb206,0,none⟩ = some (.slice none 0 0):=(blk_cell BK206.out 0).trans rfl;have hcz64_1:w63.cell? ⟨gb206,1,none⟩ = some (.slice none 0 0):=(blk_cell BK206.out 1).trans rfl;have hfz64_0:=blk_frozen BK206.out 0;have hfz64_1:=blk_frozen BK206.out 1))
  refine bodyPost_ret (results_ct rfl _ _ gb206 28 #[.slice none 0 0,.slice none 0 0] (0,0) _ rfl (by (with_reducible repeat (first | refine blk_drewN ?_ _ | refine blk_drew ?_ | refine blk_alloc ?_ _));refine blk_put (cs:=#[.slice none 0 0,.slice none 0 0]) ?_ 1 _ rfl;(with_reducible repeat (first | refine blk_drewN ?_ _ | refine blk_drew ?_ | refine blk_alloc ?_ _));refine blk_put (cs:=#[.slice none 0 0,.slice none 0 0]) ?_ 0 _ rfl;(with_reducible repeat (first | refine blk_drewN ?_ _ | refine blk_drew ?_ | refine blk_alloc ?_ _));exact BK206.out) Try.underlying28 rfl (by kernel_rfl)) rfl ?_
  exact ⟨_,_,by first | rfl | (simp [errW_none,errW_some] <;> rfl) | (simp [*,errW_none,errW_some] <;> rfl),by first | exact Kd.R_nil _ _ _ _ _ | exact Kd.N_nil _ _ _ _ _ | exact Kd.V_nil _ _ _ _ _ | exact Kd.Q_nil _ _ _ _ _ | exact Kd.S_nil _ _ _ _ _,by first | exact Kd.S_nil _ _ _ _ _ | exact Kd.N_nil _ _ _ _ _ | exact Kd.V_nil _ _ _ _ _ | exact Kd.Q_nil _ _ _ _ _ | exact Kd.R_nil _ _ _ _ _,by repeat (with_reducible first | exact HB.out | apply below_alloc | apply pw_below_drewN | apply below_drew1 | refine below_set ?_ GE205.out | refine below_set ?_ GE206.out)⟩
mutual
def laws_FnChancesFold.j0:Nat → Bool → Bool → List Int → List (List Int) → Option (Bool)
 | 0,_,_,_,_=>none
 | k + 1,x5,x35,x672000,x672001=>if x35 = true then (some false) else (if x5 = true then ((impl_ChancesFold.f k x672000 x672001).bind fun bt681=>((impl_ChancesClasses.f k x672000 x672001).bind fun t689=>(laws_FnChancesFold.l0 k bt681.2.2 t689 0 x672000 x672001 bt681.1 bt681.2.1))) else (some true))
def laws_FnChancesFold.l0:Nat → Bool → List Int → Int → List Int → List (List Int) → List Int → List (List Int) → Option (Bool)
 | 0,_,_,_,_,_,_,_=>none
 | k + 1,x9,x10,x11,x672000,x672001,x689000,x689001=>if x11 < (x10.length:Int) then (if 0 ≤ x11 then (if (rd x10 x11) = x11 then (laws_FnChancesFold.l0 k x9 x10 (wrap64 (x11 + 1)) x672000 x672001 x689000 x689001) else (some false)) else (none)) else ((impl_ChancesOk.f k x672000 x672001).bind fun t693=>(if t693 = true then (if x9 = true then ((laws_mnChances.f k x689000 x689001 x672000 x672001).bind fun t694=>(some t694)) else (some false)) else (some false)))
end
def laws_FnChancesFold.f (k:Nat) (l0:List Int):Option (Bool):=if (l0.length:Int) > 1048576 then (some true) else ((spec_DrawChancesFold.f k l0).bind fun bt657=>((impl_ChancesFold.f k bt657.1 bt657.2).bind fun bt664=>((spec_ChancesFold.f k bt657.1 bt657.2).bind fun bt672=>((laws_mnChances.f k bt664.1 bt664.2.1 bt672.1 bt672.2.1).bind fun t680=>(if t680 = true then (laws_FnChancesFold.j0 k bt664.2.2 (bt664.2.2 != bt672.2.2) bt664.1 bt664.2.1) else (laws_FnChancesFold.j0 k bt664.2.2 true bt664.1 bt664.2.1))))))
theorem laws_FnChancesFold.mono_l:∀ k,(∀ y0 y1 y2 y3,LeO (laws_FnChancesFold.j0 k y0 y1 y2 y3) (laws_FnChancesFold.j0 (k + 1) y0 y1 y2 y3))∧(∀ y0 y1 y2 y3 y4 y5 y6,LeO (laws_FnChancesFold.l0 k y0 y1 y2 y3 y4 y5 y6) (laws_FnChancesFold.l0 (k + 1) y0 y1 y2 y3 y4 y5 y6))
 | 0=>⟨fun _ _ _ _ r h=>by simp [laws_FnChancesFold.j0] at h,fun _ _ _ _ _ _ _ r h=>by simp [laws_FnChancesFold.l0] at h⟩
 | k + 1=>by
  obtain ⟨ih0,ih1⟩:=laws_FnChancesFold.mono_l k
  refine ⟨?_,?_⟩
  ·intro y0 y1 y2 y3
   unfold laws_FnChancesFold.j0
   repeat' first
   | (with_reducible exact ih0 _ _ _ _)
   | (with_reducible exact ih1 _ _ _ _ _ _ _)
   | (with_reducible exact impl_ChancesClasses.mono _ _ _)
   | (with_reducible exact impl_ChancesFold.mono _ _ _)
   | (with_reducible exact impl_ChancesOk.mono _ _ _)
   | (with_reducible exact laws_mnChances.mono _ _ _ _ _)
   | (with_reducible exact spec_ChancesFold.mono _ _ _)
   | (with_reducible exact spec_DrawChancesFold.mono _ _)
   | (with_reducible exact LeO.refl _)
   | (with_reducible exact LeO.none _)
   | (with_reducible refine LeO.ite ?_ ?_)
   | (with_reducible refine LeO.bind ?_ (fun _=>?_))
   | exact ih0 _ _ _ _
   | exact ih1 _ _ _ _ _ _ _
   | exact impl_ChancesClasses.mono _ _ _
   | exact impl_ChancesFold.mono _ _ _
   | exact impl_ChancesOk.mono _ _ _
   | exact laws_mnChances.mono _ _ _ _ _
   | exact spec_ChancesFold.mono _ _ _
   | exact spec_DrawChancesFold.mono _ _
   | exact LeO.none _
   | refine LeO.ite ?_ ?_
   | refine LeO.bind ?_ (fun _=>?_)
  ·intro y0 y1 y2 y3 y4 y5 y6
   unfold laws_FnChancesFold.l0
   repeat' first
   | (with_reducible exact ih0 _ _ _ _)
   | (with_reducible exact ih1 _ _ _ _ _ _ _)
   | (with_reducible exact impl_ChancesClasses.mono _ _ _)
   | (with_reducible exact impl_ChancesFold.mono _ _ _)
   | (with_reducible exact impl_ChancesOk.mono _ _ _)
   | (with_reducible exact laws_mnChances.mono _ _ _ _ _)
   | (with_reducible exact spec_ChancesFold.mono _ _ _)
   | (with_reducible exact spec_DrawChancesFold.mono _ _)
   | (with_reducible exact LeO.refl _)
   | (with_reducible exact LeO.none _)
   | (with_reducible refine LeO.ite ?_ ?_)
   | (with_reducible refine LeO.bind ?_ (fun _=>?_))
   | exact ih0 _ _ _ _
   | exact ih1 _ _ _ _ _ _ _
   | exact impl_ChancesClasses.mono _ _ _
   | exact impl_ChancesFold.mono _ _ _
   | exact impl_ChancesOk.mono _ _ _
   | exact laws_mnChances.mono _ _ _ _ _
   | exact spec_ChancesFold.mono _ _ _
   | exact spec_DrawChancesFold.mono _ _
   | exact LeO.none _
   | refine LeO.ite ?_ ?_
   | refine LeO.bind ?_ (fun _=>?_)
theorem laws_FnChancesFold.mono:∀ a0 k,LeO (laws_FnChancesFold.f k a0) (laws_FnChancesFold.f (k + 1) a0):=by
 intro a0 k
 obtain ⟨ih0,ih1⟩:=laws_FnChancesFold.mono_l k
 unfold laws_FnChancesFold.f
 repeat' first
   | (with_reducible exact ih0 _ _ _ _)
   | (with_reducible exact ih1 _ _ _ _ _ _ _)
   | (with_reducible exact impl_ChancesClasses.mono _ _ _)
   | (with_reducible exact impl_ChancesFold.mono _ _ _)
   | (with_reducible exact impl_ChancesOk.mono _ _ _)
   | (with_reducible exact laws_mnChances.mono _ _ _ _ _)
   | (with_reducible exact spec_ChancesFold.mono _ _ _)
   | (with_reducible exact spec_DrawChancesFold.mono _ _)
   | (with_reducible exact LeO.refl _)
   | (with_reducible exact LeO.none _)
   | (with_reducible refine LeO.ite ?_ ?_)
   | (with_reducible refine LeO.bind ?_ (fun _=>?_))
   | exact ih0 _ _ _ _
   | exact ih1 _ _ _ _ _ _ _
   | exact impl_ChancesClasses.mono _ _ _
   | exact impl_ChancesFold.mono _ _ _
   | exact impl_ChancesOk.mono _ _ _
   | exact laws_mnChances.mono _ _ _ _ _
   | exact spec_ChancesFold.mono _ _ _
   | exact spec_DrawChancesFold.mono _ _
   | exact LeO.none _
   | refine LeO.ite ?_ ?_
   | refine LeO.bind ?_ (fun _=>?_)
set_option maxHeartbeats 8000000 in
set_option maxRecDepth 100000 in
theorem laws_FnChancesFold.calls (k:Nat) (A0:Option Addr) (c0:Nat) (l0:List Int) (r:Bool) (w:World) (hr0:Kd.C (Kd.int .u8) w A0 l0.length l0) (hc0:l0.length ≤ c0) (h:laws_FnChancesFold.f k l0 = some r) :
  Calls Try.prog 11 #[.slice A0 l0.length c0] w fun e w'=>e = .returned (.bool r)∧Below w.heap.size w w':=by
 have hu28:=Try.underlying28
 have HR0:=Aside0.mk hr0
 have HC0:=Aside0.mk hc0
 clear hr0 hc0
 have HB:=Aside0.mk (Below.refl w.heap.size w)
 have H:(if (l0.length:Int) > 1048576 then (some true) else ((spec_DrawChancesFold.f k l0).bind fun bt657=>((impl_ChancesFold.f k bt657.1 bt657.2).bind fun bt664=>((spec_ChancesFold.f k bt657.1 bt657.2).bind fun bt672=>((laws_mnChances.f k bt664.1 bt664.2.1 bt672.1 bt672.2.1).bind fun t680=>(if t680 = true then (laws_FnChancesFold.j0 k bt664.2.2 (bt664.2.2 != bt672.2.2) bt664.1 bt664.2.1) else (laws_FnChancesFold.j0 k bt664.2.2 true bt664.1 bt664.2.1))))))) = some r:=h
 clear h
 by_cases c2:(l0.length:Int) > 1048576
 ·rw [if_pos c2] at H
  have c2b0:decide (1048576 < (l0.length:Int)) = true:=decide_eq_true c2
  have c2b1:decide (1048576 < l0.length) = true:=decide_eq_true (by omega)
  clear c2
  obtain rfl:=Option.some.inj H
  go_enter Try.func11,Try.ntmps11
  go_wp2
  go_ret
  exact ⟨rfl,by exact HB.out⟩
 ·rw [if_neg c2] at H
  have c2b0:decide (1048576 < (l0.length:Int)) = false:=decide_eq_false c2
  have c2b1:decide (1048576 < l0.length) = false:=decide_eq_false (by omega)
  clear c2
  replace H:=Option.bind_eq_some_iff.mp H
  obtain ⟨⟨t657,t660⟩,A30,H⟩:=H
  replace H:((impl_ChancesFold.f k t657 t660).bind fun bt664=>((spec_ChancesFold.f k t657 t660).bind fun bt672=>((laws_mnChances.f k bt664.1 bt664.2.1 bt672.1 bt672.2.1).bind fun t680=>(if t680 = true then (laws_FnChancesFold.j0 k bt664.2.2 (bt664.2.2 != bt672.2.2) bt664.1 bt664.2.1) else (laws_FnChancesFold.j0 k bt664.2.2 true bt664.1 bt664.2.1))))) = some r:=H
  have A3:=Aside0.mk A30
  clear A30
  replace H:=Option.bind_eq_some_iff.mp H
  obtain ⟨⟨t664,t667,t670⟩,A40,H⟩:=H
  replace H:((spec_ChancesFold.f k t657 t660).bind fun bt672=>((laws_mnChances.f k t664 t667 bt672.1 bt672.2.1).bind fun t680=>(if t680 = true then (laws_FnChancesFold.j0 k t670 (t670 != bt672.2.2) t664 t667) else (laws_FnChancesFold.j0 k t670 true t664 t667)))) = some r:=H
  have A4:=Aside0.mk A40
  clear A40
  replace H:=Option.bind_eq_some_iff.mp H
  obtain ⟨⟨t672,t675,t678⟩,A50,H⟩:=H
  replace H:((laws_mnChances.f k t664 t667 t672 t675).bind fun t680=>(if t680 = true then (laws_FnChancesFold.j0 k t670 (t670 != t678) t664 t667) else (laws_FnChancesFold.j0 k t670 true t664 t667))) = some r:=H
  have A5:=Aside0.mk A50
  clear A50
  have HC6:=Aside0.mk H
  clear H
  go_enter Try.func11,Try.ntmps11
  go_upto_region 6 with (first | ((with_reducible refine gate_callee (f:=34) rfl ?_);refine goesL_ (some 16) rfl rfl Try.func34 (by kernel_rfl) rfl #[.slice A0 l0.length c0] rfl (by (try simp only [List.map_toArray,List.map_cons,List.map_nil]);first | done | rfl | (simp only [List.length_drop,List.length_take];rfl)) ?_;(with_reducible refine (spec_DrawChancesFold.calls k _ _ l0 t657 t660 _ ?side1 ?side2 A3.out).mono ?_);(case side1=>repeat (first | exact HR0.out | (with_reducible refine Kd.C_alloc ?_ _) | (with_reducible refine Kd.C_drewN ?_ _) | (with_reducible refine Kd.C_drew ?_)));(case side2=>exact HC0.out);rintro e w7 ⟨v658,v661,rfl,ho0,ho1,hb⟩;refine ⟨_,rfl,?_⟩;have n0_:=Aside0.mk (Kd.R_lower (Kd.R_mono (ok':=fun k_=>True) ho0 (fun _ hk_=>trivial)) (below_size (by repeat (with_reducible first | exact HB.out | apply below_alloc | apply pw_below_drewN | apply below_drew1))));have n1_:=Aside0.mk (Kd.N_lower (Kd.N_mono (ok':=fun k_=>some k_ ≠ (v658:Value).ownBlock) ho1 (fun k_ hk_=>hk_.2)) (below_size (by repeat (with_reducible first | exact HB.out | apply below_alloc | apply pw_below_drewN | apply below_drew1))));have n2_:=Aside0.mk (below_step (by repeat (with_reducible first | exact HB.out | apply below_alloc | apply pw_below_drewN | apply below_drew1)) hb);clear HB;have HO659:=n0_;have HO662:=n1_;have HB:=n2_;clear n0_ n1_ n2_;(try clear hb);(try clear hb2);(try clear hk);(try clear hi);(try clear ho0);(try clear ho1)) | ((with_reducible refine gate_dst (N:=3) rfl ?_);refine box_event ?hg (N:=3) ?hd (cs:=#[.slice none 0 0,.slice none 0 0]) (t:=28) ?hr ?_;(case hd=>rfl);(case hg=>rfl);(case hr=>first | (go_simp;done) | (go_simp;rfl));intro gb663 hg w8 hbox hb;have n0_:=Aside0.mk (Kd.R_below (by (with_reducible repeat (first | apply Kd.R_alloc | apply Kd.R_drewN | apply Kd.R_drew));exact HO659.out) hb);have n1_:=Aside0.mk (Kd.N_below (Kd.N_elderB (by (with_reducible repeat (first | apply Kd.N_alloc | apply Kd.N_drewN | apply Kd.N_drew));exact HO662.out) gb663 (Nat.le_of_eq hg.symm)) hb);have n2_:=Aside0.mk (below_step (by repeat (with_reducible first | exact HB.out | apply below_alloc | apply pw_below_drewN | apply below_drew1)) hb);have n3_:=Aside0.mk (hbox);have n4_:=Aside0.mk ((by rw [hg];exact (below_size (by repeat (with_reducible first | exact HB.out | apply below_alloc | apply pw_below_drewN | apply below_drew1))):w.heap.size ≤ gb663));have n5_:=Aside0.mk ((by rw [hg];exact (below_size (by repeat (with_reducible first | exact HB.out | apply below_alloc | apply pw_below_drewN | apply below_drew1))):w.heap.size ≤ gb663));clear HO659;clear HO662;clear HB;have HO659:=n0_;have HO662:=n1_;have HB:=n2_;have BK663:=n3_;have GW663:=n4_;have GE663:=n5_;clear n0_ n1_ n2_ n3_ n4_ n5_;clear hb hbox hg;obtain ⟨Ao9,co9,eo9⟩:=Kd.R_slice HO659.out;subst eo9;have hcz10_0:w8.cell? ⟨gb663,0,none⟩ = some (.slice none 0 0):=(blk_cell BK663.out 0).trans rfl;have hcz10_1:w8.cell? ⟨gb663,1,none⟩ = some (.slice none 0 0):=(blk_cell BK663.out 1).trans rfl;have hfz10_0:=blk_frozen BK663.out 0;have hfz10_1:=blk_frozen BK663.out 1;obtain ⟨Ao11,co11,eo11⟩:=Kd.N_slice HO662.out;subst eo11) | ((with_reducible refine gate_callee (f:=19) rfl ?_);refine goesL_ (some 19) rfl rfl Try.func19 (by kernel_rfl) rfl #[.agg #[.slice Ao9 t657.length co9,.slice Ao11 t660.length co11]] rfl (by (try simp only [List.map_toArray,List.map_cons,List.map_nil]);first | done | rfl | (simp only [List.length_drop,List.length_take];rfl)) ?_;(with_reducible refine (impl_ChancesFold.calls k _ _ t657 _ _ t660 t664 t667 t670 _ ?side1 ?side2 ?side3 ?side4 A4.out).mono ?_);(case side1=>refine (Kd.R_reads' (e:=3) (base:=w.heap.size) (ok:=fun k_=>True) (n:=t657.length) (c:=co9) ?_).2.2;exact (by (with_reducible repeat (first | apply Kd.R_alloc | apply Kd.R_drewN | apply Kd.R_drew));exact (Kd.R_mono (Kd.R_far (p:=⟨gb663,1,none⟩) (Kd.R_far (p:=⟨gb663,0,none⟩) (Kd.R_types HO659.out BK663.out (by decide)) (fun _ hk=>hk.2) (.slice Ao9 t657.length co9)) (fun _ hk=>hk.2) (.slice Ao11 t660.length co11)) (fun _ h_=>h_.1))));(case side2=>exact (Kd.R_reads' HO659.out).2.1);(case side3=>refine (Kd.N_reads' (e:=22) (base:=w.heap.size) (ok:=fun k_=>(some k_ ≠ (.slice Ao9 t657.length co9:Value).ownBlock∧k_ ≠ gb663)) (n:=t660.length) (c:=co11) ?_).2.2;exact (by (with_reducible repeat (first | apply Kd.N_alloc | apply Kd.N_drewN | apply Kd.N_drew));exact (Kd.N_mono (Kd.N_far (p:=⟨gb663,1,none⟩) (Kd.N_far (p:=⟨gb663,0,none⟩) (Kd.N_mono HO662.out (fun k_ hk=>(⟨hk,hk.2⟩:_∧k_ ≠ gb663))) (fun _ hk=>hk.2) (.slice Ao9 t657.length co9)) (fun _ hk=>hk.2) (.slice Ao11 t660.length co11)) (fun _ h_=>h_.1))));(case side4=>exact (Kd.N_reads' HO662.out).2.1);rintro e w12 ⟨v665,v668,rfl,ho0,ho1,hb⟩;refine ⟨_,rfl,?_⟩;have n0_:=Aside0.mk (Kd.R_elder' (by (with_reducible repeat (first | apply Kd.R_alloc | apply Kd.R_drewN | apply Kd.R_drew));exact (Kd.R_mono (Kd.R_far (p:=⟨gb663,1,none⟩) (Kd.R_far (p:=⟨gb663,0,none⟩) (Kd.R_types HO659.out BK663.out (by decide)) (fun _ hk=>hk.2) (.slice Ao9 t657.length co9)) (fun _ hk=>hk.2) (.slice Ao11 t660.length co11)) (fun _ h_=>h_.1))) (Kd.R_base ho0) hb);have n1_:=Aside0.mk (Kd.N_mono (Kd.N_told (Kd.N_told (Kd.N_old (by (with_reducible repeat (first | apply Kd.N_alloc | apply Kd.N_drewN | apply Kd.N_drew));exact (Kd.N_mono (Kd.N_far (p:=⟨gb663,1,none⟩) (Kd.N_far (p:=⟨gb663,0,none⟩) (Kd.N_mono HO662.out (fun k_ hk=>(⟨hk,hk.2⟩:_∧k_ ≠ gb663))) (fun _ hk=>hk.2) (.slice Ao9 t657.length co9)) (fun _ hk=>hk.2) (.slice Ao11 t660.length co11)) (fun _ h_=>h_.1))) hb) (Kd.R_base ho0)) (Kd.N_base ho1)) (fun _ h_=>h_.1));have n2_:=Aside0.mk (Kd.R_lower (Kd.R_new' (Kd.R_mono (ok':=fun k_=>True) ho0 (fun _ hk_=>trivial)) (Kd.R_lt (by (with_reducible repeat (first | apply Kd.R_alloc | apply Kd.R_drewN | apply Kd.R_drew));exact (Kd.R_mono (Kd.R_far (p:=⟨gb663,1,none⟩) (Kd.R_far (p:=⟨gb663,0,none⟩) (Kd.R_types HO659.out BK663.out (by decide)) (fun _ hk=>hk.2) (.slice Ao9 t657.length co9)) (fun _ hk=>hk.2) (.slice Ao11 t660.length co11)) (fun _ h_=>h_.1))))) (below_size (by repeat (with_reducible first | exact HB.out | apply below_alloc | apply pw_below_drewN | apply below_drew1 | refine below_set ?_ GE663.out))));have n3_:=Aside0.mk (Kd.N_lower (Kd.N_mono (ok':=fun k_=>some k_ ≠ (v665:Value).ownBlock∧some k_ ≠ (.slice Ao9 t657.length co9:Value).ownBlock∧some k_ ≠ (.slice Ao11 t660.length co11:Value).ownBlock∧k_ ≠ gb663) ho1 (fun k_ hk_=>⟨hk_.2,(Kd.fresh' (Kd.R_lt (by (with_reducible repeat (first | apply Kd.R_alloc | apply Kd.R_drewN | apply Kd.R_drew));exact (Kd.R_mono (Kd.R_far (p:=⟨gb663,1,none⟩) (Kd.R_far (p:=⟨gb663,0,none⟩) (Kd.R_types HO659.out BK663.out (by decide)) (fun _ hk=>hk.2) (.slice Ao9 t657.length co9)) (fun _ hk=>hk.2) (.slice Ao11 t660.length co11)) (fun _ h_=>h_.1)))) k_ hk_.1),(Kd.fresh' (Kd.N_lt (by (with_reducible repeat (first | apply Kd.N_alloc | apply Kd.N_drewN | apply Kd.N_drew));exact (Kd.N_mono (Kd.N_far (p:=⟨gb663,1,none⟩) (Kd.N_far (p:=⟨gb663,0,none⟩) (Kd.N_mono HO662.out (fun k_ hk=>(⟨hk,hk.2⟩:_∧k_ ≠ gb663))) (fun _ hk=>hk.2) (.slice Ao9 t657.length co9)) (fun _ hk=>hk.2) (.slice Ao11 t660.length co11)) (fun _ h_=>h_.1)))) k_ hk_.1),(Kd.freshB (g:=gb663) (o:=.cells #[.slice Ao9 t657.length co9,.slice Ao11 t660.length co11] 28 (0,0)) (by (with_reducible repeat (first | refine blk_drewN ?_ _ | refine blk_drew ?_ | refine blk_alloc ?_ _));refine blk_put (cs:=#[.slice Ao9 t657.length co9,.slice none 0 0]) ?_ 1 _ rfl;(with_reducible repeat (first | refine blk_drewN ?_ _ | refine blk_drew ?_ | refine blk_alloc ?_ _));refine blk_put (cs:=#[.slice none 0 0,.slice none 0 0]) ?_ 0 _ rfl;(with_reducible repeat (first | refine blk_drewN ?_ _ | refine blk_drew ?_ | refine blk_alloc ?_ _));exact BK663.out) k_ hk_.1)⟩)) (below_size (by repeat (with_reducible first | exact HB.out | apply below_alloc | apply pw_below_drewN | apply below_drew1 | refine below_set ?_ GE663.out))));have n4_:=Aside0.mk (blk_below (g:=gb663) (o:=.cells #[.slice Ao9 t657.length co9,.slice Ao11 t660.length co11] 28 (0,0)) (by (with_reducible repeat (first | refine blk_drewN ?_ _ | refine blk_drew ?_ | refine blk_alloc ?_ _));refine blk_put (cs:=#[.slice Ao9 t657.length co9,.slice none 0 0]) ?_ 1 _ rfl;(with_reducible repeat (first | refine blk_drewN ?_ _ | refine blk_drew ?_ | refine blk_alloc ?_ _));refine blk_put (cs:=#[.slice none 0 0,.slice none 0 0]) ?_ 0 _ rfl;(with_reducible repeat (first | refine blk_drewN ?_ _ | refine blk_drew ?_ | refine blk_alloc ?_ _));exact BK663.out) hb);have n5_:=Aside0.mk (below_step (by repeat (with_reducible first | exact HB.out | apply below_alloc | apply pw_below_drewN | apply below_drew1 | refine below_set ?_ GE663.out)) hb);clear HO659;clear HO662;clear BK663;clear HB;have HO659:=n0_;have HO662:=n1_;have HO666:=n2_;have HO669:=n3_;have BK663:=n4_;have HB:=n5_;clear n0_ n1_ n2_ n3_ n4_ n5_;(try clear hb);(try clear hb2);(try clear hk);(try clear hi);(try clear ho0);(try clear ho1)) | ((with_reducible refine gate_dst (N:=4) rfl ?_);refine box_event ?hg (N:=4) ?hd (cs:=#[.slice none 0 0,.slice none 0 0]) (t:=28) ?hr ?_;(case hd=>rfl);(case hg=>rfl);(case hr=>first | (go_simp;done) | (go_simp;rfl));intro gb671 hg w13 hbox hb;have n0_:=Aside0.mk (Kd.R_below (by (with_reducible repeat (first | apply Kd.R_alloc | apply Kd.R_drewN | apply Kd.R_drew));exact HO659.out) hb);have n1_:=Aside0.mk (Kd.N_below (Kd.N_elderB (by (with_reducible repeat (first | apply Kd.N_alloc | apply Kd.N_drewN | apply Kd.N_drew));exact HO662.out) gb671 (Nat.le_of_eq hg.symm)) hb);have n2_:=Aside0.mk (Kd.R_below (by (with_reducible repeat (first | apply Kd.R_alloc | apply Kd.R_drewN | apply Kd.R_drew));exact HO666.out) hb);have n3_:=Aside0.mk (Kd.N_below (Kd.N_elderB (by (with_reducible repeat (first | apply Kd.N_alloc | apply Kd.N_drewN | apply Kd.N_drew));exact HO669.out) gb671 (Nat.le_of_eq hg.symm)) hb);have n4_:=Aside0.mk (blk_below (g:=gb663) (o:=.cells #[.slice Ao9 t657.length co9,.slice Ao11 t660.length co11] 28 (0,0)) (by (with_reducible repeat (first | refine blk_drewN ?_ _ | refine blk_drew ?_ | refine blk_alloc ?_ _));exact BK663.out) hb);have n5_:=Aside0.mk (below_step (by repeat (with_reducible first | exact HB.out | apply below_alloc | apply pw_below_drewN | apply below_drew1 | refine below_set ?_ GE663.out)) hb);have n6_:=Aside0.mk (hbox);have n7_:=Aside0.mk ((by rw [hg];exact (below_size (by repeat (with_reducible first | exact HB.out | apply below_alloc | apply pw_below_drewN | apply below_drew1 | refine below_set ?_ GE663.out))):w.heap.size ≤ gb671));have n8_:=Aside0.mk ((by rw [hg];exact (below_size (by repeat (with_reducible first | exact HB.out | apply below_alloc | apply pw_below_drewN | apply below_drew1 | refine below_set ?_ GE663.out))):w.heap.size ≤ gb671));have n9_:=Aside0.mk ((by rw [hg];exact Nat.ne_of_lt (blk_lt (g:=gb663) (o:=.cells #[.slice Ao9 t657.length co9,.slice Ao11 t660.length co11] 28 (0,0)) (by (with_reducible repeat (first | refine blk_drewN ?_ _ | refine blk_drew ?_ | refine blk_alloc ?_ _));exact BK663.out)):gb663 ≠ gb671));have n10_:=Aside0.mk ((by rw [hg];exact Nat.ne_of_gt (blk_lt (g:=gb663) (o:=.cells #[.slice Ao9 t657.length co9,.slice Ao11 t660.length co11] 28 (0,0)) (by (with_reducible repeat (first | refine blk_drewN ?_ _ | refine blk_drew ?_ | refine blk_alloc ?_ _));exact BK663.out)):gb671 ≠ gb663));clear HO659;clear HO662;clear HO666;clear HO669;clear BK663;clear HB;have HO659:=n0_;have HO662:=n1_;have HO666:=n2_;have HO669:=n3_;have BK663:=n4_;have HB:=n5_;have BK671:=n6_;have GW671:=n7_;have GE671:=n8_;have NB663_671:=n9_;have NB671_663:=n10_;clear n0_ n1_ n2_ n3_ n4_ n5_ n6_ n7_ n8_ n9_ n10_;clear hb hbox hg;obtain ⟨Ao14,co14,eo14⟩:=Kd.R_slice HO666.out;subst eo14;have hnb15:=NB671_663.out;have hnc15:=NB663_671.out;have hcz16_0:w13.cell? ⟨gb671,0,none⟩ = some (.slice none 0 0):=(blk_cell BK671.out 0).trans rfl;have hcz16_1:w13.cell? ⟨gb671,1,none⟩ = some (.slice none 0 0):=(blk_cell BK671.out 1).trans rfl;have hfz16_0:=blk_frozen BK671.out 0;have hfz16_1:=blk_frozen BK671.out 1;obtain ⟨Ao17,co17,eo17⟩:=Kd.N_slice HO669.out;subst eo17;have hcz18_0:w13.cell? ⟨gb663,0,none⟩ = some (.slice Ao9 t657.length co9):=(blk_cell BK663.out 0).trans rfl;have hcz18_1:w13.cell? ⟨gb663,1,none⟩ = some (.slice Ao11 t660.length co11):=(blk_cell BK663.out 1).trans rfl;have hfz18_0:=blk_frozen BK663.out 0;have hfz18_1:=blk_frozen BK663.out 1) | ((with_reducible refine gate_callee (f:=35) rfl ?_);refine goesL_ (some 24) rfl rfl Try.func35 (by kernel_rfl) rfl #[.agg #[.slice Ao9 t657.length co9,.slice Ao11 t660.length co11]] rfl (by (try simp only [List.map_toArray,List.map_cons,List.map_nil]);first | done | rfl | (simp only [List.length_drop,List.length_take];rfl)) ?_;(with_reducible refine (spec_ChancesFold.calls k _ _ t657 _ _ t660 t672 t675 t678 _ ?side1 ?side2 ?side3 ?side4 A5.out).mono ?_);(case side1=>refine (Kd.R_reads' (e:=3) (base:=w.heap.size) (ok:=fun k_=>(True∧some k_ ≠ (.slice Ao14 t664.length co14:Value).ownBlock)) (n:=t657.length) (c:=co9) ?_).2.2;exact (by (with_reducible repeat (first | apply Kd.R_alloc | apply Kd.R_drewN | apply Kd.R_drew));exact (Kd.R_mono (Kd.R_far (p:=⟨gb671,1,none⟩) (Kd.R_far (p:=⟨gb671,0,none⟩) (Kd.R_types HO659.out BK671.out (by decide)) (fun _ hk=>hk.2) (.slice Ao14 t664.length co14)) (fun _ hk=>hk.2) (.slice Ao17 t667.length co17)) (fun _ h_=>h_.1))));(case side2=>exact (Kd.R_reads' HO659.out).2.1);(case side3=>refine (Kd.N_reads' (e:=22) (base:=w.heap.size) (ok:=fun k_=>((((some k_ ≠ (.slice Ao9 t657.length co9:Value).ownBlock∧k_ ≠ gb663)∧some k_ ≠ (.slice Ao14 t664.length co14:Value).ownBlock)∧some k_ ≠ (.slice Ao17 t667.length co17:Value).ownBlock)∧k_ ≠ gb671)) (n:=t660.length) (c:=co11) ?_).2.2;exact (by (with_reducible repeat (first | apply Kd.N_alloc | apply Kd.N_drewN | apply Kd.N_drew));exact (Kd.N_mono (Kd.N_far (p:=⟨gb671,1,none⟩) (Kd.N_far (p:=⟨gb671,0,none⟩) (Kd.N_mono HO662.out (fun k_ hk=>(⟨hk,hk.2⟩:_∧k_ ≠ gb671))) (fun _ hk=>hk.2) (.slice Ao14 t664.length co14)) (fun _ hk=>hk.2) (.slice Ao17 t667.length co17)) (fun _ h_=>h_.1))));(case side4=>exact (Kd.N_reads' HO662.out).2.1);rintro e w19 ⟨v673,v676,rfl,ho0,ho1,hb⟩;refine ⟨_,rfl,?_⟩;have n0_:=Aside0.mk (Kd.R_elder' (by (with_reducible repeat (first | apply Kd.R_alloc | apply Kd.R_drewN | apply Kd.R_drew));exact (Kd.R_mono (Kd.R_far (p:=⟨gb671,1,none⟩) (Kd.R_far (p:=⟨gb671,0,none⟩) (Kd.R_types HO659.out BK671.out (by decide)) (fun _ hk=>hk.2) (.slice Ao14 t664.length co14)) (fun _ hk=>hk.2) (.slice Ao17 t667.length co17)) (fun _ h_=>h_.1))) (Kd.R_base ho0) hb);have n1_:=Aside0.mk (Kd.N_mono (Kd.N_told (Kd.N_told (Kd.N_old (by (with_reducible repeat (first | apply Kd.N_alloc | apply Kd.N_drewN | apply Kd.N_drew));exact (Kd.N_mono (Kd.N_far (p:=⟨gb671,1,none⟩) (Kd.N_far (p:=⟨gb671,0,none⟩) (Kd.N_mono HO662.out (fun k_ hk=>(⟨hk,hk.2⟩:_∧k_ ≠ gb671))) (fun _ hk=>hk.2) (.slice Ao14 t664.length co14)) (fun _ hk=>hk.2) (.slice Ao17 t667.length co17)) (fun _ h_=>h_.1))) hb) (Kd.R_base ho0)) (Kd.N_base ho1)) (fun _ h_=>h_.1));have n2_:=Aside0.mk (Kd.R_elder' (by (with_reducible repeat (first | apply Kd.R_alloc | apply Kd.R_drewN | apply Kd.R_drew));exact (Kd.R_mono (Kd.R_far (p:=⟨gb671,1,none⟩) (Kd.R_far (p:=⟨gb671,0,none⟩) (Kd.R_types HO666.out BK671.out (by decide)) (fun _ hk=>hk.2) (.slice Ao14 t664.length co14)) (fun _ hk=>hk.2) (.slice Ao17 t667.length co17)) (fun _ h_=>h_.1))) (Kd.R_base ho0) hb);have n3_:=Aside0.mk (Kd.N_mono (Kd.N_told (Kd.N_told (Kd.N_old (by (with_reducible repeat (first | apply Kd.N_alloc | apply Kd.N_drewN | apply Kd.N_drew));exact (Kd.N_mono (Kd.N_far (p:=⟨gb671,1,none⟩) (Kd.N_far (p:=⟨gb671,0,none⟩) (Kd.N_mono HO669.out (fun k_ hk=>(⟨hk,hk.2⟩:_∧k_ ≠ gb671))) (fun _ hk=>hk.2) (.slice Ao14 t664.length co14)) (fun _ hk=>hk.2) (.slice Ao17 t667.length co17)) (fun _ h_=>h_.1))) hb) (Kd.R_base ho0)) (Kd.N_base ho1)) (fun _ h_=>h_.1));have n4_:=Aside0.mk (Kd.R_lower (Kd.R_new' (Kd.R_new' (Kd.R_mono (ok':=fun k_=>True) ho0 (fun _ hk_=>trivial)) (Kd.R_lt (by (with_reducible repeat (first | apply Kd.R_alloc | apply Kd.R_drewN | apply Kd.R_drew));exact (Kd.R_mono (Kd.R_far (p:=⟨gb671,1,none⟩) (Kd.R_far (p:=⟨gb671,0,none⟩) (Kd.R_types HO659.out BK671.out (by decide)) (fun _ hk=>hk.2) (.slice Ao14 t664.length co14)) (fun _ hk=>hk.2) (.slice Ao17 t667.length co17)) (fun _ h_=>h_.1))))) (Kd.R_lt (by (with_reducible repeat (first | apply Kd.R_alloc | apply Kd.R_drewN | apply Kd.R_drew));exact (Kd.R_mono (Kd.R_far (p:=⟨gb671,1,none⟩) (Kd.R_far (p:=⟨gb671,0,none⟩) (Kd.R_types HO666.out BK671.out (by decide)) (fun _ hk=>hk.2) (.slice Ao14 t664.length co14)) (fun _ hk=>hk.2) (.slice Ao17 t667.length co17)) (fun _ h_=>h_.1))))) (below_size (by repeat (with_reducible first | exact HB.out | apply below_alloc | apply pw_below_drewN | apply below_drew1 | refine below_set ?_ GE663.out | refine below_set ?_ GE671.out))));have n5_:=Aside0.mk (Kd.N_lower (Kd.N_mono (ok':=fun k_=>some k_ ≠ (v673:Value).ownBlock∧some k_ ≠ (.slice Ao9 t657.length co9:Value).ownBlock∧some k_ ≠ (.slice Ao11 t660.length co11:Value).ownBlock∧some k_ ≠ (.slice Ao14 t664.length co14:Value).ownBlock∧some k_ ≠ (.slice Ao17 t667.length co17:Value).ownBlock∧k_ ≠ gb663∧k_ ≠ gb671) ho1 (fun k_ hk_=>⟨hk_.2,(Kd.fresh' (Kd.R_lt (by (with_reducible repeat (first | apply Kd.R_alloc | apply Kd.R_drewN | apply Kd.R_drew));exact (Kd.R_mono (Kd.R_far (p:=⟨gb671,1,none⟩) (Kd.R_far (p:=⟨gb671,0,none⟩) (Kd.R_types HO659.out BK671.out (by decide)) (fun _ hk=>hk.2) (.slice Ao14 t664.length co14)) (fun _ hk=>hk.2) (.slice Ao17 t667.length co17)) (fun _ h_=>h_.1)))) k_ hk_.1),(Kd.fresh' (Kd.N_lt (by (with_reducible repeat (first | apply Kd.N_alloc | apply Kd.N_drewN | apply Kd.N_drew));exact (Kd.N_mono (Kd.N_far (p:=⟨gb671,1,none⟩) (Kd.N_far (p:=⟨gb671,0,none⟩) (Kd.N_mono HO662.out (fun k_ hk=>(⟨hk,hk.2⟩:_∧k_ ≠ gb671))) (fun _ hk=>hk.2) (.slice Ao14 t664.length co14)) (fun _ hk=>hk.2) (.slice Ao17 t667.length co17)) (fun _ h_=>h_.1)))) k_ hk_.1),(Kd.fresh' (Kd.R_lt (by (with_reducible repeat (first | apply Kd.R_alloc | apply Kd.R_drewN | apply Kd.R_drew));exact (Kd.R_mono (Kd.R_far (p:=⟨gb671,1,none⟩) (Kd.R_far (p:=⟨gb671,0,none⟩) (Kd.R_types HO666.out BK671.out (by decide)) (fun _ hk=>hk.2) (.slice Ao14 t664.length co14)) (fun _ hk=>hk.2) (.slice Ao17 t667.length co17)) (fun _ h_=>h_.1)))) k_ hk_.1),(Kd.fresh' (Kd.N_lt (by (with_reducible repeat (first | apply Kd.N_alloc | apply Kd.N_drewN | apply Kd.N_drew));exact (Kd.N_mono (Kd.N_far (p:=⟨gb671,1,none⟩) (Kd.N_far (p:=⟨gb671,0,none⟩) (Kd.N_mono HO669.out (fun k_ hk=>(⟨hk,hk.2⟩:_∧k_ ≠ gb671))) (fun _ hk=>hk.2) (.slice Ao14 t664.length co14)) (fun _ hk=>hk.2) (.slice Ao17 t667.length co17)) (fun _ h_=>h_.1)))) k_ hk_.1),(Kd.freshB (g:=gb663) (o:=.cells #[.slice Ao9 t657.length co9,.slice Ao11 t660.length co11] 28 (0,0)) (by (with_reducible repeat (first | refine blk_drewN ?_ _ | refine blk_drew ?_ | refine blk_alloc ?_ _));refine blk_far ?_ NB663_671.out _;(with_reducible repeat (first | refine blk_drewN ?_ _ | refine blk_drew ?_ | refine blk_alloc ?_ _));refine blk_far ?_ NB663_671.out _;(with_reducible repeat (first | refine blk_drewN ?_ _ | refine blk_drew ?_ | refine blk_alloc ?_ _));exact BK663.out) k_ hk_.1),(Kd.freshB (g:=gb671) (o:=.cells #[.slice Ao14 t664.length co14,.slice Ao17 t667.length co17] 28 (0,0)) (by (with_reducible repeat (first | refine blk_drewN ?_ _ | refine blk_drew ?_ | refine blk_alloc ?_ _));refine blk_put (cs:=#[.slice Ao14 t664.length co14,.slice none 0 0]) ?_ 1 _ rfl;(with_reducible repeat (first | refine blk_drewN ?_ _ | refine blk_drew ?_ | refine blk_alloc ?_ _));refine blk_put (cs:=#[.slice none 0 0,.slice none 0 0]) ?_ 0 _ rfl;(with_reducible repeat (first | refine blk_drewN ?_ _ | refine blk_drew ?_ | refine blk_alloc ?_ _));exact BK671.out) k_ hk_.1)⟩)) (below_size (by repeat (with_reducible first | exact HB.out | apply below_alloc | apply pw_below_drewN | apply below_drew1 | refine below_set ?_ GE663.out | refine below_set ?_ GE671.out))));have n6_:=Aside0.mk (blk_below (g:=gb663) (o:=.cells #[.slice Ao9 t657.length co9,.slice Ao11 t660.length co11] 28 (0,0)) (by (with_reducible repeat (first | refine blk_drewN ?_ _ | refine blk_drew ?_ | refine blk_alloc ?_ _));refine blk_far ?_ NB663_671.out _;(with_reducible repeat (first | refine blk_drewN ?_ _ | refine blk_drew ?_ | refine blk_alloc ?_ _));refine blk_far ?_ NB663_671.out _;(with_reducible repeat (first | refine blk_drewN ?_ _ | refine blk_drew ?_ | refine blk_alloc ?_ _));exact BK663.out) hb);have n7_:=Aside0.mk (blk_below (g:=gb671) (o:=.cells #[.slice Ao14 t664.length co14,.slice Ao17 t667.length co17] 28 (0,0)) (by (with_reducible repeat (first | refine blk_drewN ?_ _ | refine blk_drew ?_ | refine blk_alloc ?_ _));refine blk_put (cs:=#[.slice Ao14 t664.length co14,.slice none 0 0]) ?_ 1 _ rfl;(with_reducible repeat (first | refine blk_drewN ?_ _ | refine blk_drew ?_ | refine blk_alloc ?_ _));refine blk_put (cs:=#[.slice none 0 0,.slice none 0 0]) ?_ 0 _ rfl;(with_reducible repeat (first | refine blk_drewN ?_ _ | refine blk_drew ?_ | refine blk_alloc ?_ _));exact BK671.out) hb);have n8_:=Aside0.mk (below_step (by repeat (with_reducible first | exact HB.out | apply below_alloc | apply pw_below_drewN | apply below_drew1 | refine below_set ?_ GE663.out | refine below_set ?_ GE671.out)) hb);clear HO659;clear HO662;clear HO666;clear HO669;clear BK663;clear BK671;clear HB;have HO659:=n0_;have HO662:=n1_;have HO666:=n2_;have HO669:=n3_;have HO674:=n4_;have HO677:=n5_;have BK663:=n6_;have BK671:=n7_;have HB:=n8_;clear n0_ n1_ n2_ n3_ n4_ n5_ n6_ n7_ n8_;(try clear hb);(try clear hb2);(try clear hk);(try clear hi);(try clear ho0);(try clear ho1)) | ((with_reducible refine gate_dst (N:=6) rfl ?_);refine box_event ?hg (N:=6) ?hd (cs:=#[.slice none 0 0,.slice none 0 0]) (t:=28) ?hr ?_;(case hd=>rfl);(case hg=>rfl);(case hr=>first | (go_simp;done) | (go_simp;rfl));intro gb679 hg w20 hbox hb;have n0_:=Aside0.mk (Kd.R_below (by (with_reducible repeat (first | apply Kd.R_alloc | apply Kd.R_drewN | apply Kd.R_drew));exact HO659.out) hb);have n1_:=Aside0.mk (Kd.N_below (Kd.N_elderB (by (with_reducible repeat (first | apply Kd.N_alloc | apply Kd.N_drewN | apply Kd.N_drew));exact HO662.out) gb679 (Nat.le_of_eq hg.symm)) hb);have n2_:=Aside0.mk (Kd.R_below (by (with_reducible repeat (first | apply Kd.R_alloc | apply Kd.R_drewN | apply Kd.R_drew));exact HO666.out) hb);have n3_:=Aside0.mk (Kd.N_below (Kd.N_elderB (by (with_reducible repeat (first | apply Kd.N_alloc | apply Kd.N_drewN | apply Kd.N_drew));exact HO669.out) gb679 (Nat.le_of_eq hg.symm)) hb);have n4_:=Aside0.mk (Kd.R_below (by (with_reducible repeat (first | apply Kd.R_alloc | apply Kd.R_drewN | apply Kd.R_drew));exact HO674.out) hb);have n5_:=Aside0.mk (Kd.N_below (Kd.N_elderB (by (with_reducible repeat (first | apply Kd.N_alloc | apply Kd.N_drewN | apply Kd.N_drew));exact HO677.out) gb679 (Nat.le_of_eq hg.symm)) hb);have n6_:=Aside0.mk (blk_below (g:=gb663) (o:=.cells #[.slice Ao9 t657.length co9,.slice Ao11 t660.length co11] 28 (0,0)) (by (with_reducible repeat (first | refine blk_drewN ?_ _ | refine blk_drew ?_ | refine blk_alloc ?_ _));exact BK663.out) hb);have n7_:=Aside0.mk (blk_below (g:=gb671) (o:=.cells #[.slice Ao14 t664.length co14,.slice Ao17 t667.length co17] 28 (0,0)) (by (with_reducible repeat (first | refine blk_drewN ?_ _ | refine blk_drew ?_ | refine blk_alloc ?_ _));exact BK671.out) hb);have n8_:=Aside0.mk (below_step (by repeat (with_reducible first | exact HB.out | apply below_alloc | apply pw_below_drewN | apply below_drew1 | refine below_set ?_ GE663.out | refine below_set ?_ GE671.out)) hb);have n9_:=Aside0.mk (hbox);have n10_:=Aside0.mk ((by rw [hg];exact (below_size (by repeat (with_reducible first | exact HB.out | apply below_alloc | apply pw_below_drewN | apply below_drew1 | refine below_set ?_ GE663.out | refine below_set ?_ GE671.out))):w.heap.size ≤ gb679));have n11_:=Aside0.mk ((by rw [hg];exact (below_size (by repeat (with_reducible first | exact HB.out | apply below_alloc | apply pw_below_drewN | apply below_drew1 | refine below_set ?_ GE663.out | refine below_set ?_ GE671.out))):w.heap.size ≤ gb679));have n12_:=Aside0.mk ((by rw [hg];exact Nat.ne_of_lt (blk_lt (g:=gb663) (o:=.cells #[.slice Ao9 t657.length co9,.slice Ao11 t660.length co11] 28 (0,0)) (by (with_reducible repeat (first | refine blk_drewN ?_ _ | refine blk_drew ?_ | refine blk_alloc ?_ _));exact BK663.out)):gb663 ≠ gb679));have n13_:=Aside0.mk ((by rw [hg];exact Nat.ne_of_gt (blk_lt (g:=gb663) (o:=.cells #[.slice Ao9 t657.length co9,.slice Ao11 t660.length co11] 28 (0,0)) (by (with_reducible repeat (first | refine blk_drewN ?_ _ | refine blk_drew ?_ | refine blk_alloc ?_ _));exact BK663.out)):gb679 ≠ gb663));have n14_:=Aside0.mk ((by rw [hg];exact Nat.ne_of_lt (blk_lt (g:=gb671) (o:=.cells #[.slice Ao14 t664.length co14,.slice Ao17 t667.length co17] 28 (0,0)) (by (with_reducible repeat (first | refine blk_drewN ?_ _ | refine blk_drew ?_ | refine blk_alloc ?_ _));exact BK671.out)):gb671 ≠ gb679));have n15_:=Aside0.mk ((by rw [hg];exact Nat.ne_of_gt (blk_lt (g:=gb671) (o:=.cells #[.slice Ao14 t664.length co14,.slice Ao17 t667.length co17] 28 (0,0)) (by (with_reducible repeat (first | refine blk_drewN ?_ _ | refine blk_drew ?_ | refine blk_alloc ?_ _));exact BK671.out)):gb679 ≠ gb671));clear HO659;clear HO662;clear HO666;clear HO669;clear HO674;clear HO677;clear BK663;clear BK671;clear HB;have HO659:=n0_;have HO662:=n1_;have HO666:=n2_;have HO669:=n3_;have HO674:=n4_;have HO677:=n5_;have BK663:=n6_;have BK671:=n7_;have HB:=n8_;have BK679:=n9_;have GW679:=n10_;have GE679:=n11_;have NB663_679:=n12_;have NB679_663:=n13_;have NB671_679:=n14_;have NB679_671:=n15_;clear n0_ n1_ n2_ n3_ n4_ n5_ n6_ n7_ n8_ n9_ n10_ n11_ n12_ n13_ n14_ n15_;clear hb hbox hg;obtain ⟨Ao21,co21,eo21⟩:=Kd.R_slice HO674.out;subst eo21;have hnb22:=NB679_663.out;have hnc22:=NB663_679.out;have hnb23:=NB679_671.out;have hnc23:=NB671_679.out;have hcz24_0:w20.cell? ⟨gb679,0,none⟩ = some (.slice none 0 0):=(blk_cell BK679.out 0).trans rfl;have hcz24_1:w20.cell? ⟨gb679,1,none⟩ = some (.slice none 0 0):=(blk_cell BK679.out 1).trans rfl;have hfz24_0:=blk_frozen BK679.out 0;have hfz24_1:=blk_frozen BK679.out 1;obtain ⟨Ao25,co25,eo25⟩:=Kd.N_slice HO677.out;subst eo25))
  (try simp only [Act.put,List.setIfInBounds_toArray,List.set_cons_zero,List.set_cons_succ])
  go_cut [35] (fun v35 wc=>∃ (kq:Nat) (x35_5:Bool),v35 = .bool x35_5∧Aside0 (laws_FnChancesFold.j0 kq t670 x35_5 t664 t667 = some r)∧Aside0 (kq ≤ k)∧Aside0 (Kd.R (Kd.int .i64) 3 wc w.heap.size (fun k_=>some k_ ≠ ((.slice Ao14 t664.length co14):Value).ownBlock∧some k_ ≠ ((.slice Ao21 t672.length co21):Value).ownBlock) (.slice Ao9 t657.length co9) t657)∧Aside0 (Kd.N (Kd.slice 3 (Kd.int .i64)) 22 wc w.heap.size (fun k_=>some k_ ≠ ((.slice Ao9 t657.length co9):Value).ownBlock∧some k_ ≠ ((.slice Ao14 t664.length co14):Value).ownBlock∧some k_ ≠ ((.slice Ao17 t667.length co17):Value).ownBlock∧some k_ ≠ ((.slice Ao21 t672.length co21):Value).ownBlock∧some k_ ≠ ((.slice Ao25 t675.length co25):Value).ownBlock∧k_ ≠ gb663∧k_ ≠ gb671∧k_ ≠ gb679) (.slice Ao11 t660.length co11) t660)∧Aside0 (Kd.R (Kd.int .i64) 3 wc w.heap.size (fun k_=>some k_ ≠ ((.slice Ao9 t657.length co9):Value).ownBlock∧some k_ ≠ ((.slice Ao21 t672.length co21):Value).ownBlock) (.slice Ao14 t664.length co14) t664)∧Aside0 (Kd.N (Kd.slice 3 (Kd.int .i64)) 22 wc w.heap.size (fun k_=>some k_ ≠ ((.slice Ao9 t657.length co9):Value).ownBlock∧some k_ ≠ ((.slice Ao11 t660.length co11):Value).ownBlock∧some k_ ≠ ((.slice Ao14 t664.length co14):Value).ownBlock∧some k_ ≠ ((.slice Ao21 t672.length co21):Value).ownBlock∧some k_ ≠ ((.slice Ao25 t675.length co25):Value).ownBlock∧k_ ≠ gb663∧k_ ≠ gb671∧k_ ≠ gb679) (.slice Ao17 t667.length co17) t667)∧Aside0 (Kd.R (Kd.int .i64) 3 wc w.heap.size (fun k_=>some k_ ≠ ((.slice Ao9 t657.length co9):Value).ownBlock∧some k_ ≠ ((.slice Ao14 t664.length co14):Value).ownBlock) (.slice Ao21 t672.length co21) t672)∧Aside0 (Kd.N (Kd.slice 3 (Kd.int .i64)) 22 wc w.heap.size (fun k_=>some k_ ≠ ((.slice Ao9 t657.length co9):Value).ownBlock∧some k_ ≠ ((.slice Ao11 t660.length co11):Value).ownBlock∧some k_ ≠ ((.slice Ao14 t664.length co14):Value).ownBlock∧some k_ ≠ ((.slice Ao17 t667.length co17):Value).ownBlock∧some k_ ≠ ((.slice Ao21 t672.length co21):Value).ownBlock∧k_ ≠ gb663∧k_ ≠ gb671∧k_ ≠ gb679) (.slice Ao25 t675.length co25) t675)∧Aside0 (wc.heap[gb663]? = some (.cells #[(.slice Ao9 t657.length co9),(.slice Ao11 t660.length co11)] 28 (0,0)))∧Aside0 (wc.heap[gb671]? = some (.cells #[(.slice Ao14 t664.length co14),(.slice Ao17 t667.length co17)] 28 (0,0)))∧Aside0 (wc.heap[gb679]? = some (.cells #[(.slice Ao21 t672.length co21),(.slice Ao25 t675.length co25)] 28 (0,0)))∧Aside0 (Below w.heap.size w wc))
  case first =>
   have H:=HC6.out
   clear HC6
   replace H:=Option.bind_eq_some_iff.mp H
   obtain ⟨t680,A260,H⟩:=H
   replace H:(if t680 = true then (laws_FnChancesFold.j0 k t670 (t670 != t678) t664 t667) else (laws_FnChancesFold.j0 k t670 true t664 t667)) = some r:=H
   have A26:=Aside0.mk A260
   clear A260
   by_cases c27:t680 = true
   ·subst c27
    have H1:(laws_FnChancesFold.j0 k t670 (t670 != t678) t664 t667) = some r:=by rw [if_pos rfl] at H;exact H
    clear H
    have H:=H1
    clear H1
    have H':=Aside0.mk H
    clear H
    have hnb28:=NB671_663.out
    have hnc28:=NB663_671.out
    have hnb29:=NB671_679.out
    have hnc29:=NB679_671.out
    have hcz30_0:w20.cell? ⟨gb671,0,none⟩ = some (.slice Ao14 t664.length co14):=(blk_cell BK671.out 0).trans rfl
    have hcz30_1:w20.cell? ⟨gb671,1,none⟩ = some (.slice Ao17 t667.length co17):=(blk_cell BK671.out 1).trans rfl
    have hfz30_0:=blk_frozen BK671.out 0
    have hfz30_1:=blk_frozen BK671.out 1
    have hnb31:=NB679_663.out
    have hnc31:=NB663_679.out
    have hcz32_0:w20.cell? ⟨gb679,0,none⟩ = some (.slice none 0 0):=(blk_cell BK679.out 0).trans rfl
    have hcz32_1:w20.cell? ⟨gb679,1,none⟩ = some (.slice none 0 0):=(blk_cell BK679.out 1).trans rfl
    have hfz32_0:=blk_frozen BK679.out 0
    have hfz32_1:=blk_frozen BK679.out 1
    go_wp2_with (first | ((with_reducible refine gate_callee (f:=36) rfl ?_);refine goesL_ (some 29) rfl rfl Try.func36 (by kernel_rfl) rfl #[.agg #[.slice Ao14 t664.length co14,.slice Ao17 t667.length co17],.agg #[.slice Ao21 t672.length co21,.slice Ao25 t675.length co25]] rfl (by (try simp only [List.map_toArray,List.map_cons,List.map_nil]);first | done | rfl | (simp only [List.length_drop,List.length_take];rfl)) ?_;(with_reducible refine (laws_mnChances.calls k _ _ t664 _ _ t667 _ _ t672 _ _ t675 true _ ?side1 ?side2 ?side3 ?side4 ?side5 ?side6 ?side7 ?side8 A26.out).mono ?_);(case side1=>refine (Kd.R_reads' (e:=3) (base:=w.heap.size) (ok:=fun k_=>((True∧some k_ ≠ (.slice Ao9 t657.length co9:Value).ownBlock)∧some k_ ≠ (.slice Ao21 t672.length co21:Value).ownBlock)) (n:=t664.length) (c:=co14) ?_).2.2;exact (by (with_reducible repeat (first | apply Kd.R_alloc | apply Kd.R_drewN | apply Kd.R_drew));exact (Kd.R_mono (Kd.R_far (p:=⟨gb679,1,none⟩) (Kd.R_far (p:=⟨gb679,0,none⟩) (Kd.R_types HO666.out BK679.out (by decide)) (fun _ hk=>hk.2) (.slice Ao21 t672.length co21)) (fun _ hk=>hk.2) (.slice Ao25 t675.length co25)) (fun _ h_=>h_.1))));(case side2=>exact (Kd.R_reads' HO666.out).2.1);(case side3=>refine (Kd.N_reads' (e:=22) (base:=w.heap.size) (ok:=fun k_=>(((((some k_ ≠ (.slice Ao14 t664.length co14:Value).ownBlock∧(some k_ ≠ (.slice Ao9 t657.length co9:Value).ownBlock∧(some k_ ≠ (.slice Ao11 t660.length co11:Value).ownBlock∧k_ ≠ gb663)))∧k_ ≠ gb671)∧some k_ ≠ (.slice Ao21 t672.length co21:Value).ownBlock)∧some k_ ≠ (.slice Ao25 t675.length co25:Value).ownBlock)∧k_ ≠ gb679)) (n:=t667.length) (c:=co17) ?_).2.2;exact (by (with_reducible repeat (first | apply Kd.N_alloc | apply Kd.N_drewN | apply Kd.N_drew));exact (Kd.N_mono (Kd.N_far (p:=⟨gb679,1,none⟩) (Kd.N_far (p:=⟨gb679,0,none⟩) (Kd.N_mono HO669.out (fun k_ hk=>(⟨hk,hk.2⟩:_∧k_ ≠ gb679))) (fun _ hk=>hk.2) (.slice Ao21 t672.length co21)) (fun _ hk=>hk.2) (.slice Ao25 t675.length co25)) (fun _ h_=>h_.1))));(case side4=>exact (Kd.N_reads' HO669.out).2.1);(case side5=>refine (Kd.R_reads' (e:=3) (base:=w.heap.size) (ok:=fun k_=>((True∧some k_ ≠ (.slice Ao9 t657.length co9:Value).ownBlock)∧some k_ ≠ (.slice Ao14 t664.length co14:Value).ownBlock)) (n:=t672.length) (c:=co21) ?_).2.2;exact (by (with_reducible repeat (first | apply Kd.R_alloc | apply Kd.R_drewN | apply Kd.R_drew));exact (Kd.R_mono (Kd.R_far (p:=⟨gb679,1,none⟩) (Kd.R_far (p:=⟨gb679,0,none⟩) (Kd.R_types HO674.out BK679.out (by decide)) (fun _ hk=>hk.2) (.slice Ao21 t672.length co21)) (fun _ hk=>hk.2) (.slice Ao25 t675.length co25)) (fun _ h_=>h_.1))));(case side6=>exact (Kd.R_reads' HO674.out).2.1);(case side7=>refine (Kd.N_reads' (e:=22) (base:=w.heap.size) (ok:=fun k_=>((some k_ ≠ (.slice Ao21 t672.length co21:Value).ownBlock∧(some k_ ≠ (.slice Ao9 t657.length co9:Value).ownBlock∧(some k_ ≠ (.slice Ao11 t660.length co11:Value).ownBlock∧(some k_ ≠ (.slice Ao14 t664.length co14:Value).ownBlock∧(some k_ ≠ (.slice Ao17 t667.length co17:Value).ownBlock∧(k_ ≠ gb663∧k_ ≠ gb671))))))∧k_ ≠ gb679)) (n:=t675.length) (c:=co25) ?_).2.2;exact (by (with_reducible repeat (first | apply Kd.N_alloc | apply Kd.N_drewN | apply Kd.N_drew));exact (Kd.N_mono (Kd.N_far (p:=⟨gb679,1,none⟩) (Kd.N_far (p:=⟨gb679,0,none⟩) (Kd.N_mono HO677.out (fun k_ hk=>(⟨hk,hk.2⟩:_∧k_ ≠ gb679))) (fun _ hk=>hk.2) (.slice Ao21 t672.length co21)) (fun _ hk=>hk.2) (.slice Ao25 t675.length co25)) (fun _ h_=>h_.1))));(case side8=>exact (Kd.N_reads' HO677.out).2.1);rintro e w33 ⟨rfl,hb⟩;refine ⟨_,rfl,?_⟩;have n0_:=Aside0.mk (Kd.R_below (by (with_reducible repeat (first | apply Kd.R_alloc | apply Kd.R_drewN | apply Kd.R_drew));exact (Kd.R_mono (Kd.R_far (p:=⟨gb679,1,none⟩) (Kd.R_far (p:=⟨gb679,0,none⟩) (Kd.R_types HO659.out BK679.out (by decide)) (fun _ hk=>hk.2) (.slice Ao21 t672.length co21)) (fun _ hk=>hk.2) (.slice Ao25 t675.length co25)) (fun _ h_=>h_.1))) hb);have n1_:=Aside0.mk (Kd.N_below (by (with_reducible repeat (first | apply Kd.N_alloc | apply Kd.N_drewN | apply Kd.N_drew));exact (Kd.N_mono (Kd.N_far (p:=⟨gb679,1,none⟩) (Kd.N_far (p:=⟨gb679,0,none⟩) (Kd.N_mono HO662.out (fun k_ hk=>(⟨hk,hk.2⟩:_∧k_ ≠ gb679))) (fun _ hk=>hk.2) (.slice Ao21 t672.length co21)) (fun _ hk=>hk.2) (.slice Ao25 t675.length co25)) (fun _ h_=>h_.1))) hb);have n2_:=Aside0.mk (Kd.R_below (by (with_reducible repeat (first | apply Kd.R_alloc | apply Kd.R_drewN | apply Kd.R_drew));exact (Kd.R_mono (Kd.R_far (p:=⟨gb679,1,none⟩) (Kd.R_far (p:=⟨gb679,0,none⟩) (Kd.R_types HO666.out BK679.out (by decide)) (fun _ hk=>hk.2) (.slice Ao21 t672.length co21)) (fun _ hk=>hk.2) (.slice Ao25 t675.length co25)) (fun _ h_=>h_.1))) hb);have n3_:=Aside0.mk (Kd.N_below (by (with_reducible repeat (first | apply Kd.N_alloc | apply Kd.N_drewN | apply Kd.N_drew));exact (Kd.N_mono (Kd.N_far (p:=⟨gb679,1,none⟩) (Kd.N_far (p:=⟨gb679,0,none⟩) (Kd.N_mono HO669.out (fun k_ hk=>(⟨hk,hk.2⟩:_∧k_ ≠ gb679))) (fun _ hk=>hk.2) (.slice Ao21 t672.length co21)) (fun _ hk=>hk.2) (.slice Ao25 t675.length co25)) (fun _ h_=>h_.1))) hb);have n4_:=Aside0.mk (Kd.R_below (by (with_reducible repeat (first | apply Kd.R_alloc | apply Kd.R_drewN | apply Kd.R_drew));exact (Kd.R_mono (Kd.R_far (p:=⟨gb679,1,none⟩) (Kd.R_far (p:=⟨gb679,0,none⟩) (Kd.R_types HO674.out BK679.out (by decide)) (fun _ hk=>hk.2) (.slice Ao21 t672.length co21)) (fun _ hk=>hk.2) (.slice Ao25 t675.length co25)) (fun _ h_=>h_.1))) hb);have n5_:=Aside0.mk (Kd.N_below (by (with_reducible repeat (first | apply Kd.N_alloc | apply Kd.N_drewN | apply Kd.N_drew));exact (Kd.N_mono (Kd.N_far (p:=⟨gb679,1,none⟩) (Kd.N_far (p:=⟨gb679,0,none⟩) (Kd.N_mono HO677.out (fun k_ hk=>(⟨hk,hk.2⟩:_∧k_ ≠ gb679))) (fun _ hk=>hk.2) (.slice Ao21 t672.length co21)) (fun _ hk=>hk.2) (.slice Ao25 t675.length co25)) (fun _ h_=>h_.1))) hb);have n6_:=Aside0.mk (blk_below (g:=gb663) (o:=.cells #[.slice Ao9 t657.length co9,.slice Ao11 t660.length co11] 28 (0,0)) (by (with_reducible repeat (first | refine blk_drewN ?_ _ | refine blk_drew ?_ | refine blk_alloc ?_ _));refine blk_far ?_ NB663_679.out _;(with_reducible repeat (first | refine blk_drewN ?_ _ | refine blk_drew ?_ | refine blk_alloc ?_ _));refine blk_far ?_ NB663_679.out _;(with_reducible repeat (first | refine blk_drewN ?_ _ | refine blk_drew ?_ | refine blk_alloc ?_ _));exact BK663.out) hb);have n7_:=Aside0.mk (blk_below (g:=gb671) (o:=.cells #[.slice Ao14 t664.length co14,.slice Ao17 t667.length co17] 28 (0,0)) (by (with_reducible repeat (first | refine blk_drewN ?_ _ | refine blk_drew ?_ | refine blk_alloc ?_ _));refine blk_far ?_ NB671_679.out _;(with_reducible repeat (first | refine blk_drewN ?_ _ | refine blk_drew ?_ | refine blk_alloc ?_ _));refine blk_far ?_ NB671_679.out _;(with_reducible repeat (first | refine blk_drewN ?_ _ | refine blk_drew ?_ | refine blk_alloc ?_ _));exact BK671.out) hb);have n8_:=Aside0.mk (blk_below (g:=gb679) (o:=.cells #[.slice Ao21 t672.length co21,.slice Ao25 t675.length co25] 28 (0,0)) (by (with_reducible repeat (first | refine blk_drewN ?_ _ | refine blk_drew ?_ | refine blk_alloc ?_ _));refine blk_put (cs:=#[.slice Ao21 t672.length co21,.slice none 0 0]) ?_ 1 _ rfl;(with_reducible repeat (first | refine blk_drewN ?_ _ | refine blk_drew ?_ | refine blk_alloc ?_ _));refine blk_put (cs:=#[.slice none 0 0,.slice none 0 0]) ?_ 0 _ rfl;(with_reducible repeat (first | refine blk_drewN ?_ _ | refine blk_drew ?_ | refine blk_alloc ?_ _));exact BK679.out) hb);have n9_:=Aside0.mk (below_step (by repeat (with_reducible first | exact HB.out | apply below_alloc | apply pw_below_drewN | apply below_drew1 | refine below_set ?_ GE663.out | refine below_set ?_ GE671.out | refine below_set ?_ GE679.out)) hb);clear HO659;clear HO662;clear HO666;clear HO669;clear HO674;clear HO677;clear BK663;clear BK671;clear BK679;clear HB;have HO659:=n0_;have HO662:=n1_;have HO666:=n2_;have HO669:=n3_;have HO674:=n4_;have HO677:=n5_;have BK663:=n6_;have BK671:=n7_;have BK679:=n8_;have HB:=n9_;clear n0_ n1_ n2_ n3_ n4_ n5_ n6_ n7_ n8_ n9_;(try clear hb);(try clear hb2);(try clear hk);(try clear hi)))
    go_meet
    case rel=>exact ⟨_,((t670 != t678)),(by first | rfl | (simp;done) | (simp [*];done)),H',⟨by first | omega | exact Nat.le_refl _⟩,⟨by exact Kd.R_mono HO659.out (fun _ hk=>⟨hk.1.2,hk.2⟩)⟩,⟨by exact Kd.N_mono HO662.out (fun _ hk=>⟨hk.1.1.1.1.1.1.1,⟨hk.1.1.1.1.1.2,⟨hk.1.1.1.1.2,⟨hk.1.1.2,⟨hk.1.2,⟨hk.1.1.1.1.1.1.2,⟨hk.1.1.1.2,hk.2⟩⟩⟩⟩⟩⟩⟩)⟩,⟨by exact Kd.R_mono HO666.out (fun _ hk=>⟨hk.1.2,hk.2⟩)⟩,⟨by exact Kd.N_mono HO669.out (fun _ hk=>⟨hk.1.1.1.1.2.1,⟨hk.1.1.1.1.2.2.1,⟨hk.1.1.1.1.1,⟨hk.1.1.2,⟨hk.1.2,⟨hk.1.1.1.1.2.2.2,⟨hk.1.1.1.2,hk.2⟩⟩⟩⟩⟩⟩⟩)⟩,⟨by exact Kd.R_mono HO674.out (fun _ hk=>⟨hk.1.2,hk.2⟩)⟩,⟨by exact Kd.N_mono HO677.out (fun _ hk=>⟨hk.1.2.1,⟨hk.1.2.2.1,⟨hk.1.2.2.2.1,⟨hk.1.2.2.2.2.1,⟨hk.1.1,⟨hk.1.2.2.2.2.2.1,⟨hk.1.2.2.2.2.2.2,hk.2⟩⟩⟩⟩⟩⟩⟩)⟩,⟨by exact BK663.out⟩,⟨by exact BK671.out⟩,⟨by exact BK679.out⟩,⟨by exact HB.out⟩⟩
   ·replace c27:=Bool.eq_false_iff.mpr c27
    subst c27
    have H1:(laws_FnChancesFold.j0 k t670 true t664 t667) = some r:=by rw [if_neg (show ¬ (false = true) by decide)] at H;exact H
    clear H
    have H:=H1
    clear H1
    have H':=Aside0.mk H
    clear H
    have hnb34:=NB671_663.out
    have hnc34:=NB663_671.out
    have hnb35:=NB671_679.out
    have hnc35:=NB679_671.out
    have hcz36_0:w20.cell? ⟨gb671,0,none⟩ = some (.slice Ao14 t664.length co14):=(blk_cell BK671.out 0).trans rfl
    have hcz36_1:w20.cell? ⟨gb671,1,none⟩ = some (.slice Ao17 t667.length co17):=(blk_cell BK671.out 1).trans rfl
    have hfz36_0:=blk_frozen BK671.out 0
    have hfz36_1:=blk_frozen BK671.out 1
    have hnb37:=NB679_663.out
    have hnc37:=NB663_679.out
    have hcz38_0:w20.cell? ⟨gb679,0,none⟩ = some (.slice none 0 0):=(blk_cell BK679.out 0).trans rfl
    have hcz38_1:w20.cell? ⟨gb679,1,none⟩ = some (.slice none 0 0):=(blk_cell BK679.out 1).trans rfl
    have hfz38_0:=blk_frozen BK679.out 0
    have hfz38_1:=blk_frozen BK679.out 1
    go_wp2_with (first | ((with_reducible refine gate_callee (f:=36) rfl ?_);refine goesL_ (some 29) rfl rfl Try.func36 (by kernel_rfl) rfl #[.agg #[.slice Ao14 t664.length co14,.slice Ao17 t667.length co17],.agg #[.slice Ao21 t672.length co21,.slice Ao25 t675.length co25]] rfl (by (try simp only [List.map_toArray,List.map_cons,List.map_nil]);first | done | rfl | (simp only [List.length_drop,List.length_take];rfl)) ?_;(with_reducible refine (laws_mnChances.calls k _ _ t664 _ _ t667 _ _ t672 _ _ t675 false _ ?side1 ?side2 ?side3 ?side4 ?side5 ?side6 ?side7 ?side8 A26.out).mono ?_);(case side1=>refine (Kd.R_reads' (e:=3) (base:=w.heap.size) (ok:=fun k_=>((True∧some k_ ≠ (.slice Ao9 t657.length co9:Value).ownBlock)∧some k_ ≠ (.slice Ao21 t672.length co21:Value).ownBlock)) (n:=t664.length) (c:=co14) ?_).2.2;exact (by (with_reducible repeat (first | apply Kd.R_alloc | apply Kd.R_drewN | apply Kd.R_drew));exact (Kd.R_mono (Kd.R_far (p:=⟨gb679,1,none⟩) (Kd.R_far (p:=⟨gb679,0,none⟩) (Kd.R_types HO666.out BK679.out (by decide)) (fun _ hk=>hk.2) (.slice Ao21 t672.length co21)) (fun _ hk=>hk.2) (.slice Ao25 t675.length co25)) (fun _ h_=>h_.1))));(case side2=>exact (Kd.R_reads' HO666.out).2.1);(case side3=>refine (Kd.N_reads' (e:=22) (base:=w.heap.size) (ok:=fun k_=>(((((some k_ ≠ (.slice Ao14 t664.length co14:Value).ownBlock∧(some k_ ≠ (.slice Ao9 t657.length co9:Value).ownBlock∧(some k_ ≠ (.slice Ao11 t660.length co11:Value).ownBlock∧k_ ≠ gb663)))∧k_ ≠ gb671)∧some k_ ≠ (.slice Ao21 t672.length co21:Value).ownBlock)∧some k_ ≠ (.slice Ao25 t675.length co25:Value).ownBlock)∧k_ ≠ gb679)) (n:=t667.length) (c:=co17) ?_).2.2;exact (by (with_reducible repeat (first | apply Kd.N_alloc | apply Kd.N_drewN | apply Kd.N_drew));exact (Kd.N_mono (Kd.N_far (p:=⟨gb679,1,none⟩) (Kd.N_far (p:=⟨gb679,0,none⟩) (Kd.N_mono HO669.out (fun k_ hk=>(⟨hk,hk.2⟩:_∧k_ ≠ gb679))) (fun _ hk=>hk.2) (.slice Ao21 t672.length co21)) (fun _ hk=>hk.2) (.slice Ao25 t675.length co25)) (fun _ h_=>h_.1))));(case side4=>exact (Kd.N_reads' HO669.out).2.1);(case side5=>refine (Kd.R_reads' (e:=3) (base:=w.heap.size) (ok:=fun k_=>((True∧some k_ ≠ (.slice Ao9 t657.length co9:Value).ownBlock)∧some k_ ≠ (.slice Ao14 t664.length co14:Value).ownBlock)) (n:=t672.length) (c:=co21) ?_).2.2;exact (by (with_reducible repeat (first | apply Kd.R_alloc | apply Kd.R_drewN | apply Kd.R_drew));exact (Kd.R_mono (Kd.R_far (p:=⟨gb679,1,none⟩) (Kd.R_far (p:=⟨gb679,0,none⟩) (Kd.R_types HO674.out BK679.out (by decide)) (fun _ hk=>hk.2) (.slice Ao21 t672.length co21)) (fun _ hk=>hk.2) (.slice Ao25 t675.length co25)) (fun _ h_=>h_.1))));(case side6=>exact (Kd.R_reads' HO674.out).2.1);(case side7=>refine (Kd.N_reads' (e:=22) (base:=w.heap.size) (ok:=fun k_=>((some k_ ≠ (.slice Ao21 t672.length co21:Value).ownBlock∧(some k_ ≠ (.slice Ao9 t657.length co9:Value).ownBlock∧(some k_ ≠ (.slice Ao11 t660.length co11:Value).ownBlock∧(some k_ ≠ (.slice Ao14 t664.length co14:Value).ownBlock∧(some k_ ≠ (.slice Ao17 t667.length co17:Value).ownBlock∧(k_ ≠ gb663∧k_ ≠ gb671))))))∧k_ ≠ gb679)) (n:=t675.length) (c:=co25) ?_).2.2;exact (by (with_reducible repeat (first | apply Kd.N_alloc | apply Kd.N_drewN | apply Kd.N_drew));exact (Kd.N_mono (Kd.N_far (p:=⟨gb679,1,none⟩) (Kd.N_far (p:=⟨gb679,0,none⟩) (Kd.N_mono HO677.out (fun k_ hk=>(⟨hk,hk.2⟩:_∧k_ ≠ gb679))) (fun _ hk=>hk.2) (.slice Ao21 t672.length co21)) (fun _ hk=>hk.2) (.slice Ao25 t675.length co25)) (fun _ h_=>h_.1))));(case side8=>exact (Kd.N_reads' HO677.out).2.1);rintro e w39 ⟨rfl,hb⟩;refine ⟨_,rfl,?_⟩;have n0_:=Aside0.mk (Kd.R_below (by (with_reducible repeat (first | apply Kd.R_alloc | apply Kd.R_drewN | apply Kd.R_drew));exact (Kd.R_mono (Kd.R_far (p:=⟨gb679,1,none⟩) (Kd.R_far (p:=⟨gb679,0,none⟩) (Kd.R_types HO659.out BK679.out (by decide)) (fun _ hk=>hk.2) (.slice Ao21 t672.length co21)) (fun _ hk=>hk.2) (.slice Ao25 t675.length co25)) (fun _ h_=>h_.1))) hb);have n1_:=Aside0.mk (Kd.N_below (by (with_reducible repeat (first | apply Kd.N_alloc | apply Kd.N_drewN | apply Kd.N_drew));exact (Kd.N_mono (Kd.N_far (p:=⟨gb679,1,none⟩) (Kd.N_far (p:=⟨gb679,0,none⟩) (Kd.N_mono HO662.out (fun k_ hk=>(⟨hk,hk.2⟩:_∧k_ ≠ gb679))) (fun _ hk=>hk.2) (.slice Ao21 t672.length co21)) (fun _ hk=>hk.2) (.slice Ao25 t675.length co25)) (fun _ h_=>h_.1))) hb);have n2_:=Aside0.mk (Kd.R_below (by (with_reducible repeat (first | apply Kd.R_alloc | apply Kd.R_drewN | apply Kd.R_drew));exact (Kd.R_mono (Kd.R_far (p:=⟨gb679,1,none⟩) (Kd.R_far (p:=⟨gb679,0,none⟩) (Kd.R_types HO666.out BK679.out (by decide)) (fun _ hk=>hk.2) (.slice Ao21 t672.length co21)) (fun _ hk=>hk.2) (.slice Ao25 t675.length co25)) (fun _ h_=>h_.1))) hb);have n3_:=Aside0.mk (Kd.N_below (by (with_reducible repeat (first | apply Kd.N_alloc | apply Kd.N_drewN | apply Kd.N_drew));exact (Kd.N_mono (Kd.N_far (p:=⟨gb679,1,none⟩) (Kd.N_far (p:=⟨gb679,0,none⟩) (Kd.N_mono HO669.out (fun k_ hk=>(⟨hk,hk.2⟩:_∧k_ ≠ gb679))) (fun _ hk=>hk.2) (.slice Ao21 t672.length co21)) (fun _ hk=>hk.2) (.slice Ao25 t675.length co25)) (fun _ h_=>h_.1))) hb);have n4_:=Aside0.mk (Kd.R_below (by (with_reducible repeat (first | apply Kd.R_alloc | apply Kd.R_drewN | apply Kd.R_drew));exact (Kd.R_mono (Kd.R_far (p:=⟨gb679,1,none⟩) (Kd.R_far (p:=⟨gb679,0,none⟩) (Kd.R_types HO674.out BK679.out (by decide)) (fun _ hk=>hk.2) (.slice Ao21 t672.length co21)) (fun _ hk=>hk.2) (.slice Ao25 t675.length co25)) (fun _ h_=>h_.1))) hb);have n5_:=Aside0.mk (Kd.N_below (by (with_reducible repeat (first | apply Kd.N_alloc | apply Kd.N_drewN | apply Kd.N_drew));exact (Kd.N_mono (Kd.N_far (p:=⟨gb679,1,none⟩) (Kd.N_far (p:=⟨gb679,0,none⟩) (Kd.N_mono HO677.out (fun k_ hk=>(⟨hk,hk.2⟩:_∧k_ ≠ gb679))) (fun _ hk=>hk.2) (.slice Ao21 t672.length co21)) (fun _ hk=>hk.2) (.slice Ao25 t675.length co25)) (fun _ h_=>h_.1))) hb);have n6_:=Aside0.mk (blk_below (g:=gb663) (o:=.cells #[.slice Ao9 t657.length co9,.slice Ao11 t660.length co11] 28 (0,0)) (by (with_reducible repeat (first | refine blk_drewN ?_ _ | refine blk_drew ?_ | refine blk_alloc ?_ _));refine blk_far ?_ NB663_679.out _;(with_reducible repeat (first | refine blk_drewN ?_ _ | refine blk_drew ?_ | refine blk_alloc ?_ _));refine blk_far ?_ NB663_679.out _;(with_reducible repeat (first | refine blk_drewN ?_ _ | refine blk_drew ?_ | refine blk_alloc ?_ _));exact BK663.out) hb);have n7_:=Aside0.mk (blk_below (g:=gb671) (o:=.cells #[.slice Ao14 t664.length co14,.slice Ao17 t667.length co17] 28 (0,0)) (by (with_reducible repeat (first | refine blk_drewN ?_ _ | refine blk_drew ?_ | refine blk_alloc ?_ _));refine blk_far ?_ NB671_679.out _;(with_reducible repeat (first | refine blk_drewN ?_ _ | refine blk_drew ?_ | refine blk_alloc ?_ _));refine blk_far ?_ NB671_679.out _;(with_reducible repeat (first | refine blk_drewN ?_ _ | refine blk_drew ?_ | refine blk_alloc ?_ _));exact BK671.out) hb);have n8_:=Aside0.mk (blk_below (g:=gb679) (o:=.cells #[.slice Ao21 t672.length co21,.slice Ao25 t675.length co25] 28 (0,0)) (by (with_reducible repeat (first | refine blk_drewN ?_ _ | refine blk_drew ?_ | refine blk_alloc ?_ _));refine blk_put (cs:=#[.slice Ao21 t672.length co21,.slice none 0 0]) ?_ 1 _ rfl;(with_reducible repeat (first | refine blk_drewN ?_ _ | refine blk_drew ?_ | refine blk_alloc ?_ _));refine blk_put (cs:=#[.slice none 0 0,.slice none 0 0]) ?_ 0 _ rfl;(with_reducible repeat (first | refine blk_drewN ?_ _ | refine blk_drew ?_ | refine blk_alloc ?_ _));exact BK679.out) hb);have n9_:=Aside0.mk (below_step (by repeat (with_reducible first | exact HB.out | apply below_alloc | apply pw_below_drewN | apply below_drew1 | refine below_set ?_ GE663.out | refine below_set ?_ GE671.out | refine below_set ?_ GE679.out)) hb);clear HO659;clear HO662;clear HO666;clear HO669;clear HO674;clear HO677;clear BK663;clear BK671;clear BK679;clear HB;have HO659:=n0_;have HO662:=n1_;have HO666:=n2_;have HO669:=n3_;have HO674:=n4_;have HO677:=n5_;have BK663:=n6_;have BK671:=n7_;have BK679:=n8_;have HB:=n9_;clear n0_ n1_ n2_ n3_ n4_ n5_ n6_ n7_ n8_ n9_;(try clear hb);(try clear hb2);(try clear hk);(try clear hi)))
    go_meet
    case rel=>exact ⟨_,(true),(by first | rfl | (simp;done) | (simp [*];done)),H',⟨by first | omega | exact Nat.le_refl _⟩,⟨by exact Kd.R_mono HO659.out (fun _ hk=>⟨hk.1.2,hk.2⟩)⟩,⟨by exact Kd.N_mono HO662.out (fun _ hk=>⟨hk.1.1.1.1.1.1.1,⟨hk.1.1.1.1.1.2,⟨hk.1.1.1.1.2,⟨hk.1.1.2,⟨hk.1.2,⟨hk.1.1.1.1.1.1.2,⟨hk.1.1.1.2,hk.2⟩⟩⟩⟩⟩⟩⟩)⟩,⟨by exact Kd.R_mono HO666.out (fun _ hk=>⟨hk.1.2,hk.2⟩)⟩,⟨by exact Kd.N_mono HO669.out (fun _ hk=>⟨hk.1.1.1.1.2.1,⟨hk.1.1.1.1.2.2.1,⟨hk.1.1.1.1.1,⟨hk.1.1.2,⟨hk.1.2,⟨hk.1.1.1.1.2.2.2,⟨hk.1.1.1.2,hk.2⟩⟩⟩⟩⟩⟩⟩)⟩,⟨by exact Kd.R_mono HO674.out (fun _ hk=>⟨hk.1.2,hk.2⟩)⟩,⟨by exact Kd.N_mono HO677.out (fun _ hk=>⟨hk.1.2.1,⟨hk.1.2.2.1,⟨hk.1.2.2.2.1,⟨hk.1.2.2.2.2.1,⟨hk.1.1,⟨hk.1.2.2.2.2.2.1,⟨hk.1.2.2.2.2.2.2,hk.2⟩⟩⟩⟩⟩⟩⟩)⟩,⟨by exact BK663.out⟩,⟨by exact BK671.out⟩,⟨by exact BK679.out⟩,⟨by exact HB.out⟩⟩
  case rest =>
   clear HC6
   try clear c1
   try clear c2
   try clear c2b0
   try clear c2b1
   try clear p2
   try clear c3
   try clear c11
   try clear c15
   try clear c19
   try clear c22
   try clear c23
   try clear c27
   try clear c28
   try clear c29
   try clear c31
   try clear c34
   try clear c35
   try clear c36
   try clear c37
   try clear hcz10_0
   try clear hcz10_1
   try clear hcz16_0
   try clear hcz16_1
   try clear hcz18_0
   try clear hcz18_1
   try clear hcz24_0
   try clear hcz24_1
   try clear hcz30_0
   try clear hcz30_1
   try clear hcz32_0
   try clear hcz32_1
   try clear hcz36_0
   try clear hcz36_1
   try clear hcz38_0
   try clear hcz38_1
   try clear hfz10_0
   try clear hfz10_1
   try clear hfz16_0
   try clear hfz16_1
   try clear hfz18_0
   try clear hfz18_1
   try clear hfz24_0
   try clear hfz24_1
   try clear hfz30_0
   try clear hfz30_1
   try clear hfz32_0
   try clear hfz32_1
   try clear hfz36_0
   try clear hfz36_1
   try clear hfz38_0
   try clear hfz38_1
   obtain ⟨kq,x35_5,rfl,HA,HJ5,HO_664000,HO_664001,HO_672000,HO_672001,HO_680000,HO_680001,BK663,BK671,BK679,HB⟩:=hcut
   cases kq with
   | zero=>exact absurd HA.out (by simp [laws_FnChancesFold.j0])
   | succ kj5 =>
    have H:=HA.out
    clear HA
    simp only [laws_FnChancesFold.j0] at H
    by_cases c40:x35_5 = true
    ·subst c40
     have H1:(some false) = some r:=by rw [if_pos rfl] at H;exact H
     clear H
     have H:=H1
     clear H1
     obtain rfl:=Option.some.inj H
     go_wp2
     go_ret
     exact ⟨rfl,by exact HB.out⟩
    ·replace c40:=Bool.eq_false_iff.mpr c40
     subst c40
     have H1:(if t670 = true then ((impl_ChancesFold.f kj5 t664 t667).bind fun bt681=>((impl_ChancesClasses.f kj5 t664 t667).bind fun t689=>(laws_FnChancesFold.l0 kj5 bt681.2.2 t689 0 t664 t667 bt681.1 bt681.2.1))) else (some true)) = some r:=by rw [if_neg (show ¬ (false = true) by decide)] at H;exact H
     clear H
     have H:=H1
     clear H1
     by_cases c41:t670 = true
     ·subst c41
      have H1:((impl_ChancesFold.f kj5 t664 t667).bind fun bt681=>((impl_ChancesClasses.f kj5 t664 t667).bind fun t689=>(laws_FnChancesFold.l0 kj5 bt681.2.2 t689 0 t664 t667 bt681.1 bt681.2.1))) = some r:=by rw [if_pos rfl] at H;exact H
      clear H
      have H:=H1
      clear H1
      replace H:=Option.bind_eq_some_iff.mp H
      obtain ⟨⟨t681,t684,t687⟩,A420,H⟩:=H
      replace H:((impl_ChancesClasses.f kj5 t664 t667).bind fun t689=>(laws_FnChancesFold.l0 kj5 t687 t689 0 t664 t667 t681 t684)) = some r:=H
      have A42:=Aside0.mk A420
      clear A420
      replace H:=Option.bind_eq_some_iff.mp H
      obtain ⟨t689,A430,H⟩:=H
      replace H:(laws_FnChancesFold.l0 kj5 t687 t689 0 t664 t667 t681 t684) = some r:=H
      have A43:=Aside0.mk A430
      clear A430
      have H':=Aside0.mk H
      clear H
      have hnb44:=NB671_663.out
      have hnc44:=NB663_671.out
      have hnb45:=NB671_679.out
      have hnc45:=NB679_671.out
      have hcz46_0:wc.cell? ⟨gb671,0,none⟩ = some (.slice Ao14 t664.length co14):=(blk_cell BK671.out 0).trans rfl
      have hcz46_1:wc.cell? ⟨gb671,1,none⟩ = some (.slice Ao17 t667.length co17):=(blk_cell BK671.out 1).trans rfl
      have hfz46_0:=blk_frozen BK671.out 0
      have hfz46_1:=blk_frozen BK671.out 1
      go_wp2_with (first | ((with_reducible refine gate_callee (f:=19) rfl ?_);refine goesL_ (some 40) rfl rfl Try.func19 (by kernel_rfl) rfl #[.agg #[.slice Ao14 t664.length co14,.slice Ao17 t667.length co17]] rfl (by (try simp only [List.map_toArray,List.map_cons,List.map_nil]);first | done | rfl | (simp only [List.length_drop,List.length_take];rfl)) ?_;(with_reducible refine (impl_ChancesFold.calls kj5 _ _ t664 _ _ t667 t681 t684 t687 _ ?side1 ?side2 ?side3 ?side4 A42.out).mono ?_);(case side1=>repeat (first | exact (Kd.R_reads' HO_672000.out).2.2 | (with_reducible refine Kd.C_alloc ?_ _) | (with_reducible refine Kd.C_drewN ?_ _) | (with_reducible refine Kd.C_drew ?_)));(case side2=>exact (Kd.R_reads' HO_672000.out).2.1);(case side3=>repeat (first | exact (Kd.N_reads' HO_672001.out).2.2 | (with_reducible refine Kd.C_alloc ?_ _) | (with_reducible refine Kd.C_drewN ?_ _) | (with_reducible refine Kd.C_drew ?_)));(case side4=>exact (Kd.N_reads' HO_672001.out).2.1);rintro e w47 ⟨v682,v685,rfl,ho0,ho1,hb⟩;refine ⟨_,rfl,?_⟩;have n0_:=Aside0.mk (Kd.R_elder' (by (with_reducible repeat (first | apply Kd.R_alloc | apply Kd.R_drewN | apply Kd.R_drew));exact HO_664000.out) (Kd.R_base ho0) hb);have n1_:=Aside0.mk (Kd.N_mono (Kd.N_told (Kd.N_told (Kd.N_old (by (with_reducible repeat (first | apply Kd.N_alloc | apply Kd.N_drewN | apply Kd.N_drew));exact HO_664001.out) hb) (Kd.R_base ho0)) (Kd.N_base ho1)) (fun _ h_=>h_.1));have n2_:=Aside0.mk (Kd.R_elder' (by (with_reducible repeat (first | apply Kd.R_alloc | apply Kd.R_drewN | apply Kd.R_drew));exact HO_672000.out) (Kd.R_base ho0) hb);have n3_:=Aside0.mk (Kd.N_mono (Kd.N_told (Kd.N_told (Kd.N_old (by (with_reducible repeat (first | apply Kd.N_alloc | apply Kd.N_drewN | apply Kd.N_drew));exact HO_672001.out) hb) (Kd.R_base ho0)) (Kd.N_base ho1)) (fun _ h_=>h_.1));have n4_:=Aside0.mk (Kd.R_elder' (by (with_reducible repeat (first | apply Kd.R_alloc | apply Kd.R_drewN | apply Kd.R_drew));exact HO_680000.out) (Kd.R_base ho0) hb);have n5_:=Aside0.mk (Kd.N_mono (Kd.N_told (Kd.N_told (Kd.N_old (by (with_reducible repeat (first | apply Kd.N_alloc | apply Kd.N_drewN | apply Kd.N_drew));exact HO_680001.out) hb) (Kd.R_base ho0)) (Kd.N_base ho1)) (fun _ h_=>h_.1));have n6_:=Aside0.mk (Kd.R_lower (Kd.R_new' (Kd.R_new' (Kd.R_new' (Kd.R_mono (ok':=fun k_=>True) ho0 (fun _ hk_=>trivial)) (Kd.R_lt (by (with_reducible repeat (first | apply Kd.R_alloc | apply Kd.R_drewN | apply Kd.R_drew));exact HO_664000.out))) (Kd.R_lt (by (with_reducible repeat (first | apply Kd.R_alloc | apply Kd.R_drewN | apply Kd.R_drew));exact HO_672000.out))) (Kd.R_lt (by (with_reducible repeat (first | apply Kd.R_alloc | apply Kd.R_drewN | apply Kd.R_drew));exact HO_680000.out))) (below_size (by repeat (with_reducible first | exact HB.out | apply below_alloc | apply pw_below_drewN | apply below_drew1 | refine below_set ?_ GE663.out | refine below_set ?_ GE671.out | refine below_set ?_ GE679.out))));have n7_:=Aside0.mk (Kd.N_lower (Kd.N_mono (ok':=fun k_=>some k_ ≠ (v682:Value).ownBlock∧some k_ ≠ (.slice Ao9 t657.length co9:Value).ownBlock∧some k_ ≠ (.slice Ao11 t660.length co11:Value).ownBlock∧some k_ ≠ (.slice Ao14 t664.length co14:Value).ownBlock∧some k_ ≠ (.slice Ao17 t667.length co17:Value).ownBlock∧some k_ ≠ (.slice Ao21 t672.length co21:Value).ownBlock∧some k_ ≠ (.slice Ao25 t675.length co25:Value).ownBlock∧k_ ≠ gb663∧k_ ≠ gb671∧k_ ≠ gb679) ho1 (fun k_ hk_=>⟨hk_.2,(Kd.fresh' (Kd.R_lt (by (with_reducible repeat (first | apply Kd.R_alloc | apply Kd.R_drewN | apply Kd.R_drew));exact HO_664000.out)) k_ hk_.1),(Kd.fresh' (Kd.N_lt (by (with_reducible repeat (first | apply Kd.N_alloc | apply Kd.N_drewN | apply Kd.N_drew));exact HO_664001.out)) k_ hk_.1),(Kd.fresh' (Kd.R_lt (by (with_reducible repeat (first | apply Kd.R_alloc | apply Kd.R_drewN | apply Kd.R_drew));exact HO_672000.out)) k_ hk_.1),(Kd.fresh' (Kd.N_lt (by (with_reducible repeat (first | apply Kd.N_alloc | apply Kd.N_drewN | apply Kd.N_drew));exact HO_672001.out)) k_ hk_.1),(Kd.fresh' (Kd.R_lt (by (with_reducible repeat (first | apply Kd.R_alloc | apply Kd.R_drewN | apply Kd.R_drew));exact HO_680000.out)) k_ hk_.1),(Kd.fresh' (Kd.N_lt (by (with_reducible repeat (first | apply Kd.N_alloc | apply Kd.N_drewN | apply Kd.N_drew));exact HO_680001.out)) k_ hk_.1),(Kd.freshB (g:=gb663) (o:=.cells #[.slice Ao9 t657.length co9,.slice Ao11 t660.length co11] 28 (0,0)) (by (with_reducible repeat (first | refine blk_drewN ?_ _ | refine blk_drew ?_ | refine blk_alloc ?_ _));exact BK663.out) k_ hk_.1),(Kd.freshB (g:=gb671) (o:=.cells #[.slice Ao14 t664.length co14,.slice Ao17 t667.length co17] 28 (0,0)) (by (with_reducible repeat (first | refine blk_drewN ?_ _ | refine blk_drew ?_ | refine blk_alloc ?_ _));exact BK671.out) k_ hk_.1),(Kd.freshB (g:=gb679) (o:=.cells #[.slice Ao21 t672.length co21,.slice Ao25 t675.length co25] 28 (0,0)) (by (with_reducible repeat (first | refine blk_drewN ?_ _ | refine blk_drew ?_ | refine blk_alloc ?_ _));exact BK679.out) k_ hk_.1)⟩)) (below_size (by repeat (with_reducible first | exact HB.out | apply below_alloc | apply pw_below_drewN | apply below_drew1 | refine below_set ?_ GE663.out | refine below_set ?_ GE671.out | refine below_set ?_ GE679.out))));have n8_:=Aside0.mk (blk_below (g:=gb663) (o:=.cells #[.slice Ao9 t657.length co9,.slice Ao11 t660.length co11] 28 (0,0)) (by (with_reducible repeat (first | refine blk_drewN ?_ _ | refine blk_drew ?_ | refine blk_alloc ?_ _));exact BK663.out) hb);have n9_:=Aside0.mk (blk_below (g:=gb671) (o:=.cells #[.slice Ao14 t664.length co14,.slice Ao17 t667.length co17] 28 (0,0)) (by (with_reducible repeat (first | refine blk_drewN ?_ _ | refine blk_drew ?_ | refine blk_alloc ?_ _));exact BK671.out) hb);have n10_:=Aside0.mk (blk_below (g:=gb679) (o:=.cells #[.slice Ao21 t672.length co21,.slice Ao25 t675.length co25] 28 (0,0)) (by (with_reducible repeat (first | refine blk_drewN ?_ _ | refine blk_drew ?_ | refine blk_alloc ?_ _));exact BK679.out) hb);have n11_:=Aside0.mk (below_step (by repeat (with_reducible first | exact HB.out | apply below_alloc | apply pw_below_drewN | apply below_drew1 | refine below_set ?_ GE663.out | refine below_set ?_ GE671.out | refine below_set ?_ GE679.out)) hb);clear HO_664000;clear HO_664001;clear HO_672000;clear HO_672001;clear HO_680000;clear HO_680001;clear BK663;clear BK671;clear BK679;clear HB;have HO_664000:=n0_;have HO_664001:=n1_;have HO_672000:=n2_;have HO_672001:=n3_;have HO_680000:=n4_;have HO_680001:=n5_;have HO683:=n6_;have HO686:=n7_;have BK663:=n8_;have BK671:=n9_;have BK679:=n10_;have HB:=n11_;clear n0_ n1_ n2_ n3_ n4_ n5_ n6_ n7_ n8_ n9_ n10_ n11_;(try clear hb);(try clear hb2);(try clear hk);(try clear hi);(try clear ho0);(try clear ho1)) | ((with_reducible refine gate_dst (N:=8) rfl ?_);refine box_event ?hg (N:=8) ?hd (cs:=#[.slice none 0 0,.slice none 0 0]) (t:=28) ?hr ?_;(case hd=>rfl);(case hg=>rfl);(case hr=>first | (go_simp;done) | (go_simp;rfl));intro gb688 hg w48 hbox hb;have n0_:=Aside0.mk (Kd.R_below (by (with_reducible repeat (first | apply Kd.R_alloc | apply Kd.R_drewN | apply Kd.R_drew));exact HO_664000.out) hb);have n1_:=Aside0.mk (Kd.N_below (Kd.N_elderB (by (with_reducible repeat (first | apply Kd.N_alloc | apply Kd.N_drewN | apply Kd.N_drew));exact HO_664001.out) gb688 (Nat.le_of_eq hg.symm)) hb);have n2_:=Aside0.mk (Kd.R_below (by (with_reducible repeat (first | apply Kd.R_alloc | apply Kd.R_drewN | apply Kd.R_drew));exact HO_672000.out) hb);have n3_:=Aside0.mk (Kd.N_below (Kd.N_elderB (by (with_reducible repeat (first | apply Kd.N_alloc | apply Kd.N_drewN | apply Kd.N_drew));exact HO_672001.out) gb688 (Nat.le_of_eq hg.symm)) hb);have n4_:=Aside0.mk (Kd.R_below (by (with_reducible repeat (first | apply Kd.R_alloc | apply Kd.R_drewN | apply Kd.R_drew));exact HO_680000.out) hb);have n5_:=Aside0.mk (Kd.N_below (Kd.N_elderB (by (with_reducible repeat (first | apply Kd.N_alloc | apply Kd.N_drewN | apply Kd.N_drew));exact HO_680001.out) gb688 (Nat.le_of_eq hg.symm)) hb);have n6_:=Aside0.mk (Kd.R_below (by (with_reducible repeat (first | apply Kd.R_alloc | apply Kd.R_drewN | apply Kd.R_drew));exact HO683.out) hb);have n7_:=Aside0.mk (Kd.N_below (Kd.N_elderB (by (with_reducible repeat (first | apply Kd.N_alloc | apply Kd.N_drewN | apply Kd.N_drew));exact HO686.out) gb688 (Nat.le_of_eq hg.symm)) hb);have n8_:=Aside0.mk (blk_below (g:=gb663) (o:=.cells #[.slice Ao9 t657.length co9,.slice Ao11 t660.length co11] 28 (0,0)) (by (with_reducible repeat (first | refine blk_drewN ?_ _ | refine blk_drew ?_ | refine blk_alloc ?_ _));exact BK663.out) hb);have n9_:=Aside0.mk (blk_below (g:=gb671) (o:=.cells #[.slice Ao14 t664.length co14,.slice Ao17 t667.length co17] 28 (0,0)) (by (with_reducible repeat (first | refine blk_drewN ?_ _ | refine blk_drew ?_ | refine blk_alloc ?_ _));exact BK671.out) hb);have n10_:=Aside0.mk (blk_below (g:=gb679) (o:=.cells #[.slice Ao21 t672.length co21,.slice Ao25 t675.length co25] 28 (0,0)) (by (with_reducible repeat (first | refine blk_drewN ?_ _ | refine blk_drew ?_ | refine blk_alloc ?_ _));exact BK679.out) hb);have n11_:=Aside0.mk (below_step (by repeat (with_reducible first | exact HB.out | apply below_alloc | apply pw_below_drewN | apply below_drew1 | refine below_set ?_ GE663.out | refine below_set ?_ GE671.out | refine below_set ?_ GE679.out)) hb);have n12_:=Aside0.mk (hbox);have n13_:=Aside0.mk ((by rw [hg];exact (below_size (by repeat (with_reducible first | exact HB.out | apply below_alloc | apply pw_below_drewN | apply below_drew1 | refine below_set ?_ GE663.out | refine below_set ?_ GE671.out | refine below_set ?_ GE679.out))):w.heap.size ≤ gb688));have n14_:=Aside0.mk ((by rw [hg];exact (below_size (by repeat (with_reducible first | exact HB.out | apply below_alloc | apply pw_below_drewN | apply below_drew1 | refine below_set ?_ GE663.out | refine below_set ?_ GE671.out | refine below_set ?_ GE679.out))):w.heap.size ≤ gb688));have n15_:=Aside0.mk ((by rw [hg];exact Nat.ne_of_lt (blk_lt (g:=gb663) (o:=.cells #[.slice Ao9 t657.length co9,.slice Ao11 t660.length co11] 28 (0,0)) (by (with_reducible repeat (first | refine blk_drewN ?_ _ | refine blk_drew ?_ | refine blk_alloc ?_ _));exact BK663.out)):gb663 ≠ gb688));have n16_:=Aside0.mk ((by rw [hg];exact Nat.ne_of_gt (blk_lt (g:=gb663) (o:=.cells #[.slice Ao9 t657.length co9,.slice Ao11 t660.length co11] 28 (0,0)) (by (with_reducible repeat (first | refine blk_drewN ?_ _ | refine blk_drew ?_ | refine blk_alloc ?_ _));exact BK663.out)):gb688 ≠ gb663));have n17_:=Aside0.mk ((by rw [hg];exact Nat.ne_of_lt (blk_lt (g:=gb671) (o:=.cells #[.slice Ao14 t664.length co14,.slice Ao17 t667.length co17] 28 (0,0)) (by (with_reducible repeat (first | refine blk_drewN ?_ _ | refine blk_drew ?_ | refine blk_alloc ?_ _));exact BK671.out)):gb671 ≠ gb688));have n18_:=Aside0.mk ((by rw [hg];exact Nat.ne_of_gt (blk_lt (g:=gb671) (o:=.cells #[.slice Ao14 t664.length co14,.slice Ao17 t667.length co17] 28 (0,0)) (by (with_reducible repeat (first | refine blk_drewN ?_ _ | refine blk_drew ?_ | refine blk_alloc ?_ _));exact BK671.out)):gb688 ≠ gb671));have n19_:=Aside0.mk ((by rw [hg];exact Nat.ne_of_lt (blk_lt (g:=gb679) (o:=.cells #[.slice Ao21 t672.length co21,.slice Ao25 t675.length co25] 28 (0,0)) (by (with_reducible repeat (first | refine blk_drewN ?_ _ | refine blk_drew ?_ | refine blk_alloc ?_ _));exact BK679.out)):gb679 ≠ gb688));have n20_:=Aside0.mk ((by rw [hg];exact Nat.ne_of_gt (blk_lt (g:=gb679) (o:=.cells #[.slice Ao21 t672.length co21,.slice Ao25 t675.length co25] 28 (0,0)) (by (with_reducible repeat (first | refine blk_drewN ?_ _ | refine blk_drew ?_ | refine blk_alloc ?_ _));exact BK679.out)):gb688 ≠ gb679));clear HO_664000;clear HO_664001;clear HO_672000;clear HO_672001;clear HO_680000;clear HO_680001;clear HO683;clear HO686;clear BK663;clear BK671;clear BK679;clear HB;have HO_664000:=n0_;have HO_664001:=n1_;have HO_672000:=n2_;have HO_672001:=n3_;have HO_680000:=n4_;have HO_680001:=n5_;have HO683:=n6_;have HO686:=n7_;have BK663:=n8_;have BK671:=n9_;have BK679:=n10_;have HB:=n11_;have BK688:=n12_;have GW688:=n13_;have GE688:=n14_;have NB663_688:=n15_;have NB688_663:=n16_;have NB671_688:=n17_;have NB688_671:=n18_;have NB679_688:=n19_;have NB688_679:=n20_;clear n0_ n1_ n2_ n3_ n4_ n5_ n6_ n7_ n8_ n9_ n10_ n11_ n12_ n13_ n14_ n15_ n16_ n17_ n18_ n19_ n20_;clear hb hbox hg;obtain ⟨Ao49,co49,eo49⟩:=Kd.R_slice HO683.out;subst eo49;have hnb50:=NB688_663.out;have hnc50:=NB663_688.out;have hnb51:=NB688_671.out;have hnc51:=NB671_688.out;have hnb52:=NB688_679.out;have hnc52:=NB679_688.out;have hcz53_0:w48.cell? ⟨gb688,0,none⟩ = some (.slice none 0 0):=(blk_cell BK688.out 0).trans rfl;have hcz53_1:w48.cell? ⟨gb688,1,none⟩ = some (.slice none 0 0):=(blk_cell BK688.out 1).trans rfl;have hfz53_0:=blk_frozen BK688.out 0;have hfz53_1:=blk_frozen BK688.out 1;obtain ⟨Ao54,co54,eo54⟩:=Kd.N_slice HO686.out;subst eo54;have hcz55_0:w48.cell? ⟨gb671,0,none⟩ = some (.slice Ao14 t664.length co14):=(blk_cell BK671.out 0).trans rfl;have hcz55_1:w48.cell? ⟨gb671,1,none⟩ = some (.slice Ao17 t667.length co17):=(blk_cell BK671.out 1).trans rfl;have hfz55_0:=blk_frozen BK671.out 0;have hfz55_1:=blk_frozen BK671.out 1) | ((with_reducible refine gate_callee (f:=20) rfl ?_);refine goesL_ (some 44) rfl rfl Try.func20 (by kernel_rfl) rfl #[.agg #[.slice Ao14 t664.length co14,.slice Ao17 t667.length co17]] rfl (by (try simp only [List.map_toArray,List.map_cons,List.map_nil]);first | done | rfl | (simp only [List.length_drop,List.length_take];rfl)) ?_;(with_reducible refine (impl_ChancesClasses.calls kj5 _ _ t664 _ _ t667 t689 _ ?side1 ?side2 ?side3 ?side4 A43.out).mono ?_);(case side1=>refine (Kd.R_reads' (e:=3) (base:=w.heap.size) (ok:=fun k_=>((some k_ ≠ (.slice Ao9 t657.length co9:Value).ownBlock∧some k_ ≠ (.slice Ao21 t672.length co21:Value).ownBlock)∧some k_ ≠ (.slice Ao49 t681.length co49:Value).ownBlock)) (n:=t664.length) (c:=co14) ?_).2.2;exact (by (with_reducible repeat (first | apply Kd.R_alloc | apply Kd.R_drewN | apply Kd.R_drew));exact (Kd.R_mono (Kd.R_far (p:=⟨gb688,1,none⟩) (Kd.R_far (p:=⟨gb688,0,none⟩) (Kd.R_types HO_672000.out BK688.out (by decide)) (fun _ hk=>hk.2) (.slice Ao49 t681.length co49)) (fun _ hk=>hk.2) (.slice Ao54 t684.length co54)) (fun _ h_=>h_.1))));(case side2=>exact (Kd.R_reads' HO_672000.out).2.1);(case side3=>refine (Kd.N_reads' (e:=22) (base:=w.heap.size) (ok:=fun k_=>((((some k_ ≠ (.slice Ao9 t657.length co9:Value).ownBlock∧(some k_ ≠ (.slice Ao11 t660.length co11:Value).ownBlock∧(some k_ ≠ (.slice Ao14 t664.length co14:Value).ownBlock∧(some k_ ≠ (.slice Ao21 t672.length co21:Value).ownBlock∧(some k_ ≠ (.slice Ao25 t675.length co25:Value).ownBlock∧(k_ ≠ gb663∧(k_ ≠ gb671∧k_ ≠ gb679)))))))∧some k_ ≠ (.slice Ao49 t681.length co49:Value).ownBlock)∧some k_ ≠ (.slice Ao54 t684.length co54:Value).ownBlock)∧k_ ≠ gb688)) (n:=t667.length) (c:=co17) ?_).2.2;exact (by (with_reducible repeat (first | apply Kd.N_alloc | apply Kd.N_drewN | apply Kd.N_drew));exact (Kd.N_mono (Kd.N_far (p:=⟨gb688,1,none⟩) (Kd.N_far (p:=⟨gb688,0,none⟩) (Kd.N_mono HO_672001.out (fun k_ hk=>(⟨hk,hk.2⟩:_∧k_ ≠ gb688))) (fun _ hk=>hk.2) (.slice Ao49 t681.length co49)) (fun _ hk=>hk.2) (.slice Ao54 t684.length co54)) (fun _ h_=>h_.1))));(case side4=>exact (Kd.N_reads' HO_672001.out).2.1);rintro e w56 ⟨v690,rfl,ho0,hb⟩;refine ⟨_,rfl,?_⟩;have n0_:=Aside0.mk (Kd.R_elder' (by (with_reducible repeat (first | apply Kd.R_alloc | apply Kd.R_drewN | apply Kd.R_drew));exact (Kd.R_mono (Kd.R_far (p:=⟨gb688,1,none⟩) (Kd.R_far (p:=⟨gb688,0,none⟩) (Kd.R_types HO_664000.out BK688.out (by decide)) (fun _ hk=>hk.2) (.slice Ao49 t681.length co49)) (fun _ hk=>hk.2) (.slice Ao54 t684.length co54)) (fun _ h_=>h_.1))) (Kd.R_base ho0) hb);have n1_:=Aside0.mk (Kd.N_elder' (by (with_reducible repeat (first | apply Kd.N_alloc | apply Kd.N_drewN | apply Kd.N_drew));exact (Kd.N_mono (Kd.N_far (p:=⟨gb688,1,none⟩) (Kd.N_far (p:=⟨gb688,0,none⟩) (Kd.N_mono HO_664001.out (fun k_ hk=>(⟨hk,hk.2⟩:_∧k_ ≠ gb688))) (fun _ hk=>hk.2) (.slice Ao49 t681.length co49)) (fun _ hk=>hk.2) (.slice Ao54 t684.length co54)) (fun _ h_=>h_.1))) (Kd.R_base ho0) hb);have n2_:=Aside0.mk (Kd.R_elder' (by (with_reducible repeat (first | apply Kd.R_alloc | apply Kd.R_drewN | apply Kd.R_drew));exact (Kd.R_mono (Kd.R_far (p:=⟨gb688,1,none⟩) (Kd.R_far (p:=⟨gb688,0,none⟩) (Kd.R_types HO_672000.out BK688.out (by decide)) (fun _ hk=>hk.2) (.slice Ao49 t681.length co49)) (fun _ hk=>hk.2) (.slice Ao54 t684.length co54)) (fun _ h_=>h_.1))) (Kd.R_base ho0) hb);have n3_:=Aside0.mk (Kd.N_elder' (by (with_reducible repeat (first | apply Kd.N_alloc | apply Kd.N_drewN | apply Kd.N_drew));exact (Kd.N_mono (Kd.N_far (p:=⟨gb688,1,none⟩) (Kd.N_far (p:=⟨gb688,0,none⟩) (Kd.N_mono HO_672001.out (fun k_ hk=>(⟨hk,hk.2⟩:_∧k_ ≠ gb688))) (fun _ hk=>hk.2) (.slice Ao49 t681.length co49)) (fun _ hk=>hk.2) (.slice Ao54 t684.length co54)) (fun _ h_=>h_.1))) (Kd.R_base ho0) hb);have n4_:=Aside0.mk (Kd.R_elder' (by (with_reducible repeat (first | apply Kd.R_alloc | apply Kd.R_drewN | apply Kd.R_drew));exact (Kd.R_mono (Kd.R_far (p:=⟨gb688,1,none⟩) (Kd.R_far (p:=⟨gb688,0,none⟩) (Kd.R_types HO_680000.out BK688.out (by decide)) (fun _ hk=>hk.2) (.slice Ao49 t681.length co49)) (fun _ hk=>hk.2) (.slice Ao54 t684.length co54)) (fun _ h_=>h_.1))) (Kd.R_base ho0) hb);have n5_:=Aside0.mk (Kd.N_elder' (by (with_reducible repeat (first | apply Kd.N_alloc | apply Kd.N_drewN | apply Kd.N_drew));exact (Kd.N_mono (Kd.N_far (p:=⟨gb688,1,none⟩) (Kd.N_far (p:=⟨gb688,0,none⟩) (Kd.N_mono HO_680001.out (fun k_ hk=>(⟨hk,hk.2⟩:_∧k_ ≠ gb688))) (fun _ hk=>hk.2) (.slice Ao49 t681.length co49)) (fun _ hk=>hk.2) (.slice Ao54 t684.length co54)) (fun _ h_=>h_.1))) (Kd.R_base ho0) hb);have n6_:=Aside0.mk (Kd.R_elder' (by (with_reducible repeat (first | apply Kd.R_alloc | apply Kd.R_drewN | apply Kd.R_drew));exact (Kd.R_mono (Kd.R_far (p:=⟨gb688,1,none⟩) (Kd.R_far (p:=⟨gb688,0,none⟩) (Kd.R_types HO683.out BK688.out (by decide)) (fun _ hk=>hk.2) (.slice Ao49 t681.length co49)) (fun _ hk=>hk.2) (.slice Ao54 t684.length co54)) (fun _ h_=>h_.1))) (Kd.R_base ho0) hb);have n7_:=Aside0.mk (Kd.N_elder' (by (with_reducible repeat (first | apply Kd.N_alloc | apply Kd.N_drewN | apply Kd.N_drew));exact (Kd.N_mono (Kd.N_far (p:=⟨gb688,1,none⟩) (Kd.N_far (p:=⟨gb688,0,none⟩) (Kd.N_mono HO686.out (fun k_ hk=>(⟨hk,hk.2⟩:_∧k_ ≠ gb688))) (fun _ hk=>hk.2) (.slice Ao49 t681.length co49)) (fun _ hk=>hk.2) (.slice Ao54 t684.length co54)) (fun _ h_=>h_.1))) (Kd.R_base ho0) hb);have n8_:=Aside0.mk (Kd.R_lower (Kd.R_new' (Kd.R_new' (Kd.R_new' (Kd.R_new' ho0 (Kd.R_lt (by (with_reducible repeat (first | apply Kd.R_alloc | apply Kd.R_drewN | apply Kd.R_drew));exact (Kd.R_mono (Kd.R_far (p:=⟨gb688,1,none⟩) (Kd.R_far (p:=⟨gb688,0,none⟩) (Kd.R_types HO_664000.out BK688.out (by decide)) (fun _ hk=>hk.2) (.slice Ao49 t681.length co49)) (fun _ hk=>hk.2) (.slice Ao54 t684.length co54)) (fun _ h_=>h_.1))))) (Kd.R_lt (by (with_reducible repeat (first | apply Kd.R_alloc | apply Kd.R_drewN | apply Kd.R_drew));exact (Kd.R_mono (Kd.R_far (p:=⟨gb688,1,none⟩) (Kd.R_far (p:=⟨gb688,0,none⟩) (Kd.R_types HO_672000.out BK688.out (by decide)) (fun _ hk=>hk.2) (.slice Ao49 t681.length co49)) (fun _ hk=>hk.2) (.slice Ao54 t684.length co54)) (fun _ h_=>h_.1))))) (Kd.R_lt (by (with_reducible repeat (first | apply Kd.R_alloc | apply Kd.R_drewN | apply Kd.R_drew));exact (Kd.R_mono (Kd.R_far (p:=⟨gb688,1,none⟩) (Kd.R_far (p:=⟨gb688,0,none⟩) (Kd.R_types HO_680000.out BK688.out (by decide)) (fun _ hk=>hk.2) (.slice Ao49 t681.length co49)) (fun _ hk=>hk.2) (.slice Ao54 t684.length co54)) (fun _ h_=>h_.1))))) (Kd.R_lt (by (with_reducible repeat (first | apply Kd.R_alloc | apply Kd.R_drewN | apply Kd.R_drew));exact (Kd.R_mono (Kd.R_far (p:=⟨gb688,1,none⟩) (Kd.R_far (p:=⟨gb688,0,none⟩) (Kd.R_types HO683.out BK688.out (by decide)) (fun _ hk=>hk.2) (.slice Ao49 t681.length co49)) (fun _ hk=>hk.2) (.slice Ao54 t684.length co54)) (fun _ h_=>h_.1))))) (below_size (by repeat (with_reducible first | exact HB.out | apply below_alloc | apply pw_below_drewN | apply below_drew1 | refine below_set ?_ GE663.out | refine below_set ?_ GE671.out | refine below_set ?_ GE679.out | refine below_set ?_ GE688.out))));have n9_:=Aside0.mk (blk_below (g:=gb663) (o:=.cells #[.slice Ao9 t657.length co9,.slice Ao11 t660.length co11] 28 (0,0)) (by (with_reducible repeat (first | refine blk_drewN ?_ _ | refine blk_drew ?_ | refine blk_alloc ?_ _));refine blk_far ?_ NB663_688.out _;(with_reducible repeat (first | refine blk_drewN ?_ _ | refine blk_drew ?_ | refine blk_alloc ?_ _));refine blk_far ?_ NB663_688.out _;(with_reducible repeat (first | refine blk_drewN ?_ _ | refine blk_drew ?_ | refine blk_alloc ?_ _));exact BK663.out) hb);have n10_:=Aside0.mk (blk_below (g:=gb671) (o:=.cells #[.slice Ao14 t664.length co14,.slice Ao17 t667.length co17] 28 (0,0)) (by (with_reducible repeat (first | refine blk_drewN ?_ _ | refine blk_drew ?_ | refine blk_alloc ?_ _));refine blk_far ?_ NB671_688.out _;(with_reducible repeat (first | refine blk_drewN ?_ _ | refine blk_drew ?_ | refine blk_alloc ?_ _));refine blk_far ?_ NB671_688.out _;(with_reducible repeat (first | refine blk_drewN ?_ _ | refine blk_drew ?_ | refine blk_alloc ?_ _));exact BK671.out) hb);have n11_:=Aside0.mk (blk_below (g:=gb679) (o:=.cells #[.slice Ao21 t672.length co21,.slice Ao25 t675.length co25] 28 (0,0)) (by (with_reducible repeat (first | refine blk_drewN ?_ _ | refine blk_drew ?_ | refine blk_alloc ?_ _));refine blk_far ?_ NB679_688.out _;(with_reducible repeat (first | refine blk_drewN ?_ _ | refine blk_drew ?_ | refine blk_alloc ?_ _));refine blk_far ?_ NB679_688.out _;(with_reducible repeat (first | refine blk_drewN ?_ _ | refine blk_drew ?_ | refine blk_alloc ?_ _));exact BK679.out) hb);have n12_:=Aside0.mk (blk_below (g:=gb688) (o:=.cells #[.slice Ao49 t681.length co49,.slice Ao54 t684.length co54] 28 (0,0)) (by (with_reducible repeat (first | refine blk_drewN ?_ _ | refine blk_drew ?_ | refine blk_alloc ?_ _));refine blk_put (cs:=#[.slice Ao49 t681.length co49,.slice none 0 0]) ?_ 1 _ rfl;(with_reducible repeat (first | refine blk_drewN ?_ _ | refine blk_drew ?_ | refine blk_alloc ?_ _));refine blk_put (cs:=#[.slice none 0 0,.slice none 0 0]) ?_ 0 _ rfl;(with_reducible repeat (first | refine blk_drewN ?_ _ | refine blk_drew ?_ | refine blk_alloc ?_ _));exact BK688.out) hb);have n13_:=Aside0.mk (below_step (by repeat (with_reducible first | exact HB.out | apply below_alloc | apply pw_below_drewN | apply below_drew1 | refine below_set ?_ GE663.out | refine below_set ?_ GE671.out | refine below_set ?_ GE679.out | refine below_set ?_ GE688.out)) hb);clear HO_664000;clear HO_664001;clear HO_672000;clear HO_672001;clear HO_680000;clear HO_680001;clear HO683;clear HO686;clear BK663;clear BK671;clear BK679;clear BK688;clear HB;have HO_664000:=n0_;have HO_664001:=n1_;have HO_672000:=n2_;have HO_672001:=n3_;have HO_680000:=n4_;have HO_680001:=n5_;have HO683:=n6_;have HO686:=n7_;have HO691:=n8_;have BK663:=n9_;have BK671:=n10_;have BK679:=n11_;have BK688:=n12_;have HB:=n13_;clear n0_ n1_ n2_ n3_ n4_ n5_ n6_ n7_ n8_ n9_ n10_ n11_ n12_ n13_;(try clear hb);(try clear hb2);(try clear hk);(try clear hi);(try clear ho0)))
      go_loopg [11] kj5 (fun kq v11 w'=>∃ (x11_2:Int),v11 = .int .i64 x11_2∧Aside0 (laws_FnChancesFold.l0 kq t687 t689 x11_2 t664 t667 t681 t684 = some r)∧Aside0 (kq ≤ kj5)∧Aside0 (Kd.R (Kd.int .i64) 3 w' w.heap.size (fun k_=>some k_ ≠ ((.slice Ao9 t657.length co9):Value).ownBlock∧some k_ ≠ ((.slice Ao14 t664.length co14):Value).ownBlock∧some k_ ≠ ((.slice Ao21 t672.length co21):Value).ownBlock∧some k_ ≠ ((.slice Ao49 t681.length co49):Value).ownBlock) v690 t689)∧Aside0 (Kd.R (Kd.int .i64) 3 w' w.heap.size (fun k_=>some k_ ≠ (v690:Value).ownBlock∧some k_ ≠ ((.slice Ao14 t664.length co14):Value).ownBlock∧some k_ ≠ ((.slice Ao21 t672.length co21):Value).ownBlock∧some k_ ≠ ((.slice Ao49 t681.length co49):Value).ownBlock) (.slice Ao9 t657.length co9) t657)∧Aside0 (Kd.N (Kd.slice 3 (Kd.int .i64)) 22 w' w.heap.size (fun k_=>some k_ ≠ (v690:Value).ownBlock∧some k_ ≠ ((.slice Ao9 t657.length co9):Value).ownBlock∧some k_ ≠ ((.slice Ao14 t664.length co14):Value).ownBlock∧some k_ ≠ ((.slice Ao17 t667.length co17):Value).ownBlock∧some k_ ≠ ((.slice Ao21 t672.length co21):Value).ownBlock∧some k_ ≠ ((.slice Ao25 t675.length co25):Value).ownBlock∧some k_ ≠ ((.slice Ao49 t681.length co49):Value).ownBlock∧some k_ ≠ ((.slice Ao54 t684.length co54):Value).ownBlock∧k_ ≠ gb663∧k_ ≠ gb671∧k_ ≠ gb679∧k_ ≠ gb688) (.slice Ao11 t660.length co11) t660)∧Aside0 (Kd.R (Kd.int .i64) 3 w' w.heap.size (fun k_=>some k_ ≠ (v690:Value).ownBlock∧some k_ ≠ ((.slice Ao9 t657.length co9):Value).ownBlock∧some k_ ≠ ((.slice Ao21 t672.length co21):Value).ownBlock∧some k_ ≠ ((.slice Ao49 t681.length co49):Value).ownBlock) (.slice Ao14 t664.length co14) t664)∧Aside0 (Kd.N (Kd.slice 3 (Kd.int .i64)) 22 w' w.heap.size (fun k_=>some k_ ≠ (v690:Value).ownBlock∧some k_ ≠ ((.slice Ao9 t657.length co9):Value).ownBlock∧some k_ ≠ ((.slice Ao11 t660.length co11):Value).ownBlock∧some k_ ≠ ((.slice Ao14 t664.length co14):Value).ownBlock∧some k_ ≠ ((.slice Ao21 t672.length co21):Value).ownBlock∧some k_ ≠ ((.slice Ao25 t675.length co25):Value).ownBlock∧some k_ ≠ ((.slice Ao49 t681.length co49):Value).ownBlock∧some k_ ≠ ((.slice Ao54 t684.length co54):Value).ownBlock∧k_ ≠ gb663∧k_ ≠ gb671∧k_ ≠ gb679∧k_ ≠ gb688) (.slice Ao17 t667.length co17) t667)∧Aside0 (Kd.R (Kd.int .i64) 3 w' w.heap.size (fun k_=>some k_ ≠ (v690:Value).ownBlock∧some k_ ≠ ((.slice Ao9 t657.length co9):Value).ownBlock∧some k_ ≠ ((.slice Ao14 t664.length co14):Value).ownBlock∧some k_ ≠ ((.slice Ao49 t681.length co49):Value).ownBlock) (.slice Ao21 t672.length co21) t672)∧Aside0 (Kd.N (Kd.slice 3 (Kd.int .i64)) 22 w' w.heap.size (fun k_=>some k_ ≠ (v690:Value).ownBlock∧some k_ ≠ ((.slice Ao9 t657.length co9):Value).ownBlock∧some k_ ≠ ((.slice Ao11 t660.length co11):Value).ownBlock∧some k_ ≠ ((.slice Ao14 t664.length co14):Value).ownBlock∧some k_ ≠ ((.slice Ao17 t667.length co17):Value).ownBlock∧some k_ ≠ ((.slice Ao21 t672.length co21):Value).ownBlock∧some k_ ≠ ((.slice Ao49 t681.length co49):Value).ownBlock∧some k_ ≠ ((.slice Ao54 t684.length co54):Value).ownBlock∧k_ ≠ gb663∧k_ ≠ gb671∧k_ ≠ gb679∧k_ ≠ gb688) (.slice Ao25 t675.length co25) t675)∧Aside0 (Kd.R (Kd.int .i64) 3 w' w.heap.size (fun k_=>some k_ ≠ (v690:Value).ownBlock∧some k_ ≠ ((.slice Ao9 t657.length co9):Value).ownBlock∧some k_ ≠ ((.slice Ao14 t664.length co14):Value).ownBlock∧some k_ ≠ ((.slice Ao21 t672.length co21):Value).ownBlock) (.slice Ao49 t681.length co49) t681)∧Aside0 (Kd.N (Kd.slice 3 (Kd.int .i64)) 22 w' w.heap.size (fun k_=>some k_ ≠ (v690:Value).ownBlock∧some k_ ≠ ((.slice Ao9 t657.length co9):Value).ownBlock∧some k_ ≠ ((.slice Ao11 t660.length co11):Value).ownBlock∧some k_ ≠ ((.slice Ao14 t664.length co14):Value).ownBlock∧some k_ ≠ ((.slice Ao17 t667.length co17):Value).ownBlock∧some k_ ≠ ((.slice Ao21 t672.length co21):Value).ownBlock∧some k_ ≠ ((.slice Ao25 t675.length co25):Value).ownBlock∧some k_ ≠ ((.slice Ao49 t681.length co49):Value).ownBlock∧k_ ≠ gb663∧k_ ≠ gb671∧k_ ≠ gb679∧k_ ≠ gb688) (.slice Ao54 t684.length co54) t684)∧Aside0 (w'.heap[gb663]? = some (.cells #[(.slice Ao9 t657.length co9),(.slice Ao11 t660.length co11)] 28 (0,0)))∧Aside0 (w'.heap[gb671]? = some (.cells #[(.slice Ao14 t664.length co14),(.slice Ao17 t667.length co17)] 28 (0,0)))∧Aside0 (w'.heap[gb679]? = some (.cells #[(.slice Ao21 t672.length co21),(.slice Ao25 t675.length co25)] 28 (0,0)))∧Aside0 (w'.heap[gb688]? = some (.cells #[(.slice Ao49 t681.length co49),(.slice Ao54 t684.length co54)] 28 (0,0)))∧Aside0 (Below w.heap.size w w'))
      case atStart=>exact ⟨(0),(by first | rfl | (simp;done) | (simp [*];done)),H',⟨Nat.le_refl _⟩,⟨by exact Kd.R_mono HO691.out (fun _ hk=>⟨hk.1.1.1.2,⟨hk.1.1.2,⟨hk.1.2,hk.2⟩⟩⟩)⟩,⟨by exact Kd.R_mono HO_664000.out (fun _ hk=>⟨hk.2,⟨hk.1.1.1,⟨hk.1.1.2,hk.1.2⟩⟩⟩)⟩,⟨by exact Kd.N_mono HO_664001.out (fun _ hk=>⟨hk.2,⟨hk.1.1.1.1.1,⟨hk.1.1.1.1.2.1,⟨hk.1.1.1.1.2.2.1,⟨hk.1.1.1.1.2.2.2.1,⟨hk.1.1.1.1.2.2.2.2.1,⟨hk.1.1.1.2,⟨hk.1.1.2,⟨hk.1.1.1.1.2.2.2.2.2.1,⟨hk.1.1.1.1.2.2.2.2.2.2.1,⟨hk.1.1.1.1.2.2.2.2.2.2.2,hk.1.2⟩⟩⟩⟩⟩⟩⟩⟩⟩⟩⟩)⟩,⟨by exact Kd.R_mono HO_672000.out (fun _ hk=>⟨hk.2,⟨hk.1.1.1,⟨hk.1.1.2,hk.1.2⟩⟩⟩)⟩,⟨by exact Kd.N_mono HO_672001.out (fun _ hk=>⟨hk.2,⟨hk.1.1.1.1.1,⟨hk.1.1.1.1.2.1,⟨hk.1.1.1.1.2.2.1,⟨hk.1.1.1.1.2.2.2.1,⟨hk.1.1.1.1.2.2.2.2.1,⟨hk.1.1.1.2,⟨hk.1.1.2,⟨hk.1.1.1.1.2.2.2.2.2.1,⟨hk.1.1.1.1.2.2.2.2.2.2.1,⟨hk.1.1.1.1.2.2.2.2.2.2.2,hk.1.2⟩⟩⟩⟩⟩⟩⟩⟩⟩⟩⟩)⟩,⟨by exact Kd.R_mono HO_680000.out (fun _ hk=>⟨hk.2,⟨hk.1.1.1,⟨hk.1.1.2,hk.1.2⟩⟩⟩)⟩,⟨by exact Kd.N_mono HO_680001.out (fun _ hk=>⟨hk.2,⟨hk.1.1.1.1.1,⟨hk.1.1.1.1.2.1,⟨hk.1.1.1.1.2.2.1,⟨hk.1.1.1.1.2.2.2.1,⟨hk.1.1.1.1.2.2.2.2.1,⟨hk.1.1.1.2,⟨hk.1.1.2,⟨hk.1.1.1.1.2.2.2.2.2.1,⟨hk.1.1.1.1.2.2.2.2.2.2.1,⟨hk.1.1.1.1.2.2.2.2.2.2.2,hk.1.2⟩⟩⟩⟩⟩⟩⟩⟩⟩⟩⟩)⟩,⟨by exact Kd.R_mono HO683.out (fun _ hk=>⟨hk.2,⟨hk.1.1.1.2,⟨hk.1.1.2,hk.1.2⟩⟩⟩)⟩,⟨by exact Kd.N_mono HO686.out (fun _ hk=>⟨hk.2,⟨hk.1.1.2.1,⟨hk.1.1.2.2.1,⟨hk.1.1.2.2.2.1,⟨hk.1.1.2.2.2.2.1,⟨hk.1.1.2.2.2.2.2.1,⟨hk.1.1.2.2.2.2.2.2.1,⟨hk.1.1.1,⟨hk.1.1.2.2.2.2.2.2.2.1,⟨hk.1.1.2.2.2.2.2.2.2.2.1,⟨hk.1.1.2.2.2.2.2.2.2.2.2,hk.1.2⟩⟩⟩⟩⟩⟩⟩⟩⟩⟩⟩)⟩,⟨by exact BK663.out⟩,⟨by exact BK671.out⟩,⟨by exact BK679.out⟩,⟨by exact BK688.out⟩,⟨by exact HB.out⟩⟩
      case round =>
       clear H'
       try clear c1
       try clear c2
       try clear c2b0
       try clear c2b1
       try clear p2
       try clear c3
       try clear c4
       try clear c5
       try clear c11
       try clear c15
       try clear c19
       try clear c20
       try clear c22
       try clear c23
       try clear c27
       try clear c28
       try clear c29
       try clear c31
       try clear c34
       try clear c35
       try clear c36
       try clear c37
       try clear c40
       try clear c41
       try clear c44
       try clear c45
       try clear c50
       try clear c51
       try clear c52
       try clear hcz10_0
       try clear hcz10_1
       try clear hcz16_0
       try clear hcz16_1
       try clear hcz18_0
       try clear hcz18_1
       try clear hcz24_0
       try clear hcz24_1
       try clear hcz30_0
       try clear hcz30_1
       try clear hcz32_0
       try clear hcz32_1
       try clear hcz36_0
       try clear hcz36_1
       try clear hcz38_0
       try clear hcz38_1
       try clear hcz46_0
       try clear hcz46_1
       try clear hcz53_0
       try clear hcz53_1
       try clear hcz55_0
       try clear hcz55_1
       try clear hfz10_0
       try clear hfz10_1
       try clear hfz16_0
       try clear hfz16_1
       try clear hfz18_0
       try clear hfz18_1
       try clear hfz24_0
       try clear hfz24_1
       try clear hfz30_0
       try clear hfz30_1
       try clear hfz32_0
       try clear hfz32_1
       try clear hfz36_0
       try clear hfz36_1
       try clear hfz38_0
       try clear hfz38_1
       try clear hfz46_0
       try clear hfz46_1
       try clear hfz53_0
       try clear hfz53_1
       try clear hfz55_0
       try clear hfz55_1
       try clear p2
       obtain ⟨x11_2,rfl,HA,HK2,HO_10,HO_664000,HO_664001,HO_672000,HO_672001,HO_680000,HO_680001,HO_689000,HO_689001,BK663,BK671,BK679,BK688,HB⟩:=hrel
       cases gk with
       | zero=>exact absurd HA.out (by simp [laws_FnChancesFold.l0])
       | succ k2 =>
        have H:=HA.out
        clear HA
        simp only [laws_FnChancesFold.l0] at H
        by_cases c57:x11_2 < (t689.length:Int)
        ·rw [if_pos c57] at H
         have c57b0:decide (x11_2 < (t689.length:Int)) = true:=decide_eq_true c57
         clear c57
         by_cases c58:0 ≤ x11_2
         ·rw [if_pos c58] at H
          have c58b0:decide (0 ≤ x11_2) = true:=decide_eq_true c58
          clear c58
          by_cases c59:(rd t689 x11_2) = x11_2
          ·rw [if_pos c59] at H
           have c59b0:((rd t689 x11_2) == x11_2) = true:=beq_iff_eq.mpr c59
           have c59b1:((rd t689 x11_2) != x11_2) = false:=bne_eq_false_iff_eq.mpr c59
           clear c59
           have H':=Aside0.mk H
           clear H
           obtain ⟨Ao60,co60,eo60⟩:=Kd.R_slice HO_10.out
           subst eo60
           have p692:0 ≤ (x11_2:Int):=of_decide_eq_true (by assumption)
           have q692:x11_2 < (t689.length:Int):=of_decide_eq_true (by assumption)
           obtain ⟨ad692,e692,hx692_0⟩:=Kd.at_int (Kd.R_reads' HO_10.out).2.2 x11_2 p692 q692
           cases e692
           replace p692:=eq_true p692
           replace q692:=eq_true q692
           go_wp2
           go_roundg k2
           case measure=>have:=HJ5.out;have:=HK2.out;omega
           case rel=>exact ⟨(wrap64 (x11_2 + 1)),(by first | rfl | (simp;done) | (simp [*];done)),H',⟨by have:=HJ5.out;have:=HK2.out;omega⟩,⟨by exact HO_10.out⟩,⟨by exact HO_664000.out⟩,⟨by exact HO_664001.out⟩,⟨by exact HO_672000.out⟩,⟨by exact HO_672001.out⟩,⟨by exact HO_680000.out⟩,⟨by exact HO_680001.out⟩,⟨by exact HO_689000.out⟩,⟨by exact HO_689001.out⟩,⟨by exact BK663.out⟩,⟨by exact BK671.out⟩,⟨by exact BK679.out⟩,⟨by exact BK688.out⟩,⟨by exact HB.out⟩⟩
          ·rw [if_neg c59] at H
           have c59b0:((rd t689 x11_2) == x11_2) = false:=beq_eq_false_iff_ne.mpr c59
           have c59b1:((rd t689 x11_2) != x11_2) = true:=bne_iff_ne.mpr c59
           obtain rfl:=Option.some.inj H
           obtain ⟨Ao61,co61,eo61⟩:=Kd.R_slice HO_10.out
           subst eo61
           have p692:0 ≤ (x11_2:Int):=of_decide_eq_true (by assumption)
           have q692:x11_2 < (t689.length:Int):=of_decide_eq_true (by assumption)
           obtain ⟨ad692,e692,hx692_0⟩:=Kd.at_int (Kd.R_reads' HO_10.out).2.2 x11_2 p692 q692
           cases e692
           replace p692:=eq_true p692
           replace q692:=eq_true q692
           go_wp2
           go_ret
           exact ⟨rfl,by exact HB.out⟩
         ·rw [if_neg c58] at H
          exact absurd H (by simp)
        ·rw [if_neg c57] at H
         have c57b0:decide (x11_2 < (t689.length:Int)) = false:=decide_eq_false c57
         clear c57
         replace H:=Option.bind_eq_some_iff.mp H
         obtain ⟨t693,A620,H⟩:=H
         replace H:(if t693 = true then (if t687 = true then ((laws_mnChances.f k2 t681 t684 t664 t667).bind fun t694=>(some t694)) else (some false)) else (some false)) = some r:=H
         have A62:=Aside0.mk A620
         clear A620
         by_cases c63:t693 = true
         ·subst c63
          have H1:(if t687 = true then ((laws_mnChances.f k2 t681 t684 t664 t667).bind fun t694=>(some t694)) else (some false)) = some r:=by rw [if_pos rfl] at H;exact H
          clear H
          have H:=H1
          clear H1
          by_cases c64:t687 = true
          ·subst c64
           have H1:((laws_mnChances.f k2 t681 t684 t664 t667).bind fun t694=>(some t694)) = some r:=by rw [if_pos rfl] at H;exact H
           clear H
           have H:=H1
           clear H1
           replace H:=Option.bind_eq_some_iff.mp H
           obtain ⟨t694,A650,H⟩:=H
           replace H:(some t694) = some r:=H
           have A65:=Aside0.mk A650
           clear A650
           obtain rfl:=Option.some.inj H
           obtain ⟨Ao66,co66,eo66⟩:=Kd.R_slice HO_10.out
           subst eo66
           have hnb67:=NB671_663.out
           have hnc67:=NB663_671.out
           have hnb68:=NB671_679.out
           have hnc68:=NB679_671.out
           have hnb69:=NB671_688.out
           have hnc69:=NB688_671.out
           have hcz70_0:wr.cell? ⟨gb671,0,none⟩ = some (.slice Ao14 t664.length co14):=(blk_cell BK671.out 0).trans rfl
           have hcz70_1:wr.cell? ⟨gb671,1,none⟩ = some (.slice Ao17 t667.length co17):=(blk_cell BK671.out 1).trans rfl
           have hfz70_0:=blk_frozen BK671.out 0
           have hfz70_1:=blk_frozen BK671.out 1
           go_wp2_with (first | ((with_reducible refine gate_callee (f:=16) rfl ?_);refine goesL_ (some 58) rfl rfl Try.func16 (by kernel_rfl) rfl #[.agg #[.slice Ao14 t664.length co14,.slice Ao17 t667.length co17]] rfl (by (try simp only [List.map_toArray,List.map_cons,List.map_nil]);first | done | rfl | (simp only [List.length_drop,List.length_take];rfl)) ?_;(with_reducible refine (impl_ChancesOk.calls k2 _ _ t664 _ _ t667 true _ ?side1 ?side2 ?side3 ?side4 A62.out).mono ?_);(case side1=>repeat (first | exact (Kd.R_reads' HO_672000.out).2.2 | (with_reducible refine Kd.C_alloc ?_ _) | (with_reducible refine Kd.C_drewN ?_ _) | (with_reducible refine Kd.C_drew ?_)));(case side2=>exact (Kd.R_reads' HO_672000.out).2.1);(case side3=>repeat (first | exact (Kd.N_reads' HO_672001.out).2.2 | (with_reducible refine Kd.C_alloc ?_ _) | (with_reducible refine Kd.C_drewN ?_ _) | (with_reducible refine Kd.C_drew ?_)));(case side4=>exact (Kd.N_reads' HO_672001.out).2.1);rintro e w71 ⟨rfl,hb⟩;refine ⟨_,rfl,?_⟩;have n0_:=Aside0.mk (Kd.R_below (by (with_reducible repeat (first | apply Kd.R_alloc | apply Kd.R_drewN | apply Kd.R_drew));exact HO_10.out) hb);have n1_:=Aside0.mk (Kd.R_below (by (with_reducible repeat (first | apply Kd.R_alloc | apply Kd.R_drewN | apply Kd.R_drew));exact HO_664000.out) hb);have n2_:=Aside0.mk (Kd.N_below (by (with_reducible repeat (first | apply Kd.N_alloc | apply Kd.N_drewN | apply Kd.N_drew));exact HO_664001.out) hb);have n3_:=Aside0.mk (Kd.R_below (by (with_reducible repeat (first | apply Kd.R_alloc | apply Kd.R_drewN | apply Kd.R_drew));exact HO_672000.out) hb);have n4_:=Aside0.mk (Kd.N_below (by (with_reducible repeat (first | apply Kd.N_alloc | apply Kd.N_drewN | apply Kd.N_drew));exact HO_672001.out) hb);have n5_:=Aside0.mk (Kd.R_below (by (with_reducible repeat (first | apply Kd.R_alloc | apply Kd.R_drewN | apply Kd.R_drew));exact HO_680000.out) hb);have n6_:=Aside0.mk (Kd.N_below (by (with_reducible repeat (first | apply Kd.N_alloc | apply Kd.N_drewN | apply Kd.N_drew));exact HO_680001.out) hb);have n7_:=Aside0.mk (Kd.R_below (by (with_reducible repeat (first | apply Kd.R_alloc | apply Kd.R_drewN | apply Kd.R_drew));exact HO_689000.out) hb);have n8_:=Aside0.mk (Kd.N_below (by (with_reducible repeat (first | apply Kd.N_alloc | apply Kd.N_drewN | apply Kd.N_drew));exact HO_689001.out) hb);have n9_:=Aside0.mk (blk_below (g:=gb663) (o:=.cells #[.slice Ao9 t657.length co9,.slice Ao11 t660.length co11] 28 (0,0)) (by (with_reducible repeat (first | refine blk_drewN ?_ _ | refine blk_drew ?_ | refine blk_alloc ?_ _));exact BK663.out) hb);have n10_:=Aside0.mk (blk_below (g:=gb671) (o:=.cells #[.slice Ao14 t664.length co14,.slice Ao17 t667.length co17] 28 (0,0)) (by (with_reducible repeat (first | refine blk_drewN ?_ _ | refine blk_drew ?_ | refine blk_alloc ?_ _));exact BK671.out) hb);have n11_:=Aside0.mk (blk_below (g:=gb679) (o:=.cells #[.slice Ao21 t672.length co21,.slice Ao25 t675.length co25] 28 (0,0)) (by (with_reducible repeat (first | refine blk_drewN ?_ _ | refine blk_drew ?_ | refine blk_alloc ?_ _));exact BK679.out) hb);have n12_:=Aside0.mk (blk_below (g:=gb688) (o:=.cells #[.slice Ao49 t681.length co49,.slice Ao54 t684.length co54] 28 (0,0)) (by (with_reducible repeat (first | refine blk_drewN ?_ _ | refine blk_drew ?_ | refine blk_alloc ?_ _));exact BK688.out) hb);have n13_:=Aside0.mk (below_step (by repeat (with_reducible first | exact HB.out | apply below_alloc | apply pw_below_drewN | apply below_drew1 | refine below_set ?_ GE663.out | refine below_set ?_ GE671.out | refine below_set ?_ GE679.out | refine below_set ?_ GE688.out)) hb);clear HO_10;clear HO_664000;clear HO_664001;clear HO_672000;clear HO_672001;clear HO_680000;clear HO_680001;clear HO_689000;clear HO_689001;clear BK663;clear BK671;clear BK679;clear BK688;clear HB;have HO_10:=n0_;have HO_664000:=n1_;have HO_664001:=n2_;have HO_672000:=n3_;have HO_672001:=n4_;have HO_680000:=n5_;have HO_680001:=n6_;have HO_689000:=n7_;have HO_689001:=n8_;have BK663:=n9_;have BK671:=n10_;have BK679:=n11_;have BK688:=n12_;have HB:=n13_;clear n0_ n1_ n2_ n3_ n4_ n5_ n6_ n7_ n8_ n9_ n10_ n11_ n12_ n13_;(try clear hb);(try clear hb2);(try clear hk);(try clear hi);have hnb72:=NB688_663.out;have hnc72:=NB663_688.out;have hnb73:=NB688_679.out;have hnc73:=NB679_688.out;have hcz74_0:w71.cell? ⟨gb688,0,none⟩ = some (.slice Ao49 t681.length co49):=(blk_cell BK688.out 0).trans rfl;have hcz74_1:w71.cell? ⟨gb688,1,none⟩ = some (.slice Ao54 t684.length co54):=(blk_cell BK688.out 1).trans rfl;have hfz74_0:=blk_frozen BK688.out 0;have hfz74_1:=blk_frozen BK688.out 1;have hcz75_0:w71.cell? ⟨gb671,0,none⟩ = some (.slice Ao14 t664.length co14):=(blk_cell BK671.out 0).trans rfl;have hcz75_1:w71.cell? ⟨gb671,1,none⟩ = some (.slice Ao17 t667.length co17):=(blk_cell BK671.out 1).trans rfl;have hfz75_0:=blk_frozen BK671.out 0;have hfz75_1:=blk_frozen BK671.out 1) | (go_at_call 36;(with_reducible refine (laws_mnChances.calls k2 _ _ t681 _ _ t684 _ _ t664 _ _ t667 t694 _ ?side1 ?side2 ?side3 ?side4 ?side5 ?side6 ?side7 ?side8 A65.out).mono ?_);(case side1=>repeat (first | exact (Kd.R_reads' HO_689000.out).2.2 | (with_reducible refine Kd.C_alloc ?_ _) | (with_reducible refine Kd.C_drewN ?_ _) | (with_reducible refine Kd.C_drew ?_)));(case side2=>exact (Kd.R_reads' HO_689000.out).2.1);(case side3=>repeat (first | exact (Kd.N_reads' HO_689001.out).2.2 | (with_reducible refine Kd.C_alloc ?_ _) | (with_reducible refine Kd.C_drewN ?_ _) | (with_reducible refine Kd.C_drew ?_)));(case side4=>exact (Kd.N_reads' HO_689001.out).2.1);(case side5=>repeat (first | exact (Kd.R_reads' HO_672000.out).2.2 | (with_reducible refine Kd.C_alloc ?_ _) | (with_reducible refine Kd.C_drewN ?_ _) | (with_reducible refine Kd.C_drew ?_)));(case side6=>exact (Kd.R_reads' HO_672000.out).2.1);(case side7=>repeat (first | exact (Kd.N_reads' HO_672001.out).2.2 | (with_reducible refine Kd.C_alloc ?_ _) | (with_reducible refine Kd.C_drewN ?_ _) | (with_reducible refine Kd.C_drew ?_)));(case side8=>exact (Kd.N_reads' HO_672001.out).2.1);rintro e w76 ⟨rfl,hb⟩;have n0_:=Aside0.mk (Kd.R_below (by (with_reducible repeat (first | apply Kd.R_alloc | apply Kd.R_drewN | apply Kd.R_drew));exact HO_10.out) hb);have n1_:=Aside0.mk (Kd.R_below (by (with_reducible repeat (first | apply Kd.R_alloc | apply Kd.R_drewN | apply Kd.R_drew));exact HO_664000.out) hb);have n2_:=Aside0.mk (Kd.N_below (by (with_reducible repeat (first | apply Kd.N_alloc | apply Kd.N_drewN | apply Kd.N_drew));exact HO_664001.out) hb);have n3_:=Aside0.mk (Kd.R_below (by (with_reducible repeat (first | apply Kd.R_alloc | apply Kd.R_drewN | apply Kd.R_drew));exact HO_672000.out) hb);have n4_:=Aside0.mk (Kd.N_below (by (with_reducible repeat (first | apply Kd.N_alloc | apply Kd.N_drewN | apply Kd.N_drew));exact HO_672001.out) hb);have n5_:=Aside0.mk (Kd.R_below (by (with_reducible repeat (first | apply Kd.R_alloc | apply Kd.R_drewN | apply Kd.R_drew));exact HO_680000.out) hb);have n6_:=Aside0.mk (Kd.N_below (by (with_reducible repeat (first | apply Kd.N_alloc | apply Kd.N_drewN | apply Kd.N_drew));exact HO_680001.out) hb);have n7_:=Aside0.mk (Kd.R_below (by (with_reducible repeat (first | apply Kd.R_alloc | apply Kd.R_drewN | apply Kd.R_drew));exact HO_689000.out) hb);have n8_:=Aside0.mk (Kd.N_below (by (with_reducible repeat (first | apply Kd.N_alloc | apply Kd.N_drewN | apply Kd.N_drew));exact HO_689001.out) hb);have n9_:=Aside0.mk (blk_below (g:=gb663) (o:=.cells #[.slice Ao9 t657.length co9,.slice Ao11 t660.length co11] 28 (0,0)) (by (with_reducible repeat (first | refine blk_drewN ?_ _ | refine blk_drew ?_ | refine blk_alloc ?_ _));exact BK663.out) hb);have n10_:=Aside0.mk (blk_below (g:=gb671) (o:=.cells #[.slice Ao14 t664.length co14,.slice Ao17 t667.length co17] 28 (0,0)) (by (with_reducible repeat (first | refine blk_drewN ?_ _ | refine blk_drew ?_ | refine blk_alloc ?_ _));exact BK671.out) hb);have n11_:=Aside0.mk (blk_below (g:=gb679) (o:=.cells #[.slice Ao21 t672.length co21,.slice Ao25 t675.length co25] 28 (0,0)) (by (with_reducible repeat (first | refine blk_drewN ?_ _ | refine blk_drew ?_ | refine blk_alloc ?_ _));exact BK679.out) hb);have n12_:=Aside0.mk (blk_below (g:=gb688) (o:=.cells #[.slice Ao49 t681.length co49,.slice Ao54 t684.length co54] 28 (0,0)) (by (with_reducible repeat (first | refine blk_drewN ?_ _ | refine blk_drew ?_ | refine blk_alloc ?_ _));exact BK688.out) hb);have n13_:=Aside0.mk (below_step (by repeat (with_reducible first | exact HB.out | apply below_alloc | apply pw_below_drewN | apply below_drew1 | refine below_set ?_ GE663.out | refine below_set ?_ GE671.out | refine below_set ?_ GE679.out | refine below_set ?_ GE688.out)) hb);clear HO_10;clear HO_664000;clear HO_664001;clear HO_672000;clear HO_672001;clear HO_680000;clear HO_680001;clear HO_689000;clear HO_689001;clear BK663;clear BK671;clear BK679;clear BK688;clear HB;have HO_10:=n0_;have HO_664000:=n1_;have HO_664001:=n2_;have HO_672000:=n3_;have HO_672001:=n4_;have HO_680000:=n5_;have HO_680001:=n6_;have HO_689000:=n7_;have HO_689001:=n8_;have BK663:=n9_;have BK671:=n10_;have BK679:=n11_;have BK688:=n12_;have HB:=n13_;clear n0_ n1_ n2_ n3_ n4_ n5_ n6_ n7_ n8_ n9_ n10_ n11_ n12_ n13_;(try clear hb);(try clear hb2);(try clear hk);(try clear hi)))
           go_ret
           exact ⟨rfl,by exact HB.out⟩
          ·replace c64:=Bool.eq_false_iff.mpr c64
           subst c64
           have H1:(some false) = some r:=by rw [if_neg (show ¬ (false = true) by decide)] at H;exact H
           clear H
           have H:=H1
           clear H1
           obtain rfl:=Option.some.inj H
           obtain ⟨Ao77,co77,eo77⟩:=Kd.R_slice HO_10.out
           subst eo77
           have hnb78:=NB671_663.out
           have hnc78:=NB663_671.out
           have hnb79:=NB671_679.out
           have hnc79:=NB679_671.out
           have hnb80:=NB671_688.out
           have hnc80:=NB688_671.out
           have hcz81_0:wr.cell? ⟨gb671,0,none⟩ = some (.slice Ao14 t664.length co14):=(blk_cell BK671.out 0).trans rfl
           have hcz81_1:wr.cell? ⟨gb671,1,none⟩ = some (.slice Ao17 t667.length co17):=(blk_cell BK671.out 1).trans rfl
           have hfz81_0:=blk_frozen BK671.out 0
           have hfz81_1:=blk_frozen BK671.out 1
           go_wp2_with (first | ((with_reducible refine gate_callee (f:=16) rfl ?_);refine goesL_ (some 58) rfl rfl Try.func16 (by kernel_rfl) rfl #[.agg #[.slice Ao14 t664.length co14,.slice Ao17 t667.length co17]] rfl (by (try simp only [List.map_toArray,List.map_cons,List.map_nil]);first | done | rfl | (simp only [List.length_drop,List.length_take];rfl)) ?_;(with_reducible refine (impl_ChancesOk.calls k2 _ _ t664 _ _ t667 true _ ?side1 ?side2 ?side3 ?side4 A62.out).mono ?_);(case side1=>repeat (first | exact (Kd.R_reads' HO_672000.out).2.2 | (with_reducible refine Kd.C_alloc ?_ _) | (with_reducible refine Kd.C_drewN ?_ _) | (with_reducible refine Kd.C_drew ?_)));(case side2=>exact (Kd.R_reads' HO_672000.out).2.1);(case side3=>repeat (first | exact (Kd.N_reads' HO_672001.out).2.2 | (with_reducible refine Kd.C_alloc ?_ _) | (with_reducible refine Kd.C_drewN ?_ _) | (with_reducible refine Kd.C_drew ?_)));(case side4=>exact (Kd.N_reads' HO_672001.out).2.1);rintro e w82 ⟨rfl,hb⟩;refine ⟨_,rfl,?_⟩;have n0_:=Aside0.mk (Kd.R_below (by (with_reducible repeat (first | apply Kd.R_alloc | apply Kd.R_drewN | apply Kd.R_drew));exact HO_10.out) hb);have n1_:=Aside0.mk (Kd.R_below (by (with_reducible repeat (first | apply Kd.R_alloc | apply Kd.R_drewN | apply Kd.R_drew));exact HO_664000.out) hb);have n2_:=Aside0.mk (Kd.N_below (by (with_reducible repeat (first | apply Kd.N_alloc | apply Kd.N_drewN | apply Kd.N_drew));exact HO_664001.out) hb);have n3_:=Aside0.mk (Kd.R_below (by (with_reducible repeat (first | apply Kd.R_alloc | apply Kd.R_drewN | apply Kd.R_drew));exact HO_672000.out) hb);have n4_:=Aside0.mk (Kd.N_below (by (with_reducible repeat (first | apply Kd.N_alloc | apply Kd.N_drewN | apply Kd.N_drew));exact HO_672001.out) hb);have n5_:=Aside0.mk (Kd.R_below (by (with_reducible repeat (first | apply Kd.R_alloc | apply Kd.R_drewN | apply Kd.R_drew));exact HO_680000.out) hb);have n6_:=Aside0.mk (Kd.N_below (by (with_reducible repeat (first | apply Kd.N_alloc | apply Kd.N_drewN | apply Kd.N_drew));exact HO_680001.out) hb);have n7_:=Aside0.mk (Kd.R_below (by (with_reducible repeat (first | apply Kd.R_alloc | apply Kd.R_drewN | apply Kd.R_drew));exact HO_689000.out) hb);have n8_:=Aside0.mk (Kd.N_below (by (with_reducible repeat (first | apply Kd.N_alloc | apply Kd.N_drewN | apply Kd.N_drew));exact HO_689001.out) hb);have n9_:=Aside0.mk (blk_below (g:=gb663) (o:=.cells #[.slice Ao9 t657.length co9,.slice Ao11 t660.length co11] 28 (0,0)) (by (with_reducible repeat (first | refine blk_drewN ?_ _ | refine blk_drew ?_ | refine blk_alloc ?_ _));exact BK663.out) hb);have n10_:=Aside0.mk (blk_below (g:=gb671) (o:=.cells #[.slice Ao14 t664.length co14,.slice Ao17 t667.length co17] 28 (0,0)) (by (with_reducible repeat (first | refine blk_drewN ?_ _ | refine blk_drew ?_ | refine blk_alloc ?_ _));exact BK671.out) hb);have n11_:=Aside0.mk (blk_below (g:=gb679) (o:=.cells #[.slice Ao21 t672.length co21,.slice Ao25 t675.length co25] 28 (0,0)) (by (with_reducible repeat (first | refine blk_drewN ?_ _ | refine blk_drew ?_ | refine blk_alloc ?_ _));exact BK679.out) hb);have n12_:=Aside0.mk (blk_below (g:=gb688) (o:=.cells #[.slice Ao49 t681.length co49,.slice Ao54 t684.length co54] 28 (0,0)) (by (with_reducible repeat (first | refine blk_drewN ?_ _ | refine blk_drew ?_ | refine blk_alloc ?_ _));exact BK688.out) hb);have n13_:=Aside0.mk (below_step (by repeat (with_reducible first | exact HB.out | apply below_alloc | apply pw_below_drewN | apply below_drew1 | refine below_set ?_ GE663.out | refine below_set ?_ GE671.out | refine below_set ?_ GE679.out | refine below_set ?_ GE688.out)) hb);clear HO_10;clear HO_664000;clear HO_664001;clear HO_672000;clear HO_672001;clear HO_680000;clear HO_680001;clear HO_689000;clear HO_689001;clear BK663;clear BK671;clear BK679;clear BK688;clear HB;have HO_10:=n0_;have HO_664000:=n1_;have HO_664001:=n2_;have HO_672000:=n3_;have HO_672001:=n4_;have HO_680000:=n5_;have HO_680001:=n6_;have HO_689000:=n7_;have HO_689001:=n8_;have BK663:=n9_;have BK671:=n10_;have BK679:=n11_;have BK688:=n12_;have HB:=n13_;clear n0_ n1_ n2_ n3_ n4_ n5_ n6_ n7_ n8_ n9_ n10_ n11_ n12_ n13_;(try clear hb);(try clear hb2);(try clear hk);(try clear hi)))
           go_ret
           exact ⟨rfl,by exact HB.out⟩
         ·replace c63:=Bool.eq_false_iff.mpr c63
          subst c63
          have H1:(some false) = some r:=by rw [if_neg (show ¬ (false = true) by decide)] at H;exact H
          clear H
          have H:=H1
          clear H1
          obtain rfl:=Option.some.inj H
          obtain ⟨Ao83,co83,eo83⟩:=Kd.R_slice HO_10.out
          subst eo83
          have hnb84:=NB671_663.out
          have hnc84:=NB663_671.out
          have hnb85:=NB671_679.out
          have hnc85:=NB679_671.out
          have hnb86:=NB671_688.out
          have hnc86:=NB688_671.out
          have hcz87_0:wr.cell? ⟨gb671,0,none⟩ = some (.slice Ao14 t664.length co14):=(blk_cell BK671.out 0).trans rfl
          have hcz87_1:wr.cell? ⟨gb671,1,none⟩ = some (.slice Ao17 t667.length co17):=(blk_cell BK671.out 1).trans rfl
          have hfz87_0:=blk_frozen BK671.out 0
          have hfz87_1:=blk_frozen BK671.out 1
          go_wp2_with (first | ((with_reducible refine gate_callee (f:=16) rfl ?_);refine goesL_ (some 58) rfl rfl Try.func16 (by kernel_rfl) rfl #[.agg #[.slice Ao14 t664.length co14,.slice Ao17 t667.length co17]] rfl (by (try simp only [List.map_toArray,List.map_cons,List.map_nil]);first | done | rfl | (simp only [List.length_drop,List.length_take];rfl)) ?_;(with_reducible refine (impl_ChancesOk.calls k2 _ _ t664 _ _ t667 false _ ?side1 ?side2 ?side3 ?side4 A62.out).mono ?_);(case side1=>repeat (first | exact (Kd.R_reads' HO_672000.out).2.2 | (with_reducible refine Kd.C_alloc ?_ _) | (with_reducible refine Kd.C_drewN ?_ _) | (with_reducible refine Kd.C_drew ?_)));(case side2=>exact (Kd.R_reads' HO_672000.out).2.1);(case side3=>repeat (first | exact (Kd.N_reads' HO_672001.out).2.2 | (with_reducible refine Kd.C_alloc ?_ _) | (with_reducible refine Kd.C_drewN ?_ _) | (with_reducible refine Kd.C_drew ?_)));(case side4=>exact (Kd.N_reads' HO_672001.out).2.1);rintro e w88 ⟨rfl,hb⟩;refine ⟨_,rfl,?_⟩;have n0_:=Aside0.mk (Kd.R_below (by (with_reducible repeat (first | apply Kd.R_alloc | apply Kd.R_drewN | apply Kd.R_drew));exact HO_10.out) hb);have n1_:=Aside0.mk (Kd.R_below (by (with_reducible repeat (first | apply Kd.R_alloc | apply Kd.R_drewN | apply Kd.R_drew));exact HO_664000.out) hb);have n2_:=Aside0.mk (Kd.N_below (by (with_reducible repeat (first | apply Kd.N_alloc | apply Kd.N_drewN | apply Kd.N_drew));exact HO_664001.out) hb);have n3_:=Aside0.mk (Kd.R_below (by (with_reducible repeat (first | apply Kd.R_alloc | apply Kd.R_drewN | apply Kd.R_drew));exact HO_672000.out) hb);have n4_:=Aside0.mk (Kd.N_below (by (with_reducible repeat (first | apply Kd.N_alloc | apply Kd.N_drewN | apply Kd.N_drew));exact HO_672001.out) hb);have n5_:=Aside0.mk (Kd.R_below (by (with_reducible repeat (first | apply Kd.R_alloc | apply Kd.R_drewN | apply Kd.R_drew));exact HO_680000.out) hb);have n6_:=Aside0.mk (Kd.N_below (by (with_reducible repeat (first | apply Kd.N_alloc | apply Kd.N_drewN | apply Kd.N_drew));exact HO_680001.out) hb);have n7_:=Aside0.mk (Kd.R_below (by (with_reducible repeat (first | apply Kd.R_alloc | apply Kd.R_drewN | apply Kd.R_drew));exact HO_689000.out) hb);have n8_:=Aside0.mk (Kd.N_below (by (with_reducible repeat (first | apply Kd.N_alloc | apply Kd.N_drewN | apply Kd.N_drew));exact HO_689001.out) hb);have n9_:=Aside0.mk (blk_below (g:=gb663) (o:=.cells #[.slice Ao9 t657.length co9,.slice Ao11 t660.length co11] 28 (0,0)) (by (with_reducible repeat (first | refine blk_drewN ?_ _ | refine blk_drew ?_ | refine blk_alloc ?_ _));exact BK663.out) hb);have n10_:=Aside0.mk (blk_below (g:=gb671) (o:=.cells #[.slice Ao14 t664.length co14,.slice Ao17 t667.length co17] 28 (0,0)) (by (with_reducible repeat (first | refine blk_drewN ?_ _ | refine blk_drew ?_ | refine blk_alloc ?_ _));exact BK671.out) hb);have n11_:=Aside0.mk (blk_below (g:=gb679) (o:=.cells #[.slice Ao21 t672.length co21,.slice Ao25 t675.length co25] 28 (0,0)) (by (with_reducible repeat (first | refine blk_drewN ?_ _ | refine blk_drew ?_ | refine blk_alloc ?_ _));exact BK679.out) hb);have n12_:=Aside0.mk (blk_below (g:=gb688) (o:=.cells #[.slice Ao49 t681.length co49,.slice Ao54 t684.length co54] 28 (0,0)) (by (with_reducible repeat (first | refine blk_drewN ?_ _ | refine blk_drew ?_ | refine blk_alloc ?_ _));exact BK688.out) hb);have n13_:=Aside0.mk (below_step (by repeat (with_reducible first | exact HB.out | apply below_alloc | apply pw_below_drewN | apply below_drew1 | refine below_set ?_ GE663.out | refine below_set ?_ GE671.out | refine below_set ?_ GE679.out | refine below_set ?_ GE688.out)) hb);clear HO_10;clear HO_664000;clear HO_664001;clear HO_672000;clear HO_672001;clear HO_680000;clear HO_680001;clear HO_689000;clear HO_689001;clear BK663;clear BK671;clear BK679;clear BK688;clear HB;have HO_10:=n0_;have HO_664000:=n1_;have HO_664001:=n2_;have HO_672000:=n3_;have HO_672001:=n4_;have HO_680000:=n5_;have HO_680001:=n6_;have HO_689000:=n7_;have HO_689001:=n8_;have BK663:=n9_;have BK671:=n10_;have BK679:=n11_;have BK688:=n12_;have HB:=n13_;clear n0_ n1_ n2_ n3_ n4_ n5_ n6_ n7_ n8_ n9_ n10_ n11_ n12_ n13_;(try clear hb);(try clear hb2);(try clear hk);(try clear hi)))
          go_ret
          exact ⟨rfl,by exact HB.out⟩
     ·replace c41:=Bool.eq_false_iff.mpr c41
      subst c41
      have H1:(some true) = some r:=by rw [if_neg (show ¬ (false = true) by decide)] at H;exact H
      clear H
      have H:=H1
      clear H1
      obtain rfl:=Option.some.inj H
      go_wp2
      go_ret
      exact ⟨rfl,by exact HB.out⟩
def laws_FnChancesFold.Pure:Prop:=∀ (l0:List Int),l0.length ≤ maxLen → l0.length * 1 ≤ 140737488351232 → (∀ x ∈ l0,(Lit.int .u8 x).wf = true) → ∃ k,laws_FnChancesFold.f k l0 = some true
theorem laws_FnChancesFold.walk (P:laws_FnChancesFold.Pure) (a0:Option Addr) (len0 cap0:Nat) (z0:List Int) (w:World) (w0:(a0 = none∧len0 = 0∧cap0 = 0∧z0 = []) ∨ ∃ x,a0 = some x∧len0 ≤ cap0∧cap0 ≤ maxLen∧z0.length = cap0∧(∀ i,i < z0.length → w.cell? (x.add i) = some (.int .u8 (z0.getD i 0)))∧∀ n ∈ z0,(Lit.int .u8 n).wf = true) (y0:len0 * 1 ≤ 140737488351232) :
  Calls Try.prog 11 #[.slice a0 len0 cap0] w fun e w'=>e = .returned (.bool true)∧Below w.heap.size w w':=by
 obtain ⟨l0,rfl,hr0,hm0,hw0,hc0⟩:=ReadsInt.ofRowC w0
 obtain ⟨k,h⟩:=P l0 hm0 y0 hw0
 refine (laws_FnChancesFold.calls k _ _ l0 true w (Kd.C_of_reads (d:=(0:Int)) (h1:=fun _=>rfl) hr0) hc0 h).mono ?_
 rintro e w' ⟨rfl,hd⟩
 exact ⟨rfl,hd⟩
end Go.Proofs.Ytablnoddkllhmaa.P
