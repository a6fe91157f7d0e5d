/- What the Go functions that the laws reach compute, and that their calls come to just that: told by a program of this session (aprint.py). No condition. -/
import Derived.Test.YtbcjpdahdecehaaDoorP0
import Derived.Test.YtbcjpdahdecehaaDoorP1
import Derived.Test.YtbcjpdahdecehaaDoorP2
import Derived.Test.YtbcjpdahdecehaaDoorHItoa
namespace Go.Proofs.YtbcjpdahdecehaaDoor.P
open Go.RowKit Go.Proofs.YtbcjpdahdecehaaDoorW.PrintWords Go.Proofs.YtbcjpdahdecehaaDoorW.PrintLast Go.Proofs.YtbcjpdahdecehaaDoorW.PrintMore
attribute [local go_sem] max2_int min2_int max_two min_two max_three min_three max_four min_four
set_option linter.unusedVariables false
set_option linter.unusedSimpArgs false
def spec_SealUnder.f (k:Nat) (a0_0:Int) (a0_1:Int) (l0_2:List (S25)) (a1_0:Int) (a1_1:Int) (l1_2:List (S25)):Option (Bool):=(spec_SealOk.f k a0_0 a0_1 l0_2).bind fun t314=>(if t314 = true then ((spec_SealOk.f k a1_0 a1_1 l1_2).bind fun t315=>(if t315 = true then ((spec_l20Under.f k a0_0 a0_1 l0_2 a1_0 a1_1 l1_2).bind fun t316=>(some t316)) else (some false))) else (some false))
theorem spec_SealUnder.mono:∀ a0 a1 a2 a3 a4 a5 k,LeO (spec_SealUnder.f k a0 a1 a2 a3 a4 a5) (spec_SealUnder.f (k + 1) a0 a1 a2 a3 a4 a5):=by
 intro a0 a1 a2 a3 a4 a5 k
 unfold spec_SealUnder.f
 repeat' first
   | (with_reducible exact spec_SealOk.mono _ _ _ _)
   | (with_reducible exact spec_l20Under.mono _ _ _ _ _ _ _)
   | (with_reducible exact LeO.refl _)
   | (with_reducible exact LeO.none _)
   | (with_reducible refine LeO.ite ?_ ?_)
   | (with_reducible refine LeO.bind ?_ (fun _=>?_))
   | exact spec_SealOk.mono _ _ _ _
   | exact spec_l20Under.mono _ _ _ _ _ _ _
   | exact LeO.none _
   | refine LeO.ite ?_ ?_
   | refine LeO.bind ?_ (fun _=>?_)
set_option maxHeartbeats 8000000 in
set_option maxRecDepth 100000 in
theorem spec_SealUnder.calls (k:Nat) (a0_0:Int) (a0_1:Int) (A0_2:Option Addr) (c0_2:Nat) (l0_2:List (S25)) (a1_0:Int) (a1_1:Int) (A1_2:Option Addr) (c1_2:Nat) (l1_2:List (S25)) (r:Bool) (w:World) (hr0_2:Kd.C k25 w A0_2 l0_2.length l0_2) (hc0_2:l0_2.length ≤ c0_2) (hr1_2:Kd.C k25 w A1_2 l1_2.length l1_2) (hc1_2:l1_2.length ≤ c1_2) (h:spec_SealUnder.f k a0_0 a0_1 l0_2 a1_0 a1_1 l1_2 = some r) :
  Calls Tryd.prog 23 #[.agg #[.int .i64 a0_0,.int .i64 a0_1,.slice A0_2 l0_2.length c0_2],.agg #[.int .i64 a1_0,.int .i64 a1_1,.slice A1_2 l1_2.length c1_2]] w fun e w'=>e = .returned (.bool r)∧Below w.heap.size w w':=by
 have hu25:=Tryd.underlying25
 have HR0_2:=Aside0.mk hr0_2
 have HC0_2:=Aside0.mk hc0_2
 clear hr0_2 hc0_2
 have HR1_2:=Aside0.mk hr1_2
 have HC1_2:=Aside0.mk hc1_2
 clear hr1_2 hc1_2
 have HB:=Aside0.mk (Below.refl w.heap.size w)
 have H:((spec_SealOk.f k a0_0 a0_1 l0_2).bind fun t314=>(if t314 = true then ((spec_SealOk.f k a1_0 a1_1 l1_2).bind fun t315=>(if t315 = true then ((spec_l20Under.f k a0_0 a0_1 l0_2 a1_0 a1_1 l1_2).bind fun t316=>(some t316)) else (some false))) else (some false))) = some r:=h
 clear h
 replace H:=Option.bind_eq_some_iff.mp H
 obtain ⟨t314,A30,H⟩:=H
 replace H:(if t314 = true then ((spec_SealOk.f k a1_0 a1_1 l1_2).bind fun t315=>(if t315 = true then ((spec_l20Under.f k a0_0 a0_1 l0_2 a1_0 a1_1 l1_2).bind fun t316=>(some t316)) else (some false))) else (some false)) = some r:=H
 have A3:=Aside0.mk A30
 clear A30
 by_cases c4:t314 = true
 ·subst c4
  have H1:((spec_SealOk.f k a1_0 a1_1 l1_2).bind fun t315=>(if t315 = true then ((spec_l20Under.f k a0_0 a0_1 l0_2 a1_0 a1_1 l1_2).bind fun t316=>(some t316)) else (some false))) = some r:=by rw [if_pos rfl] at H;exact H
  clear H
  have H:=H1
  clear H1
  replace H:=Option.bind_eq_some_iff.mp H
  obtain ⟨t315,A50,H⟩:=H
  replace H:(if t315 = true then ((spec_l20Under.f k a0_0 a0_1 l0_2 a1_0 a1_1 l1_2).bind fun t316=>(some t316)) else (some false)) = some r:=H
  have A5:=Aside0.mk A50
  clear A50
  by_cases c6:t315 = true
  ·subst c6
   have H1:((spec_l20Under.f k a0_0 a0_1 l0_2 a1_0 a1_1 l1_2).bind fun t316=>(some t316)) = some r:=by rw [if_pos rfl] at H;exact H
   clear H
   have H:=H1
   clear H1
   replace H:=Option.bind_eq_some_iff.mp H
   obtain ⟨t316,A70,H⟩:=H
   replace H:(some t316) = some r:=H
   have A7:=Aside0.mk A70
   clear A70
   obtain rfl:=Option.some.inj H
   go_enter Tryd.func23,Tryd.ntmps23
   go_wp2_with (first | ((with_reducible refine gate_dst (N:=2) rfl ?_);refine box_event ?hg (N:=2) ?hd (cs:=#[.int .i64 a0_0,.int .i64 a0_1,.slice A0_2 l0_2.length c0_2]) (t:=25) ?hr ?_;(case hd=>rfl);(case hg=>rfl);(case hr=>first | (go_simp;done) | (go_simp;rfl));intro gb312 hg w8 hbox hb;have n0_:=Aside0.mk (below_step (by repeat (first | (with_reducible first | exact HB.out | apply below_alloc | apply pw_below_drewN | apply below_drew1) | exact HB.out)) hb);have n1_:=Aside0.mk (hbox);have n2_:=Aside0.mk ((by rw [hg];exact (below_size (by repeat (first | (with_reducible first | exact HB.out | apply below_alloc | apply pw_below_drewN | apply below_drew1) | exact HB.out))):w.heap.size ≤ gb312));have n3_:=Aside0.mk ((by rw [hg];exact (below_size (by repeat (first | (with_reducible first | exact HB.out | apply below_alloc | apply pw_below_drewN | apply below_drew1) | exact HB.out))):w.heap.size ≤ gb312));clear HB;have HB:=n0_;have BK312:=n1_;have GW312:=n2_;have GE312:=n3_;clear n0_ n1_ n2_ n3_;clear hb hbox hg) | ((with_reducible refine gate_dst (N:=3) rfl ?_);refine box_event ?hg (N:=3) ?hd (cs:=#[.int .i64 a1_0,.int .i64 a1_1,.slice A1_2 l1_2.length c1_2]) (t:=25) ?hr ?_;(case hd=>rfl);(case hg=>rfl);(case hr=>first | (go_simp;done) | (go_simp;rfl));intro gb313 hg w9 hbox hb;have n0_:=Aside0.mk (blk_below (g:=gb312) (o:=.cells #[.int .i64 a0_0,.int .i64 a0_1,.slice A0_2 l0_2.length c0_2] 25 (0,0)) (by (with_reducible repeat (first | refine blk_drewN ?_ _ | refine blk_drew ?_ | refine blk_alloc ?_ _));exact BK312.out) hb);have n1_:=Aside0.mk (below_step (by repeat (first | (with_reducible first | exact HB.out | apply below_alloc | apply pw_below_drewN | apply below_drew1 | refine below_set ?_ GE312.out) | exact HB.out)) hb);have n2_:=Aside0.mk (hbox);have n3_:=Aside0.mk ((by rw [hg];exact (below_size (by repeat (first | (with_reducible first | exact HB.out | apply below_alloc | apply pw_below_drewN | apply below_drew1 | refine below_set ?_ GE312.out) | exact HB.out))):w.heap.size ≤ gb313));have n4_:=Aside0.mk ((by rw [hg];exact (below_size (by repeat (first | (with_reducible first | exact HB.out | apply below_alloc | apply pw_below_drewN | apply below_drew1 | refine below_set ?_ GE312.out) | exact HB.out))):w.heap.size ≤ gb313));have n5_:=Aside0.mk ((by rw [hg];exact Nat.ne_of_lt (blk_lt (g:=gb312) (o:=.cells #[.int .i64 a0_0,.int .i64 a0_1,.slice A0_2 l0_2.length c0_2] 25 (0,0)) (by (with_reducible repeat (first | refine blk_drewN ?_ _ | refine blk_drew ?_ | refine blk_alloc ?_ _));exact BK312.out)):gb312 ≠ gb313));have n6_:=Aside0.mk ((by rw [hg];exact Nat.ne_of_gt (blk_lt (g:=gb312) (o:=.cells #[.int .i64 a0_0,.int .i64 a0_1,.slice A0_2 l0_2.length c0_2] 25 (0,0)) (by (with_reducible repeat (first | refine blk_drewN ?_ _ | refine blk_drew ?_ | refine blk_alloc ?_ _));exact BK312.out)):gb313 ≠ gb312));clear BK312;clear HB;have BK312:=n0_;have HB:=n1_;have BK313:=n2_;have GW313:=n3_;have GE313:=n4_;have NB312_313:=n5_;have NB313_312:=n6_;clear n0_ n1_ n2_ n3_ n4_ n5_ n6_;clear hb hbox hg;have hnb10:=NB312_313.out;have hnc10:=NB313_312.out;have hcz11_0:w9.cell? ⟨gb312,0,none⟩ = some (.int .i64 a0_0):=(blk_cell BK312.out 0).trans rfl;have hcz11_1:w9.cell? ⟨gb312,1,none⟩ = some (.int .i64 a0_1):=(blk_cell BK312.out 1).trans rfl;have hcz11_2:w9.cell? ⟨gb312,2,none⟩ = some (.slice A0_2 l0_2.length c0_2):=(blk_cell BK312.out 2).trans rfl;have hfz11_0:=blk_frozen BK312.out 0;have hfz11_1:=blk_frozen BK312.out 1;have hfz11_2:=blk_frozen BK312.out 2) | ((with_reducible refine gate_callee (f:=15) rfl ?_);refine goesL_ (some 6) rfl rfl Tryd.func15 (by kernel_rfl) rfl #[.agg #[.int .i64 a0_0,.int .i64 a0_1,.slice A0_2 l0_2.length c0_2]] rfl (by (try simp only [List.map_toArray,List.map_cons,List.map_nil]);first | done | rfl | (simp only [List.length_drop,List.length_take];rfl)) ?_;(with_reducible refine (spec_SealOk.calls k a0_0 a0_1 _ _ l0_2 true _ ?side1 ?side2 A3.out).mono ?_);(case side1=>repeat (first | exact (Kd.C_below HR0_2.out HB.out) | (with_reducible refine Kd.C_alloc ?_ _) | (with_reducible refine Kd.C_drewN ?_ _) | (with_reducible refine Kd.C_drew ?_)));(case side2=>exact HC0_2.out);rintro e w12 ⟨rfl,hb⟩;refine ⟨_,rfl,?_⟩;have n0_:=Aside0.mk (blk_below (g:=gb312) (o:=.cells #[.int .i64 a0_0,.int .i64 a0_1,.slice A0_2 l0_2.length c0_2] 25 (0,0)) (by (with_reducible repeat (first | refine blk_drewN ?_ _ | refine blk_drew ?_ | refine blk_alloc ?_ _));exact BK312.out) hb);have n1_:=Aside0.mk (blk_below (g:=gb313) (o:=.cells #[.int .i64 a1_0,.int .i64 a1_1,.slice A1_2 l1_2.length c1_2] 25 (0,0)) (by (with_reducible repeat (first | refine blk_drewN ?_ _ | refine blk_drew ?_ | refine blk_alloc ?_ _));exact BK313.out) hb);have n2_:=Aside0.mk (below_step (by repeat (first | (with_reducible first | exact HB.out | apply below_alloc | apply pw_below_drewN | apply below_drew1 | refine below_set ?_ GE312.out | refine below_set ?_ GE313.out) | exact HB.out)) hb);clear BK312;clear BK313;clear HB;have BK312:=n0_;have BK313:=n1_;have HB:=n2_;clear n0_ n1_ n2_;(try clear hb);(try clear hb2);(try clear hk);(try clear hi);have hcz13_0:w12.cell? ⟨gb313,0,none⟩ = some (.int .i64 a1_0):=(blk_cell BK313.out 0).trans rfl;have hcz13_1:w12.cell? ⟨gb313,1,none⟩ = some (.int .i64 a1_1):=(blk_cell BK313.out 1).trans rfl;have hcz13_2:w12.cell? ⟨gb313,2,none⟩ = some (.slice A1_2 l1_2.length c1_2):=(blk_cell BK313.out 2).trans rfl;have hfz13_0:=blk_frozen BK313.out 0;have hfz13_1:=blk_frozen BK313.out 1;have hfz13_2:=blk_frozen BK313.out 2) | (go_at_call 15;(with_reducible refine (spec_SealOk.calls k a1_0 a1_1 _ _ l1_2 true _ ?side1 ?side2 A5.out).mono ?_);(case side1=>repeat (first | exact (Kd.C_below HR1_2.out HB.out) | (with_reducible refine Kd.C_alloc ?_ _) | (with_reducible refine Kd.C_drewN ?_ _) | (with_reducible refine Kd.C_drew ?_)));(case side2=>exact HC1_2.out);rintro e w14 ⟨rfl,hb⟩;have n0_:=Aside0.mk (blk_below (g:=gb312) (o:=.cells #[.int .i64 a0_0,.int .i64 a0_1,.slice A0_2 l0_2.length c0_2] 25 (0,0)) (by (with_reducible repeat (first | refine blk_drewN ?_ _ | refine blk_drew ?_ | refine blk_alloc ?_ _));exact BK312.out) hb);have n1_:=Aside0.mk (blk_below (g:=gb313) (o:=.cells #[.int .i64 a1_0,.int .i64 a1_1,.slice A1_2 l1_2.length c1_2] 25 (0,0)) (by (with_reducible repeat (first | refine blk_drewN ?_ _ | refine blk_drew ?_ | refine blk_alloc ?_ _));exact BK313.out) hb);have n2_:=Aside0.mk (below_step (by repeat (first | (with_reducible first | exact HB.out | apply below_alloc | apply pw_below_drewN | apply below_drew1 | refine below_set ?_ GE312.out | refine below_set ?_ GE313.out) | exact HB.out)) hb);clear BK312;clear BK313;clear HB;have BK312:=n0_;have BK313:=n1_;have HB:=n2_;clear n0_ n1_ n2_;(try clear hb);(try clear hb2);(try clear hk);(try clear hi);have hcz15_0:w14.cell? ⟨gb312,0,none⟩ = some (.int .i64 a0_0):=(blk_cell BK312.out 0).trans rfl;have hcz15_1:w14.cell? ⟨gb312,1,none⟩ = some (.int .i64 a0_1):=(blk_cell BK312.out 1).trans rfl;have hcz15_2:w14.cell? ⟨gb312,2,none⟩ = some (.slice A0_2 l0_2.length c0_2):=(blk_cell BK312.out 2).trans rfl;have hfz15_0:=blk_frozen BK312.out 0;have hfz15_1:=blk_frozen BK312.out 1;have hfz15_2:=blk_frozen BK312.out 2;have hcz16_0:w14.cell? ⟨gb313,0,none⟩ = some (.int .i64 a1_0):=(blk_cell BK313.out 0).trans rfl;have hcz16_1:w14.cell? ⟨gb313,1,none⟩ = some (.int .i64 a1_1):=(blk_cell BK313.out 1).trans rfl;have hcz16_2:w14.cell? ⟨gb313,2,none⟩ = some (.slice A1_2 l1_2.length c1_2):=(blk_cell BK313.out 2).trans rfl;have hfz16_0:=blk_frozen BK313.out 0;have hfz16_1:=blk_frozen BK313.out 1;have hfz16_2:=blk_frozen BK313.out 2) | (go_at_call 49;(with_reducible refine (spec_l20Under.calls k a0_0 a0_1 _ _ l0_2 a1_0 a1_1 _ _ l1_2 t316 _ ?side1 ?side2 ?side3 ?side4 A7.out).mono ?_);(case side1=>repeat (first | exact (Kd.C_below HR0_2.out HB.out) | (with_reducible refine Kd.C_alloc ?_ _) | (with_reducible refine Kd.C_drewN ?_ _) | (with_reducible refine Kd.C_drew ?_)));(case side2=>exact HC0_2.out);(case side3=>repeat (first | exact (Kd.C_below HR1_2.out HB.out) | (with_reducible refine Kd.C_alloc ?_ _) | (with_reducible refine Kd.C_drewN ?_ _) | (with_reducible refine Kd.C_drew ?_)));(case side4=>exact HC1_2.out);rintro e w17 ⟨rfl,hb⟩;have n0_:=Aside0.mk (blk_below (g:=gb312) (o:=.cells #[.int .i64 a0_0,.int .i64 a0_1,.slice A0_2 l0_2.length c0_2] 25 (0,0)) (by (with_reducible repeat (first | refine blk_drewN ?_ _ | refine blk_drew ?_ | refine blk_alloc ?_ _));exact BK312.out) hb);have n1_:=Aside0.mk (blk_below (g:=gb313) (o:=.cells #[.int .i64 a1_0,.int .i64 a1_1,.slice A1_2 l1_2.length c1_2] 25 (0,0)) (by (with_reducible repeat (first | refine blk_drewN ?_ _ | refine blk_drew ?_ | refine blk_alloc ?_ _));exact BK313.out) hb);have n2_:=Aside0.mk (below_step (by repeat (first | (with_reducible first | exact HB.out | apply below_alloc | apply pw_below_drewN | apply below_drew1 | refine below_set ?_ GE312.out | refine below_set ?_ GE313.out) | exact HB.out)) hb);clear BK312;clear BK313;clear HB;have BK312:=n0_;have BK313:=n1_;have HB:=n2_;clear n0_ n1_ n2_;(try clear hb);(try clear hb2);(try clear hk);(try clear hi)))
   go_ret
   exact ⟨by first | rfl | (simp [errW_none,errW_some] <;> rfl) | (simp [*,errW_none,errW_some] <;> rfl),by repeat (first | (with_reducible first | exact HB.out | apply below_alloc | apply pw_below_drewN | apply below_drew1 | refine below_set ?_ GE312.out | refine below_set ?_ GE313.out) | exact HB.out)⟩
  ·replace c6:=Bool.eq_false_iff.mpr c6
   subst c6
   have H1:(some false) = some r:=by rw [if_neg (show ¬ (false = true) by decide)] at H;exact H
   clear H
   have H:=H1
   clear H1
   obtain rfl:=Option.some.inj H
   go_enter Tryd.func23,Tryd.ntmps23
   go_wp2_with (first | ((with_reducible refine gate_dst (N:=2) rfl ?_);refine box_event ?hg (N:=2) ?hd (cs:=#[.int .i64 a0_0,.int .i64 a0_1,.slice A0_2 l0_2.length c0_2]) (t:=25) ?hr ?_;(case hd=>rfl);(case hg=>rfl);(case hr=>first | (go_simp;done) | (go_simp;rfl));intro gb312 hg w18 hbox hb;have n0_:=Aside0.mk (below_step (by repeat (first | (with_reducible first | exact HB.out | apply below_alloc | apply pw_below_drewN | apply below_drew1) | exact HB.out)) hb);have n1_:=Aside0.mk (hbox);have n2_:=Aside0.mk ((by rw [hg];exact (below_size (by repeat (first | (with_reducible first | exact HB.out | apply below_alloc | apply pw_below_drewN | apply below_drew1) | exact HB.out))):w.heap.size ≤ gb312));have n3_:=Aside0.mk ((by rw [hg];exact (below_size (by repeat (first | (with_reducible first | exact HB.out | apply below_alloc | apply pw_below_drewN | apply below_drew1) | exact HB.out))):w.heap.size ≤ gb312));clear HB;have HB:=n0_;have BK312:=n1_;have GW312:=n2_;have GE312:=n3_;clear n0_ n1_ n2_ n3_;clear hb hbox hg) | ((with_reducible refine gate_dst (N:=3) rfl ?_);refine box_event ?hg (N:=3) ?hd (cs:=#[.int .i64 a1_0,.int .i64 a1_1,.slice A1_2 l1_2.length c1_2]) (t:=25) ?hr ?_;(case hd=>rfl);(case hg=>rfl);(case hr=>first | (go_simp;done) | (go_simp;rfl));intro gb313 hg w19 hbox hb;have n0_:=Aside0.mk (blk_below (g:=gb312) (o:=.cells #[.int .i64 a0_0,.int .i64 a0_1,.slice A0_2 l0_2.length c0_2] 25 (0,0)) (by (with_reducible repeat (first | refine blk_drewN ?_ _ | refine blk_drew ?_ | refine blk_alloc ?_ _));exact BK312.out) hb);have n1_:=Aside0.mk (below_step (by repeat (first | (with_reducible first | exact HB.out | apply below_alloc | apply pw_below_drewN | apply below_drew1 | refine below_set ?_ GE312.out) | exact HB.out)) hb);have n2_:=Aside0.mk (hbox);have n3_:=Aside0.mk ((by rw [hg];exact (below_size (by repeat (first | (with_reducible first | exact HB.out | apply below_alloc | apply pw_below_drewN | apply below_drew1 | refine below_set ?_ GE312.out) | exact HB.out))):w.heap.size ≤ gb313));have n4_:=Aside0.mk ((by rw [hg];exact (below_size (by repeat (first | (with_reducible first | exact HB.out | apply below_alloc | apply pw_below_drewN | apply below_drew1 | refine below_set ?_ GE312.out) | exact HB.out))):w.heap.size ≤ gb313));have n5_:=Aside0.mk ((by rw [hg];exact Nat.ne_of_lt (blk_lt (g:=gb312) (o:=.cells #[.int .i64 a0_0,.int .i64 a0_1,.slice A0_2 l0_2.length c0_2] 25 (0,0)) (by (with_reducible repeat (first | refine blk_drewN ?_ _ | refine blk_drew ?_ | refine blk_alloc ?_ _));exact BK312.out)):gb312 ≠ gb313));have n6_:=Aside0.mk ((by rw [hg];exact Nat.ne_of_gt (blk_lt (g:=gb312) (o:=.cells #[.int .i64 a0_0,.int .i64 a0_1,.slice A0_2 l0_2.length c0_2] 25 (0,0)) (by (with_reducible repeat (first | refine blk_drewN ?_ _ | refine blk_drew ?_ | refine blk_alloc ?_ _));exact BK312.out)):gb313 ≠ gb312));clear BK312;clear HB;have BK312:=n0_;have HB:=n1_;have BK313:=n2_;have GW313:=n3_;have GE313:=n4_;have NB312_313:=n5_;have NB313_312:=n6_;clear n0_ n1_ n2_ n3_ n4_ n5_ n6_;clear hb hbox hg;have hnb20:=NB312_313.out;have hnc20:=NB313_312.out;have hcz21_0:w19.cell? ⟨gb312,0,none⟩ = some (.int .i64 a0_0):=(blk_cell BK312.out 0).trans rfl;have hcz21_1:w19.cell? ⟨gb312,1,none⟩ = some (.int .i64 a0_1):=(blk_cell BK312.out 1).trans rfl;have hcz21_2:w19.cell? ⟨gb312,2,none⟩ = some (.slice A0_2 l0_2.length c0_2):=(blk_cell BK312.out 2).trans rfl;have hfz21_0:=blk_frozen BK312.out 0;have hfz21_1:=blk_frozen BK312.out 1;have hfz21_2:=blk_frozen BK312.out 2) | ((with_reducible refine gate_callee (f:=15) rfl ?_);refine goesL_ (some 6) rfl rfl Tryd.func15 (by kernel_rfl) rfl #[.agg #[.int .i64 a0_0,.int .i64 a0_1,.slice A0_2 l0_2.length c0_2]] rfl (by (try simp only [List.map_toArray,List.map_cons,List.map_nil]);first | done | rfl | (simp only [List.length_drop,List.length_take];rfl)) ?_;(with_reducible refine (spec_SealOk.calls k a0_0 a0_1 _ _ l0_2 true _ ?side1 ?side2 A3.out).mono ?_);(case side1=>repeat (first | exact (Kd.C_below HR0_2.out HB.out) | (with_reducible refine Kd.C_alloc ?_ _) | (with_reducible refine Kd.C_drewN ?_ _) | (with_reducible refine Kd.C_drew ?_)));(case side2=>exact HC0_2.out);rintro e w22 ⟨rfl,hb⟩;refine ⟨_,rfl,?_⟩;have n0_:=Aside0.mk (blk_below (g:=gb312) (o:=.cells #[.int .i64 a0_0,.int .i64 a0_1,.slice A0_2 l0_2.length c0_2] 25 (0,0)) (by (with_reducible repeat (first | refine blk_drewN ?_ _ | refine blk_drew ?_ | refine blk_alloc ?_ _));exact BK312.out) hb);have n1_:=Aside0.mk (blk_below (g:=gb313) (o:=.cells #[.int .i64 a1_0,.int .i64 a1_1,.slice A1_2 l1_2.length c1_2] 25 (0,0)) (by (with_reducible repeat (first | refine blk_drewN ?_ _ | refine blk_drew ?_ | refine blk_alloc ?_ _));exact BK313.out) hb);have n2_:=Aside0.mk (below_step (by repeat (first | (with_reducible first | exact HB.out | apply below_alloc | apply pw_below_drewN | apply below_drew1 | refine below_set ?_ GE312.out | refine below_set ?_ GE313.out) | exact HB.out)) hb);clear BK312;clear BK313;clear HB;have BK312:=n0_;have BK313:=n1_;have HB:=n2_;clear n0_ n1_ n2_;(try clear hb);(try clear hb2);(try clear hk);(try clear hi);have hcz23_0:w22.cell? ⟨gb313,0,none⟩ = some (.int .i64 a1_0):=(blk_cell BK313.out 0).trans rfl;have hcz23_1:w22.cell? ⟨gb313,1,none⟩ = some (.int .i64 a1_1):=(blk_cell BK313.out 1).trans rfl;have hcz23_2:w22.cell? ⟨gb313,2,none⟩ = some (.slice A1_2 l1_2.length c1_2):=(blk_cell BK313.out 2).trans rfl;have hfz23_0:=blk_frozen BK313.out 0;have hfz23_1:=blk_frozen BK313.out 1;have hfz23_2:=blk_frozen BK313.out 2) | (go_at_call 15;(with_reducible refine (spec_SealOk.calls k a1_0 a1_1 _ _ l1_2 false _ ?side1 ?side2 A5.out).mono ?_);(case side1=>repeat (first | exact (Kd.C_below HR1_2.out HB.out) | (with_reducible refine Kd.C_alloc ?_ _) | (with_reducible refine Kd.C_drewN ?_ _) | (with_reducible refine Kd.C_drew ?_)));(case side2=>exact HC1_2.out);rintro e w24 ⟨rfl,hb⟩;have n0_:=Aside0.mk (blk_below (g:=gb312) (o:=.cells #[.int .i64 a0_0,.int .i64 a0_1,.slice A0_2 l0_2.length c0_2] 25 (0,0)) (by (with_reducible repeat (first | refine blk_drewN ?_ _ | refine blk_drew ?_ | refine blk_alloc ?_ _));exact BK312.out) hb);have n1_:=Aside0.mk (blk_below (g:=gb313) (o:=.cells #[.int .i64 a1_0,.int .i64 a1_1,.slice A1_2 l1_2.length c1_2] 25 (0,0)) (by (with_reducible repeat (first | refine blk_drewN ?_ _ | refine blk_drew ?_ | refine blk_alloc ?_ _));exact BK313.out) hb);have n2_:=Aside0.mk (below_step (by repeat (first | (with_reducible first | exact HB.out | apply below_alloc | apply pw_below_drewN | apply below_drew1 | refine below_set ?_ GE312.out | refine below_set ?_ GE313.out) | exact HB.out)) hb);clear BK312;clear BK313;clear HB;have BK312:=n0_;have BK313:=n1_;have HB:=n2_;clear n0_ n1_ n2_;(try clear hb);(try clear hb2);(try clear hk);(try clear hi)))
   go_ret
   exact ⟨by first | rfl | (simp [errW_none,errW_some] <;> rfl) | (simp [*,errW_none,errW_some] <;> rfl),by repeat (first | (with_reducible first | exact HB.out | apply below_alloc | apply pw_below_drewN | apply below_drew1 | refine below_set ?_ GE312.out | refine below_set ?_ GE313.out) | exact HB.out)⟩
 ·replace c4:=Bool.eq_false_iff.mpr c4
  subst c4
  have H1:(some false) = some r:=by rw [if_neg (show ¬ (false = true) by decide)] at H;exact H
  clear H
  have H:=H1
  clear H1
  obtain rfl:=Option.some.inj H
  go_enter Tryd.func23,Tryd.ntmps23
  go_wp2_with (first | ((with_reducible refine gate_dst (N:=2) rfl ?_);refine box_event ?hg (N:=2) ?hd (cs:=#[.int .i64 a0_0,.int .i64 a0_1,.slice A0_2 l0_2.length c0_2]) (t:=25) ?hr ?_;(case hd=>rfl);(case hg=>rfl);(case hr=>first | (go_simp;done) | (go_simp;rfl));intro gb312 hg w25 hbox hb;have n0_:=Aside0.mk (below_step (by repeat (first | (with_reducible first | exact HB.out | apply below_alloc | apply pw_below_drewN | apply below_drew1) | exact HB.out)) hb);have n1_:=Aside0.mk (hbox);have n2_:=Aside0.mk ((by rw [hg];exact (below_size (by repeat (first | (with_reducible first | exact HB.out | apply below_alloc | apply pw_below_drewN | apply below_drew1) | exact HB.out))):w.heap.size ≤ gb312));have n3_:=Aside0.mk ((by rw [hg];exact (below_size (by repeat (first | (with_reducible first | exact HB.out | apply below_alloc | apply pw_below_drewN | apply below_drew1) | exact HB.out))):w.heap.size ≤ gb312));clear HB;have HB:=n0_;have BK312:=n1_;have GW312:=n2_;have GE312:=n3_;clear n0_ n1_ n2_ n3_;clear hb hbox hg) | ((with_reducible refine gate_dst (N:=3) rfl ?_);refine box_event ?hg (N:=3) ?hd (cs:=#[.int .i64 a1_0,.int .i64 a1_1,.slice A1_2 l1_2.length c1_2]) (t:=25) ?hr ?_;(case hd=>rfl);(case hg=>rfl);(case hr=>first | (go_simp;done) | (go_simp;rfl));intro gb313 hg w26 hbox hb;have n0_:=Aside0.mk (blk_below (g:=gb312) (o:=.cells #[.int .i64 a0_0,.int .i64 a0_1,.slice A0_2 l0_2.length c0_2] 25 (0,0)) (by (with_reducible repeat (first | refine blk_drewN ?_ _ | refine blk_drew ?_ | refine blk_alloc ?_ _));exact BK312.out) hb);have n1_:=Aside0.mk (below_step (by repeat (first | (with_reducible first | exact HB.out | apply below_alloc | apply pw_below_drewN | apply below_drew1 | refine below_set ?_ GE312.out) | exact HB.out)) hb);have n2_:=Aside0.mk (hbox);have n3_:=Aside0.mk ((by rw [hg];exact (below_size (by repeat (first | (with_reducible first | exact HB.out | apply below_alloc | apply pw_below_drewN | apply below_drew1 | refine below_set ?_ GE312.out) | exact HB.out))):w.heap.size ≤ gb313));have n4_:=Aside0.mk ((by rw [hg];exact (below_size (by repeat (first | (with_reducible first | exact HB.out | apply below_alloc | apply pw_below_drewN | apply below_drew1 | refine below_set ?_ GE312.out) | exact HB.out))):w.heap.size ≤ gb313));have n5_:=Aside0.mk ((by rw [hg];exact Nat.ne_of_lt (blk_lt (g:=gb312) (o:=.cells #[.int .i64 a0_0,.int .i64 a0_1,.slice A0_2 l0_2.length c0_2] 25 (0,0)) (by (with_reducible repeat (first | refine blk_drewN ?_ _ | refine blk_drew ?_ | refine blk_alloc ?_ _));exact BK312.out)):gb312 ≠ gb313));have n6_:=Aside0.mk ((by rw [hg];exact Nat.ne_of_gt (blk_lt (g:=gb312) (o:=.cells #[.int .i64 a0_0,.int .i64 a0_1,.slice A0_2 l0_2.length c0_2] 25 (0,0)) (by (with_reducible repeat (first | refine blk_drewN ?_ _ | refine blk_drew ?_ | refine blk_alloc ?_ _));exact BK312.out)):gb313 ≠ gb312));clear BK312;clear HB;have BK312:=n0_;have HB:=n1_;have BK313:=n2_;have GW313:=n3_;have GE313:=n4_;have NB312_313:=n5_;have NB313_312:=n6_;clear n0_ n1_ n2_ n3_ n4_ n5_ n6_;clear hb hbox hg;have hnb27:=NB312_313.out;have hnc27:=NB313_312.out;have hcz28_0:w26.cell? ⟨gb312,0,none⟩ = some (.int .i64 a0_0):=(blk_cell BK312.out 0).trans rfl;have hcz28_1:w26.cell? ⟨gb312,1,none⟩ = some (.int .i64 a0_1):=(blk_cell BK312.out 1).trans rfl;have hcz28_2:w26.cell? ⟨gb312,2,none⟩ = some (.slice A0_2 l0_2.length c0_2):=(blk_cell BK312.out 2).trans rfl;have hfz28_0:=blk_frozen BK312.out 0;have hfz28_1:=blk_frozen BK312.out 1;have hfz28_2:=blk_frozen BK312.out 2) | ((with_reducible refine gate_callee (f:=15) rfl ?_);refine goesL_ (some 6) rfl rfl Tryd.func15 (by kernel_rfl) rfl #[.agg #[.int .i64 a0_0,.int .i64 a0_1,.slice A0_2 l0_2.length c0_2]] rfl (by (try simp only [List.map_toArray,List.map_cons,List.map_nil]);first | done | rfl | (simp only [List.length_drop,List.length_take];rfl)) ?_;(with_reducible refine (spec_SealOk.calls k a0_0 a0_1 _ _ l0_2 false _ ?side1 ?side2 A3.out).mono ?_);(case side1=>repeat (first | exact (Kd.C_below HR0_2.out HB.out) | (with_reducible refine Kd.C_alloc ?_ _) | (with_reducible refine Kd.C_drewN ?_ _) | (with_reducible refine Kd.C_drew ?_)));(case side2=>exact HC0_2.out);rintro e w29 ⟨rfl,hb⟩;refine ⟨_,rfl,?_⟩;have n0_:=Aside0.mk (blk_below (g:=gb312) (o:=.cells #[.int .i64 a0_0,.int .i64 a0_1,.slice A0_2 l0_2.length c0_2] 25 (0,0)) (by (with_reducible repeat (first | refine blk_drewN ?_ _ | refine blk_drew ?_ | refine blk_alloc ?_ _));exact BK312.out) hb);have n1_:=Aside0.mk (blk_below (g:=gb313) (o:=.cells #[.int .i64 a1_0,.int .i64 a1_1,.slice A1_2 l1_2.length c1_2] 25 (0,0)) (by (with_reducible repeat (first | refine blk_drewN ?_ _ | refine blk_drew ?_ | refine blk_alloc ?_ _));exact BK313.out) hb);have n2_:=Aside0.mk (below_step (by repeat (first | (with_reducible first | exact HB.out | apply below_alloc | apply pw_below_drewN | apply below_drew1 | refine below_set ?_ GE312.out | refine below_set ?_ GE313.out) | exact HB.out)) hb);clear BK312;clear BK313;clear HB;have BK312:=n0_;have BK313:=n1_;have HB:=n2_;clear n0_ n1_ n2_;(try clear hb);(try clear hb2);(try clear hk);(try clear hi)))
  go_ret
  exact ⟨by first | rfl | (simp [errW_none,errW_some] <;> rfl) | (simp [*,errW_none,errW_some] <;> rfl),by repeat (first | (with_reducible first | exact HB.out | apply below_alloc | apply pw_below_drewN | apply below_drew1 | refine below_set ?_ GE312.out | refine below_set ?_ GE313.out) | exact HB.out)⟩
def spec_DrawSealUnder.f (k:Nat) (l0:List Int):Option (Int × Int × (List (S25)) × Int × Int × (List (S25))):=(spec_l6Open.f l0).bind fun bt409=>((spec_l92Asked.f k bt409.1 bt409.2).bind fun bt412=>((spec_l92Seal.f k bt409.1 bt412.2.2.2.2 2).bind fun bt422=>(if (bt412.1.length:Int) > 0 then ((spec_l6Rd_pick.f k bt409.1 bt422.2.2.2 (bt412.1.length:Int)).bind fun bt429=>(if 0 ≤ bt429.1 then (if bt429.1 < (bt412.1.length:Int) then (some (bt412.2.1,bt412.2.2.1,bt412.2.2.2.1,(rd_T25 bt412.1 bt429.1).f0,(rd_T25 bt412.1 bt429.1).f1,(rd_T25 bt412.1 bt429.1).f2)) else (none)) else (none))) else (some (bt412.2.1,bt412.2.2.1,bt412.2.2.2.1,bt422.1,bt422.2.1,bt422.2.2.1)))))
theorem spec_DrawSealUnder.mono:∀ a0 k,LeO (spec_DrawSealUnder.f k a0) (spec_DrawSealUnder.f (k + 1) a0):=by
 intro a0 k
 unfold spec_DrawSealUnder.f
 repeat' first
   | (with_reducible exact spec_l6Rd_pick.mono _ _ _ _)
   | (with_reducible exact spec_l92Asked.mono _ _ _)
   | (with_reducible exact spec_l92Seal.mono _ _ _ _)
   | (with_reducible exact LeO.refl _)
   | (with_reducible exact LeO.none _)
   | (with_reducible refine LeO.ite ?_ ?_)
   | (with_reducible refine LeO.bind ?_ (fun _=>?_))
   | exact spec_l6Rd_pick.mono _ _ _ _
   | exact spec_l92Asked.mono _ _ _
   | exact spec_l92Seal.mono _ _ _ _
   | exact LeO.none _
   | refine LeO.ite ?_ ?_
   | refine LeO.bind ?_ (fun _=>?_)
set_option maxHeartbeats 8000000 in
set_option maxRecDepth 100000 in
theorem spec_DrawSealUnder.calls (k:Nat) (A0:Option Addr) (c0:Nat) (l0:List Int) (r1:Int) (r2:Int) (r3:List (S25)) (r4:Int) (r5:Int) (r6:List (S25)) (w:World) (hr0:Kd.C (Kd.int .u8) w A0 l0.length l0) (hc0:l0.length ≤ c0) (h:spec_DrawSealUnder.f k l0 = some (r1,r2,r3,r4,r5,r6)) :
  Calls Tryd.prog 24 #[.slice A0 l0.length c0] w fun e w'=>∃ v2_ v5_:Value,e = .returned (.tuple #[.agg #[.int .i64 r1,.int .i64 r2,v2_],.agg #[.int .i64 r4,.int .i64 r5,v5_]])∧Kd.V k25 25 w' w.heap.size (fun k_=>(w.heap.size ≤ k_)) v2_ r3∧Kd.V k25 25 w' w.heap.size (fun k_=>(w.heap.size ≤ k_)) v5_ r6∧Below w.heap.size w w':=by
 have hu25:=Tryd.underlying25
 have HR0:=Aside0.mk hr0
 have HC0:=Aside0.mk hc0
 clear hr0 hc0
 have HB:=Aside0.mk (Below.refl w.heap.size w)
 have H:((spec_l6Open.f l0).bind fun bt409=>((spec_l92Asked.f k bt409.1 bt409.2).bind fun bt412=>((spec_l92Seal.f k bt409.1 bt412.2.2.2.2 2).bind fun bt422=>(if (bt412.1.length:Int) > 0 then ((spec_l6Rd_pick.f k bt409.1 bt422.2.2.2 (bt412.1.length:Int)).bind fun bt429=>(if 0 ≤ bt429.1 then (if bt429.1 < (bt412.1.length:Int) then (some (bt412.2.1,bt412.2.2.1,bt412.2.2.2.1,(rd_T25 bt412.1 bt429.1).f0,(rd_T25 bt412.1 bt429.1).f1,(rd_T25 bt412.1 bt429.1).f2)) else (none)) else (none))) else (some (bt412.2.1,bt412.2.2.1,bt412.2.2.2.1,bt422.1,bt422.2.1,bt422.2.2.1)))))) = some (r1,r2,r3,r4,r5,r6):=h
 clear h
 replace H:=Option.bind_eq_some_iff.mp H
 obtain ⟨⟨t409,t410⟩,A20,H⟩:=H
 replace H:((spec_l92Asked.f k t409 t410).bind fun bt412=>((spec_l92Seal.f k t409 bt412.2.2.2.2 2).bind fun bt422=>(if (bt412.1.length:Int) > 0 then ((spec_l6Rd_pick.f k t409 bt422.2.2.2 (bt412.1.length:Int)).bind fun bt429=>(if 0 ≤ bt429.1 then (if bt429.1 < (bt412.1.length:Int) then (some (bt412.2.1,bt412.2.2.1,bt412.2.2.2.1,(rd_T25 bt412.1 bt429.1).f0,(rd_T25 bt412.1 bt429.1).f1,(rd_T25 bt412.1 bt429.1).f2)) else (none)) else (none))) else (some (bt412.2.1,bt412.2.2.1,bt412.2.2.2.1,bt422.1,bt422.2.1,bt422.2.2.1))))) = some (r1,r2,r3,r4,r5,r6):=H
 have A2:=Aside0.mk A20
 clear A20
 replace H:=Option.bind_eq_some_iff.mp H
 obtain ⟨⟨t412,t415,t416,t417,t420⟩,A30,H⟩:=H
 replace H:((spec_l92Seal.f k t409 t420 2).bind fun bt422=>(if (t412.length:Int) > 0 then ((spec_l6Rd_pick.f k t409 bt422.2.2.2 (t412.length:Int)).bind fun bt429=>(if 0 ≤ bt429.1 then (if bt429.1 < (t412.length:Int) then (some (t415,t416,t417,(rd_T25 t412 bt429.1).f0,(rd_T25 t412 bt429.1).f1,(rd_T25 t412 bt429.1).f2)) else (none)) else (none))) else (some (t415,t416,t417,bt422.1,bt422.2.1,bt422.2.2.1)))) = some (r1,r2,r3,r4,r5,r6):=H
 have A3:=Aside0.mk A30
 clear A30
 replace H:=Option.bind_eq_some_iff.mp H
 obtain ⟨⟨t422,t423,t424,t427⟩,A40,H⟩:=H
 replace H:(if (t412.length:Int) > 0 then ((spec_l6Rd_pick.f k t409 t427 (t412.length:Int)).bind fun bt429=>(if 0 ≤ bt429.1 then (if bt429.1 < (t412.length:Int) then (some (t415,t416,t417,(rd_T25 t412 bt429.1).f0,(rd_T25 t412 bt429.1).f1,(rd_T25 t412 bt429.1).f2)) else (none)) else (none))) else (some (t415,t416,t417,t422,t423,t424))) = some (r1,r2,r3,r4,r5,r6):=H
 have A4:=Aside0.mk A40
 clear A40
 by_cases c5:(t412.length:Int) > 0
 ·rw [if_pos c5] at H
  have c5b0:decide (0 < (t412.length:Int)) = true:=decide_eq_true c5
  have c5b1:decide (0 < t412.length) = true:=decide_eq_true (by omega)
  clear c5
  replace H:=Option.bind_eq_some_iff.mp H
  obtain ⟨⟨t429,t430⟩,A60,H⟩:=H
  replace H:(if 0 ≤ t429 then (if t429 < (t412.length:Int) then (some (t415,t416,t417,(rd_T25 t412 t429).f0,(rd_T25 t412 t429).f1,(rd_T25 t412 t429).f2)) else (none)) else (none)) = some (r1,r2,r3,r4,r5,r6):=H
  have A6:=Aside0.mk A60
  clear A60
  by_cases c7:0 ≤ t429
  ·rw [if_pos c7] at H
   have c7b0:decide (0 ≤ t429) = true:=decide_eq_true c7
   clear c7
   by_cases c8:t429 < (t412.length:Int)
   ·rw [if_pos c8] at H
    have c8b0:decide (t429 < (t412.length:Int)) = true:=decide_eq_true c8
    clear c8
    simp only [Option.some.injEq,Prod.mk.injEq] at H
    obtain ⟨rfl,rfl,rfl,rfl,rfl,rfl⟩:=H
    go_enter Tryd.func24,Tryd.ntmps24
    try go_wp2_with (first | ((with_reducible refine gate_dst (N:=2) rfl ?_);refine box_event ?hg (N:=2) ?hd (cs:=#[.int .i64 0,.int .i64 0,.slice none 0 0]) (t:=25) ?hr ?_;(case hd=>rfl);(case hg=>rfl);(case hr=>first | (go_simp;done) | (go_simp;rfl));intro gb407 hg w9 hbox hb;have n0_:=Aside0.mk (below_step (by repeat (first | (with_reducible first | exact HB.out | apply below_alloc | apply pw_below_drewN | apply below_drew1) | exact HB.out)) hb);have n1_:=Aside0.mk (hbox);have n2_:=Aside0.mk ((by rw [hg];exact (below_size (by repeat (first | (with_reducible first | exact HB.out | apply below_alloc | apply pw_below_drewN | apply below_drew1) | exact HB.out))):w.heap.size ≤ gb407));have n3_:=Aside0.mk ((by rw [hg];exact (below_size (by repeat (first | (with_reducible first | exact HB.out | apply below_alloc | apply pw_below_drewN | apply below_drew1) | exact HB.out))):w.heap.size ≤ gb407));clear HB;have HB:=n0_;have BK407:=n1_;have GW407:=n2_;have GE407:=n3_;clear n0_ n1_ n2_ n3_;clear hb hbox hg) | ((with_reducible refine gate_dst (N:=3) rfl ?_);refine box_event ?hg (N:=3) ?hd (cs:=#[.int .i64 0,.int .i64 0,.slice none 0 0]) (t:=25) ?hr ?_;(case hd=>rfl);(case hg=>rfl);(case hr=>first | (go_simp;done) | (go_simp;rfl));intro gb408 hg w10 hbox hb;have n0_:=Aside0.mk (blk_below (g:=gb407) (o:=.cells #[.int .i64 0,.int .i64 0,.slice none 0 0] 25 (0,0)) (by (with_reducible repeat (first | refine blk_drewN ?_ _ | refine blk_drew ?_ | refine blk_alloc ?_ _));exact BK407.out) hb);have n1_:=Aside0.mk (below_step (by repeat (first | (with_reducible first | exact HB.out | apply below_alloc | apply pw_below_drewN | apply below_drew1 | refine below_set ?_ GE407.out) | exact HB.out)) hb);have n2_:=Aside0.mk (hbox);have n3_:=Aside0.mk ((by rw [hg];exact (below_size (by repeat (first | (with_reducible first | exact HB.out | apply below_alloc | apply pw_below_drewN | apply below_drew1 | refine below_set ?_ GE407.out) | exact HB.out))):w.heap.size ≤ gb408));have n4_:=Aside0.mk ((by rw [hg];exact (below_size (by repeat (first | (with_reducible first | exact HB.out | apply below_alloc | apply pw_below_drewN | apply below_drew1 | refine below_set ?_ GE407.out) | exact HB.out))):w.heap.size ≤ gb408));have n5_:=Aside0.mk ((by rw [hg];exact Nat.ne_of_lt (blk_lt (g:=gb407) (o:=.cells #[.int .i64 0,.int .i64 0,.slice none 0 0] 25 (0,0)) (by (with_reducible repeat (first | refine blk_drewN ?_ _ | refine blk_drew ?_ | refine blk_alloc ?_ _));exact BK407.out)):gb407 ≠ gb408));have n6_:=Aside0.mk ((by rw [hg];exact Nat.ne_of_gt (blk_lt (g:=gb407) (o:=.cells #[.int .i64 0,.int .i64 0,.slice none 0 0] 25 (0,0)) (by (with_reducible repeat (first | refine blk_drewN ?_ _ | refine blk_drew ?_ | refine blk_alloc ?_ _));exact BK407.out)):gb408 ≠ gb407));clear BK407;clear HB;have BK407:=n0_;have HB:=n1_;have BK408:=n2_;have GW408:=n3_;have GE408:=n4_;have NB407_408:=n5_;have NB408_407:=n6_;clear n0_ n1_ n2_ n3_ n4_ n5_ n6_;clear hb hbox hg) | ((with_reducible refine gate_callee (f:=39) rfl ?_);refine goesL_ (some 9) rfl rfl Tryd.func39 (by kernel_rfl) rfl #[.slice A0 l0.length c0] rfl (by (try simp only [List.map_toArray,List.map_cons,List.map_nil]);first | done | rfl | (simp only [List.length_drop,List.length_take];rfl)) ?_;(with_reducible refine (spec_l6Open.calls _ _ l0 t409 t410 w _ ?side1 ?side2 ?side3 A2.out).mono ?_);(case side1=>repeat (first | (with_reducible first | exact HB.out | apply below_alloc | apply pw_below_drewN | apply below_drew1 | refine below_set ?_ GE407.out | refine below_set ?_ GE408.out) | exact HB.out));(case side2=>exact HR0.out);(case side3=>exact HC0.out);rintro e w11 ⟨g411,rfl,hi,hb,hb2⟩;refine ⟨_,rfl,?_⟩;have n0_:=Aside0.mk (blk_below (g:=gb407) (o:=.cells #[.int .i64 0,.int .i64 0,.slice none 0 0] 25 (0,0)) (by (with_reducible repeat (first | refine blk_drewN ?_ _ | refine blk_drew ?_ | refine blk_alloc ?_ _));exact BK407.out) hb2);have n1_:=Aside0.mk (blk_below (g:=gb408) (o:=.cells #[.int .i64 0,.int .i64 0,.slice none 0 0] 25 (0,0)) (by (with_reducible repeat (first | refine blk_drewN ?_ _ | refine blk_drew ?_ | refine blk_alloc ?_ _));exact BK408.out) hb2);have n2_:=Aside0.mk (hb);have n3_:=Aside0.mk (hi);have n4_:=Aside0.mk (IsS73.ne_blk hi (blk_below (g:=gb407) (o:=.cells #[.int .i64 0,.int .i64 0,.slice none 0 0] 25 (0,0)) (by (with_reducible repeat (first | refine blk_drewN ?_ _ | refine blk_drew ?_ | refine blk_alloc ?_ _));exact BK407.out) hb2) (by decide));have n5_:=Aside0.mk (Ne.symm (IsS73.ne_blk hi (blk_below (g:=gb407) (o:=.cells #[.int .i64 0,.int .i64 0,.slice none 0 0] 25 (0,0)) (by (with_reducible repeat (first | refine blk_drewN ?_ _ | refine blk_drew ?_ | refine blk_alloc ?_ _));exact BK407.out) hb2) (by decide)));have n6_:=Aside0.mk (IsS73.ne_blk hi (blk_below (g:=gb408) (o:=.cells #[.int .i64 0,.int .i64 0,.slice none 0 0] 25 (0,0)) (by (with_reducible repeat (first | refine blk_drewN ?_ _ | refine blk_drew ?_ | refine blk_alloc ?_ _));exact BK408.out) hb2) (by decide));have n7_:=Aside0.mk (Ne.symm (IsS73.ne_blk hi (blk_below (g:=gb408) (o:=.cells #[.int .i64 0,.int .i64 0,.slice none 0 0] 25 (0,0)) (by (with_reducible repeat (first | refine blk_drewN ?_ _ | refine blk_drew ?_ | refine blk_alloc ?_ _));exact BK408.out) hb2) (by decide)));clear BK407;clear BK408;clear HB;have BK407:=n0_;have BK408:=n1_;have HB:=n2_;have HI411:=n3_;have NB411_407:=n4_;have NB407_411:=n5_;have NB411_408:=n6_;have NB408_411:=n7_;clear n0_ n1_ n2_ n3_ n4_ n5_ n6_ n7_;(try clear hb);(try clear hb2);(try clear hk);(try clear hi)) | ((with_reducible refine gate_callee (f:=50) rfl ?_);refine goesL_ (some 12) rfl rfl Tryd.func50 (by kernel_rfl) rfl #[.pointer (some ⟨g411,0,none⟩)] rfl (by (try simp only [List.map_toArray,List.map_cons,List.map_nil]);first | done | rfl | (simp only [List.length_drop,List.length_take];rfl)) ?_;(with_reducible refine (spec_l92Asked.calls k g411 t409 t410 t412 t415 t416 t417 t420 w _ ?side1 ?side2 A3.out).mono ?_);(case side1=>repeat (first | (with_reducible first | exact HI411.out | apply IsS73.alloc | apply IsS73.drewN | apply IsS73.drew | apply IsS73.set_1 | refine IsS73.far ?_ NB411_407.out _ | refine IsS73.far ?_ NB411_408.out _) | exact HI411.out));(case side2=>repeat (first | (with_reducible first | exact HB.out | apply below_alloc | apply pw_below_drewN | apply below_drew1 | refine below_set ?_ (IsS73.ge HI411.out) | refine below_set ?_ GE407.out | refine below_set ?_ GE408.out) | exact HB.out));rintro e w12 ⟨v413,v418,rfl,ho0,ho1,hi,hb,hk⟩;refine ⟨_,rfl,?_⟩;have n0_:=Aside0.mk (KeepBut.blk hk (g':=gb407) (o:=.cells #[.int .i64 0,.int .i64 0,.slice none 0 0] 25 (0,0)) (by (with_reducible repeat (first | refine blk_drewN ?_ _ | refine blk_drew ?_ | refine blk_alloc ?_ _));exact BK407.out) NB407_411.out (by simp));have n1_:=Aside0.mk (KeepBut.blk hk (g':=gb408) (o:=.cells #[.int .i64 0,.int .i64 0,.slice none 0 0] 25 (0,0)) (by (with_reducible repeat (first | refine blk_drewN ?_ _ | refine blk_drew ?_ | refine blk_alloc ?_ _));exact BK408.out) NB408_411.out (by simp));have n2_:=Aside0.mk (Kd.N_lower (Kd.N_mono (ok':=fun k_=>(w.heap.size ≤ k_)∧k_ ≠ gb407∧k_ ≠ gb408∧k_ ≠ g411) ho0 (fun k_ hk_=>⟨(Nat.le_trans (below_size (by repeat (first | (with_reducible first | exact HB.out | apply below_alloc | apply pw_below_drewN | apply below_drew1 | refine below_set ?_ (IsS73.ge HI411.out) | refine below_set ?_ GE407.out | refine below_set ?_ GE408.out) | exact HB.out))) hk_),(Kd.freshB (g:=gb407) (o:=.cells #[.int .i64 0,.int .i64 0,.slice none 0 0] 25 (0,0)) (by (with_reducible repeat (first | refine blk_drewN ?_ _ | refine blk_drew ?_ | refine blk_alloc ?_ _));exact BK407.out) k_ hk_),(Kd.freshB (g:=gb408) (o:=.cells #[.int .i64 0,.int .i64 0,.slice none 0 0] 25 (0,0)) (by (with_reducible repeat (first | refine blk_drewN ?_ _ | refine blk_drew ?_ | refine blk_alloc ?_ _));exact BK408.out) k_ hk_),(IsS73.fresh (by repeat (first | (with_reducible first | exact HI411.out | apply IsS73.alloc | apply IsS73.drewN | apply IsS73.drew | apply IsS73.set_1 | refine IsS73.far ?_ NB411_407.out _ | refine IsS73.far ?_ NB411_408.out _) | exact HI411.out)) k_ hk_)⟩)) (below_size (by repeat (first | (with_reducible first | exact HB.out | apply below_alloc | apply pw_below_drewN | apply below_drew1 | refine below_set ?_ (IsS73.ge HI411.out) | refine below_set ?_ GE407.out | refine below_set ?_ GE408.out) | exact HB.out))));have n3_:=Aside0.mk (Kd.V_lower (Kd.V_mono (ok':=fun k_=>(w.heap.size ≤ k_)∧some k_ ≠ (v413:Value).ownBlock∧k_ ≠ gb407∧k_ ≠ gb408∧k_ ≠ g411) ho1 (fun k_ hk_=>⟨(Nat.le_trans (below_size (by repeat (first | (with_reducible first | exact HB.out | apply below_alloc | apply pw_below_drewN | apply below_drew1 | refine below_set ?_ (IsS73.ge HI411.out) | refine below_set ?_ GE407.out | refine below_set ?_ GE408.out) | exact HB.out))) hk_.1),hk_.2,(Kd.freshB (g:=gb407) (o:=.cells #[.int .i64 0,.int .i64 0,.slice none 0 0] 25 (0,0)) (by (with_reducible repeat (first | refine blk_drewN ?_ _ | refine blk_drew ?_ | refine blk_alloc ?_ _));exact BK407.out) k_ hk_.1),(Kd.freshB (g:=gb408) (o:=.cells #[.int .i64 0,.int .i64 0,.slice none 0 0] 25 (0,0)) (by (with_reducible repeat (first | refine blk_drewN ?_ _ | refine blk_drew ?_ | refine blk_alloc ?_ _));exact BK408.out) k_ hk_.1),(IsS73.fresh (by repeat (first | (with_reducible first | exact HI411.out | apply IsS73.alloc | apply IsS73.drewN | apply IsS73.drew | apply IsS73.set_1 | refine IsS73.far ?_ NB411_407.out _ | refine IsS73.far ?_ NB411_408.out _) | exact HI411.out)) k_ hk_.1)⟩)) (below_size (by repeat (first | (with_reducible first | exact HB.out | apply below_alloc | apply pw_below_drewN | apply below_drew1 | refine below_set ?_ (IsS73.ge HI411.out) | refine below_set ?_ GE407.out | refine below_set ?_ GE408.out) | exact HB.out))));have n4_:=Aside0.mk (hb);have n5_:=Aside0.mk (hi);clear BK407;clear BK408;clear HB;clear HI411;have BK407:=n0_;have BK408:=n1_;have HO414:=n2_;have HO419:=n3_;have HB:=n4_;have HI411:=n5_;clear n0_ n1_ n2_ n3_ n4_ n5_;(try clear hb);(try clear hb2);(try clear hk);(try clear hi);(try clear ho0);(try clear ho1)) | ((with_reducible refine gate_dst (N:=6) rfl ?_);refine box_event ?hg (N:=6) ?hd (cs:=#[.int .i64 0,.int .i64 0,.slice none 0 0]) (t:=25) ?hr ?_;(case hd=>rfl);(case hg=>rfl);(case hr=>first | (go_simp;done) | (go_simp;rfl));intro gb421 hg w13 hbox hb;have n0_:=Aside0.mk (Kd.N_below (Kd.N_elderB (by (with_reducible repeat (first | apply Kd.N_alloc | apply Kd.N_drewN | apply Kd.N_drew));exact HO414.out) gb421 (Nat.le_of_eq hg.symm)) hb);have n1_:=Aside0.mk (Kd.V_below (Kd.V_elderB (by (with_reducible repeat (first | apply Kd.V_alloc | apply Kd.V_drewN | apply Kd.V_drew));exact HO419.out) gb421 (Nat.le_of_eq hg.symm)) hb);have n2_:=Aside0.mk (blk_below (g:=gb407) (o:=.cells #[.int .i64 0,.int .i64 0,.slice none 0 0] 25 (0,0)) (by (with_reducible repeat (first | refine blk_drewN ?_ _ | refine blk_drew ?_ | refine blk_alloc ?_ _));exact BK407.out) hb);have n3_:=Aside0.mk (blk_below (g:=gb408) (o:=.cells #[.int .i64 0,.int .i64 0,.slice none 0 0] 25 (0,0)) (by (with_reducible repeat (first | refine blk_drewN ?_ _ | refine blk_drew ?_ | refine blk_alloc ?_ _));exact BK408.out) hb);have n4_:=Aside0.mk (IsS73.below (by repeat (first | (with_reducible first | exact HI411.out | apply IsS73.alloc | apply IsS73.drewN | apply IsS73.drew | apply IsS73.set_1 | refine IsS73.far ?_ NB411_407.out _ | refine IsS73.far ?_ NB411_408.out _) | exact HI411.out)) hb);have n5_:=Aside0.mk (below_step (by repeat (first | (with_reducible first | exact HB.out | apply below_alloc | apply pw_below_drewN | apply below_drew1 | refine below_set ?_ (IsS73.ge HI411.out) | refine below_set ?_ GE407.out | refine below_set ?_ GE408.out) | exact HB.out)) hb);have n6_:=Aside0.mk (hbox);have n7_:=Aside0.mk ((by rw [hg];exact (below_size (by repeat (first | (with_reducible first | exact HB.out | apply below_alloc | apply pw_below_drewN | apply below_drew1 | refine below_set ?_ (IsS73.ge HI411.out) | refine below_set ?_ GE407.out | refine below_set ?_ GE408.out) | exact HB.out))):w.heap.size ≤ gb421));have n8_:=Aside0.mk ((by rw [hg];exact (below_size (by repeat (first | (with_reducible first | exact HB.out | apply below_alloc | apply pw_below_drewN | apply below_drew1 | refine below_set ?_ (IsS73.ge HI411.out) | refine below_set ?_ GE407.out | refine below_set ?_ GE408.out) | exact HB.out))):w.heap.size ≤ gb421));have n9_:=Aside0.mk ((by rw [hg];exact Nat.ne_of_lt (blk_lt (g:=gb407) (o:=.cells #[.int .i64 0,.int .i64 0,.slice none 0 0] 25 (0,0)) (by (with_reducible repeat (first | refine blk_drewN ?_ _ | refine blk_drew ?_ | refine blk_alloc ?_ _));exact BK407.out)):gb407 ≠ gb421));have n10_:=Aside0.mk ((by rw [hg];exact Nat.ne_of_gt (blk_lt (g:=gb407) (o:=.cells #[.int .i64 0,.int .i64 0,.slice none 0 0] 25 (0,0)) (by (with_reducible repeat (first | refine blk_drewN ?_ _ | refine blk_drew ?_ | refine blk_alloc ?_ _));exact BK407.out)):gb421 ≠ gb407));have n11_:=Aside0.mk ((by rw [hg];exact Nat.ne_of_lt (blk_lt (g:=gb408) (o:=.cells #[.int .i64 0,.int .i64 0,.slice none 0 0] 25 (0,0)) (by (with_reducible repeat (first | refine blk_drewN ?_ _ | refine blk_drew ?_ | refine blk_alloc ?_ _));exact BK408.out)):gb408 ≠ gb421));have n12_:=Aside0.mk ((by rw [hg];exact Nat.ne_of_gt (blk_lt (g:=gb408) (o:=.cells #[.int .i64 0,.int .i64 0,.slice none 0 0] 25 (0,0)) (by (with_reducible repeat (first | refine blk_drewN ?_ _ | refine blk_drew ?_ | refine blk_alloc ?_ _));exact BK408.out)):gb421 ≠ gb408));have n13_:=Aside0.mk ((by rw [hg];exact Nat.ne_of_lt (IsS73.lt (show IsS73 w _ g411 t409 t420 from by repeat (first | (with_reducible first | exact HI411.out | apply IsS73.alloc | apply IsS73.drewN | apply IsS73.drew | apply IsS73.set_1 | refine IsS73.far ?_ NB411_407.out _ | refine IsS73.far ?_ NB411_408.out _) | exact HI411.out))):g411 ≠ gb421));have n14_:=Aside0.mk ((by rw [hg];exact Nat.ne_of_gt (IsS73.lt (show IsS73 w _ g411 t409 t420 from by repeat (first | (with_reducible first | exact HI411.out | apply IsS73.alloc | apply IsS73.drewN | apply IsS73.drew | apply IsS73.set_1 | refine IsS73.far ?_ NB411_407.out _ | refine IsS73.far ?_ NB411_408.out _) | exact HI411.out))):gb421 ≠ g411));clear HO414;clear HO419;clear BK407;clear BK408;clear HI411;clear HB;have HO414:=n0_;have HO419:=n1_;have BK407:=n2_;have BK408:=n3_;have HI411:=n4_;have HB:=n5_;have BK421:=n6_;have GW421:=n7_;have GE421:=n8_;have NB407_421:=n9_;have NB421_407:=n10_;have NB408_421:=n11_;have NB421_408:=n12_;have NB411_421:=n13_;have NB421_411:=n14_;clear n0_ n1_ n2_ n3_ n4_ n5_ n6_ n7_ n8_ n9_ n10_ n11_ n12_ n13_ n14_;clear hb hbox hg;have hnb14:=NB421_407.out;have hnc14:=NB407_421.out;have hnb15:=NB421_408.out;have hnc15:=NB408_421.out;have hnb16:=NB421_411.out;have hnc16:=NB411_421.out;have hcz17_0:w13.cell? ⟨gb421,0,none⟩ = some (.int .i64 0):=(blk_cell BK421.out 0).trans rfl;have hcz17_1:w13.cell? ⟨gb421,1,none⟩ = some (.int .i64 0):=(blk_cell BK421.out 1).trans rfl;have hcz17_2:w13.cell? ⟨gb421,2,none⟩ = some (.slice none 0 0):=(blk_cell BK421.out 2).trans rfl;have hfz17_0:=blk_frozen BK421.out 0;have hfz17_1:=blk_frozen BK421.out 1;have hfz17_2:=blk_frozen BK421.out 2;obtain ⟨Ao18,co18,eo18⟩:=Kd.V_slice HO419.out;subst eo18) | ((with_reducible refine gate_callee (f:=40) rfl ?_);refine goesL_ (some 16) rfl rfl Tryd.func40 (by kernel_rfl) rfl #[.pointer (some ⟨g411,0,none⟩),.int .i64 2] rfl (by (try simp only [List.map_toArray,List.map_cons,List.map_nil]);first | done | rfl | (simp only [List.length_drop,List.length_take];rfl)) ?_;(with_reducible refine (spec_l92Seal.calls k g411 t409 t420 2 t422 t423 t424 t427 w _ ?side1 ?side2 A4.out).mono ?_);(case side1=>repeat (first | (with_reducible first | exact HI411.out | apply IsS73.alloc | apply IsS73.drewN | apply IsS73.drew | apply IsS73.set_1 | refine IsS73.far ?_ NB411_407.out _ | refine IsS73.far ?_ NB411_408.out _ | refine IsS73.far ?_ NB411_421.out _) | exact HI411.out));(case side2=>repeat (first | (with_reducible first | exact HB.out | apply below_alloc | apply pw_below_drewN | apply below_drew1 | refine below_set ?_ (IsS73.ge HI411.out) | refine below_set ?_ GE407.out | refine below_set ?_ GE408.out | refine below_set ?_ GE421.out) | exact HB.out));rintro e w19 ⟨v425,rfl,ho0,hi,hb,hk⟩;refine ⟨_,rfl,?_⟩;have n0_:=Aside0.mk (KeepBut.blk hk (g':=gb407) (o:=.cells #[.int .i64 0,.int .i64 0,.slice none 0 0] 25 (0,0)) (by (with_reducible repeat (first | refine blk_drewN ?_ _ | refine blk_drew ?_ | refine blk_alloc ?_ _));refine blk_far ?_ NB407_421.out _;(with_reducible repeat (first | refine blk_drewN ?_ _ | refine blk_drew ?_ | refine blk_alloc ?_ _));refine blk_far ?_ NB407_421.out _;(with_reducible repeat (first | refine blk_drewN ?_ _ | refine blk_drew ?_ | refine blk_alloc ?_ _));refine blk_far ?_ NB407_421.out _;(with_reducible repeat (first | refine blk_drewN ?_ _ | refine blk_drew ?_ | refine blk_alloc ?_ _));exact BK407.out) NB407_411.out (by simp));have n1_:=Aside0.mk (KeepBut.blk hk (g':=gb408) (o:=.cells #[.int .i64 0,.int .i64 0,.slice none 0 0] 25 (0,0)) (by (with_reducible repeat (first | refine blk_drewN ?_ _ | refine blk_drew ?_ | refine blk_alloc ?_ _));refine blk_far ?_ NB408_421.out _;(with_reducible repeat (first | refine blk_drewN ?_ _ | refine blk_drew ?_ | refine blk_alloc ?_ _));refine blk_far ?_ NB408_421.out _;(with_reducible repeat (first | refine blk_drewN ?_ _ | refine blk_drew ?_ | refine blk_alloc ?_ _));refine blk_far ?_ NB408_421.out _;(with_reducible repeat (first | refine blk_drewN ?_ _ | refine blk_drew ?_ | refine blk_alloc ?_ _));exact BK408.out) NB408_411.out (by simp));have n2_:=Aside0.mk (Kd.N_mono (Kd.N_told (Kd.N_oldK (Kd.N_mono (ok:=fun k_=>((((w.heap.size ≤ k_))∧(k_ ≠ gb407∧(k_ ≠ gb408∧k_ ≠ g411)))∧k_ ≠ gb421)) (by (with_reducible repeat (first | apply Kd.N_alloc | apply Kd.N_drewN | apply Kd.N_drew));exact (Kd.N_mono (Kd.N_far (p:=⟨gb421,2,none⟩) (Kd.N_far (p:=⟨gb421,1,none⟩) (Kd.N_far (p:=⟨gb421,0,none⟩) (Kd.N_mono HO414.out (fun k_ hk=>(⟨hk,hk.2⟩:_∧k_ ≠ gb421))) (fun _ hk=>hk.2) (.int .i64 t415)) (fun _ hk=>hk.2) (.int .i64 t416)) (fun _ hk=>hk.2) (.slice Ao18 t417.length co18)) (fun _ h_=>h_.1))) (fun k_ hk_=>(⟨hk_,hk_.1.2.2.2⟩:_∧k_ ≠ g411))) hk) (Kd.N_base ho0)) (fun _ h_=>h_.1));have n3_:=Aside0.mk (Kd.V_mono (Kd.V_told (Kd.V_oldK (Kd.V_mono (ok:=fun k_=>((((w.heap.size ≤ k_))∧(some k_ ≠ (v413:Value).ownBlock∧(k_ ≠ gb407∧(k_ ≠ gb408∧k_ ≠ g411))))∧k_ ≠ gb421)) (by (with_reducible repeat (first | apply Kd.V_alloc | apply Kd.V_drewN | apply Kd.V_drew));exact (Kd.V_mono (Kd.V_far (p:=⟨gb421,2,none⟩) (Kd.V_far (p:=⟨gb421,1,none⟩) (Kd.V_far (p:=⟨gb421,0,none⟩) (Kd.V_mono HO419.out (fun k_ hk=>(⟨hk,hk.2⟩:_∧k_ ≠ gb421))) (fun _ hk=>hk.2) (.int .i64 t415)) (fun _ hk=>hk.2) (.int .i64 t416)) (fun _ hk=>hk.2) (.slice Ao18 t417.length co18)) (fun _ h_=>h_.1))) (fun k_ hk_=>(⟨hk_,hk_.1.2.2.2.2⟩:_∧k_ ≠ g411))) hk) (Kd.N_base ho0)) (fun _ h_=>h_.1));have n4_:=Aside0.mk (KeepBut.blk hk (g':=gb421) (o:=.cells #[.int .i64 t415,.int .i64 t416,.slice Ao18 t417.length co18] 25 (0,0)) (by (with_reducible repeat (first | refine blk_drewN ?_ _ | refine blk_drew ?_ | refine blk_alloc ?_ _));refine blk_put (cs:=#[.int .i64 t415,.int .i64 t416,.slice none 0 0]) ?_ 2 _ rfl;(with_reducible repeat (first | refine blk_drewN ?_ _ | refine blk_drew ?_ | refine blk_alloc ?_ _));refine blk_put (cs:=#[.int .i64 t415,.int .i64 0,.slice none 0 0]) ?_ 1 _ rfl;(with_reducible repeat (first | refine blk_drewN ?_ _ | refine blk_drew ?_ | refine blk_alloc ?_ _));refine blk_put (cs:=#[.int .i64 0,.int .i64 0,.slice none 0 0]) ?_ 0 _ rfl;(with_reducible repeat (first | refine blk_drewN ?_ _ | refine blk_drew ?_ | refine blk_alloc ?_ _));exact BK421.out) NB421_411.out (by simp));have n5_:=Aside0.mk (Kd.N_lower (Kd.N_mono (ok':=fun k_=>(w.heap.size ≤ k_)∧some k_ ≠ (v413:Value).ownBlock∧k_ ≠ gb407∧k_ ≠ gb408∧k_ ≠ gb421∧k_ ≠ g411) ho0 (fun k_ hk_=>⟨(Nat.le_trans (below_size (by repeat (first | (with_reducible first | exact HB.out | apply below_alloc | apply pw_below_drewN | apply below_drew1 | refine below_set ?_ (IsS73.ge HI411.out) | refine below_set ?_ GE407.out | refine below_set ?_ GE408.out | refine below_set ?_ GE421.out) | exact HB.out))) hk_),(Kd.fresh' (Kd.N_lt (by (with_reducible repeat (first | apply Kd.N_alloc | apply Kd.N_drewN | apply Kd.N_drew));exact (Kd.N_mono (Kd.N_far (p:=⟨gb421,2,none⟩) (Kd.N_far (p:=⟨gb421,1,none⟩) (Kd.N_far (p:=⟨gb421,0,none⟩) (Kd.N_mono HO414.out (fun k_ hk=>(⟨hk,hk.2⟩:_∧k_ ≠ gb421))) (fun _ hk=>hk.2) (.int .i64 t415)) (fun _ hk=>hk.2) (.int .i64 t416)) (fun _ hk=>hk.2) (.slice Ao18 t417.length co18)) (fun _ h_=>h_.1)))) k_ hk_),(Kd.freshB (g:=gb407) (o:=.cells #[.int .i64 0,.int .i64 0,.slice none 0 0] 25 (0,0)) (by (with_reducible repeat (first | refine blk_drewN ?_ _ | refine blk_drew ?_ | refine blk_alloc ?_ _));refine blk_far ?_ NB407_421.out _;(with_reducible repeat (first | refine blk_drewN ?_ _ | refine blk_drew ?_ | refine blk_alloc ?_ _));refine blk_far ?_ NB407_421.out _;(with_reducible repeat (first | refine blk_drewN ?_ _ | refine blk_drew ?_ | refine blk_alloc ?_ _));refine blk_far ?_ NB407_421.out _;(with_reducible repeat (first | refine blk_drewN ?_ _ | refine blk_drew ?_ | refine blk_alloc ?_ _));exact BK407.out) k_ hk_),(Kd.freshB (g:=gb408) (o:=.cells #[.int .i64 0,.int .i64 0,.slice none 0 0] 25 (0,0)) (by (with_reducible repeat (first | refine blk_drewN ?_ _ | refine blk_drew ?_ | refine blk_alloc ?_ _));refine blk_far ?_ NB408_421.out _;(with_reducible repeat (first | refine blk_drewN ?_ _ | refine blk_drew ?_ | refine blk_alloc ?_ _));refine blk_far ?_ NB408_421.out _;(with_reducible repeat (first | refine blk_drewN ?_ _ | refine blk_drew ?_ | refine blk_alloc ?_ _));refine blk_far ?_ NB408_421.out _;(with_reducible repeat (first | refine blk_drewN ?_ _ | refine blk_drew ?_ | refine blk_alloc ?_ _));exact BK408.out) k_ hk_),(Kd.freshB (g:=gb421) (o:=.cells #[.int .i64 t415,.int .i64 t416,.slice Ao18 t417.length co18] 25 (0,0)) (by (with_reducible repeat (first | refine blk_drewN ?_ _ | refine blk_drew ?_ | refine blk_alloc ?_ _));refine blk_put (cs:=#[.int .i64 t415,.int .i64 t416,.slice none 0 0]) ?_ 2 _ rfl;(with_reducible repeat (first | refine blk_drewN ?_ _ | refine blk_drew ?_ | refine blk_alloc ?_ _));refine blk_put (cs:=#[.int .i64 t415,.int .i64 0,.slice none 0 0]) ?_ 1 _ rfl;(with_reducible repeat (first | refine blk_drewN ?_ _ | refine blk_drew ?_ | refine blk_alloc ?_ _));refine blk_put (cs:=#[.int .i64 0,.int .i64 0,.slice none 0 0]) ?_ 0 _ rfl;(with_reducible repeat (first | refine blk_drewN ?_ _ | refine blk_drew ?_ | refine blk_alloc ?_ _));exact BK421.out) k_ hk_),(IsS73.fresh (by repeat (first | (with_reducible first | exact HI411.out | apply IsS73.alloc | apply IsS73.drewN | apply IsS73.drew | apply IsS73.set_1 | refine IsS73.far ?_ NB411_407.out _ | refine IsS73.far ?_ NB411_408.out _ | refine IsS73.far ?_ NB411_421.out _) | exact HI411.out)) k_ hk_)⟩)) (below_size (by repeat (first | (with_reducible first | exact HB.out | apply below_alloc | apply pw_below_drewN | apply below_drew1 | refine below_set ?_ (IsS73.ge HI411.out) | refine below_set ?_ GE407.out | refine below_set ?_ GE408.out | refine below_set ?_ GE421.out) | exact HB.out))));have n6_:=Aside0.mk (hb);have n7_:=Aside0.mk (hi);clear BK407;clear BK408;clear HO414;clear HO419;clear BK421;clear HB;clear HI411;have BK407:=n0_;have BK408:=n1_;have HO414:=n2_;have HO419:=n3_;have BK421:=n4_;have HO426:=n5_;have HB:=n6_;have HI411:=n7_;clear n0_ n1_ n2_ n3_ n4_ n5_ n6_ n7_;(try clear hb);(try clear hb2);(try clear hk);(try clear hi);(try clear ho0)) | ((with_reducible refine gate_dst (N:=7) rfl ?_);refine box_event ?hg (N:=7) ?hd (cs:=#[.int .i64 0,.int .i64 0,.slice none 0 0]) (t:=25) ?hr ?_;(case hd=>rfl);(case hg=>rfl);(case hr=>first | (go_simp;done) | (go_simp;rfl));intro gb428 hg w20 hbox hb;have n0_:=Aside0.mk (Kd.N_below (Kd.N_elderB (by (with_reducible repeat (first | apply Kd.N_alloc | apply Kd.N_drewN | apply Kd.N_drew));exact HO414.out) gb428 (Nat.le_of_eq hg.symm)) hb);have n1_:=Aside0.mk (Kd.V_below (Kd.V_elderB (by (with_reducible repeat (first | apply Kd.V_alloc | apply Kd.V_drewN | apply Kd.V_drew));exact HO419.out) gb428 (Nat.le_of_eq hg.symm)) hb);have n2_:=Aside0.mk (Kd.N_below (Kd.N_elderB (by (with_reducible repeat (first | apply Kd.N_alloc | apply Kd.N_drewN | apply Kd.N_drew));exact HO426.out) gb428 (Nat.le_of_eq hg.symm)) hb);have n3_:=Aside0.mk (blk_below (g:=gb407) (o:=.cells #[.int .i64 0,.int .i64 0,.slice none 0 0] 25 (0,0)) (by (with_reducible repeat (first | refine blk_drewN ?_ _ | refine blk_drew ?_ | refine blk_alloc ?_ _));exact BK407.out) hb);have n4_:=Aside0.mk (blk_below (g:=gb408) (o:=.cells #[.int .i64 0,.int .i64 0,.slice none 0 0] 25 (0,0)) (by (with_reducible repeat (first | refine blk_drewN ?_ _ | refine blk_drew ?_ | refine blk_alloc ?_ _));exact BK408.out) hb);have n5_:=Aside0.mk (IsS73.below (by repeat (first | (with_reducible first | exact HI411.out | apply IsS73.alloc | apply IsS73.drewN | apply IsS73.drew | apply IsS73.set_1 | refine IsS73.far ?_ NB411_407.out _ | refine IsS73.far ?_ NB411_408.out _ | refine IsS73.far ?_ NB411_421.out _) | exact HI411.out)) hb);have n6_:=Aside0.mk (blk_below (g:=gb421) (o:=.cells #[.int .i64 t415,.int .i64 t416,.slice Ao18 t417.length co18] 25 (0,0)) (by (with_reducible repeat (first | refine blk_drewN ?_ _ | refine blk_drew ?_ | refine blk_alloc ?_ _));exact BK421.out) hb);have n7_:=Aside0.mk (below_step (by repeat (first | (with_reducible first | exact HB.out | apply below_alloc | apply pw_below_drewN | apply below_drew1 | refine below_set ?_ (IsS73.ge HI411.out) | refine below_set ?_ GE407.out | refine below_set ?_ GE408.out | refine below_set ?_ GE421.out) | exact HB.out)) hb);have n8_:=Aside0.mk (hbox);have n9_:=Aside0.mk ((by rw [hg];exact (below_size (by repeat (first | (with_reducible first | exact HB.out | apply below_alloc | apply pw_below_drewN | apply below_drew1 | refine below_set ?_ (IsS73.ge HI411.out) | refine below_set ?_ GE407.out | refine below_set ?_ GE408.out | refine below_set ?_ GE421.out) | exact HB.out))):w.heap.size ≤ gb428));have n10_:=Aside0.mk ((by rw [hg];exact (below_size (by repeat (first | (with_reducible first | exact HB.out | apply below_alloc | apply pw_below_drewN | apply below_drew1 | refine below_set ?_ (IsS73.ge HI411.out) | refine below_set ?_ GE407.out | refine below_set ?_ GE408.out | refine below_set ?_ GE421.out) | exact HB.out))):w.heap.size ≤ gb428));have n11_:=Aside0.mk ((by rw [hg];exact Nat.ne_of_lt (blk_lt (g:=gb407) (o:=.cells #[.int .i64 0,.int .i64 0,.slice none 0 0] 25 (0,0)) (by (with_reducible repeat (first | refine blk_drewN ?_ _ | refine blk_drew ?_ | refine blk_alloc ?_ _));exact BK407.out)):gb407 ≠ gb428));have n12_:=Aside0.mk ((by rw [hg];exact Nat.ne_of_gt (blk_lt (g:=gb407) (o:=.cells #[.int .i64 0,.int .i64 0,.slice none 0 0] 25 (0,0)) (by (with_reducible repeat (first | refine blk_drewN ?_ _ | refine blk_drew ?_ | refine blk_alloc ?_ _));exact BK407.out)):gb428 ≠ gb407));have n13_:=Aside0.mk ((by rw [hg];exact Nat.ne_of_lt (blk_lt (g:=gb408) (o:=.cells #[.int .i64 0,.int .i64 0,.slice none 0 0] 25 (0,0)) (by (with_reducible repeat (first | refine blk_drewN ?_ _ | refine blk_drew ?_ | refine blk_alloc ?_ _));exact BK408.out)):gb408 ≠ gb428));have n14_:=Aside0.mk ((by rw [hg];exact Nat.ne_of_gt (blk_lt (g:=gb408) (o:=.cells #[.int .i64 0,.int .i64 0,.slice none 0 0] 25 (0,0)) (by (with_reducible repeat (first | refine blk_drewN ?_ _ | refine blk_drew ?_ | refine blk_alloc ?_ _));exact BK408.out)):gb428 ≠ gb408));have n15_:=Aside0.mk ((by rw [hg];exact Nat.ne_of_lt (blk_lt (g:=gb421) (o:=.cells #[.int .i64 t415,.int .i64 t416,.slice Ao18 t417.length co18] 25 (0,0)) (by (with_reducible repeat (first | refine blk_drewN ?_ _ | refine blk_drew ?_ | refine blk_alloc ?_ _));exact BK421.out)):gb421 ≠ gb428));have n16_:=Aside0.mk ((by rw [hg];exact Nat.ne_of_gt (blk_lt (g:=gb421) (o:=.cells #[.int .i64 t415,.int .i64 t416,.slice Ao18 t417.length co18] 25 (0,0)) (by (with_reducible repeat (first | refine blk_drewN ?_ _ | refine blk_drew ?_ | refine blk_alloc ?_ _));exact BK421.out)):gb428 ≠ gb421));have n17_:=Aside0.mk ((by rw [hg];exact Nat.ne_of_lt (IsS73.lt (show IsS73 w _ g411 t409 t427 from by repeat (first | (with_reducible first | exact HI411.out | apply IsS73.alloc | apply IsS73.drewN | apply IsS73.drew | apply IsS73.set_1 | refine IsS73.far ?_ NB411_407.out _ | refine IsS73.far ?_ NB411_408.out _ | refine IsS73.far ?_ NB411_421.out _) | exact HI411.out))):g411 ≠ gb428));have n18_:=Aside0.mk ((by rw [hg];exact Nat.ne_of_gt (IsS73.lt (show IsS73 w _ g411 t409 t427 from by repeat (first | (with_reducible first | exact HI411.out | apply IsS73.alloc | apply IsS73.drewN | apply IsS73.drew | apply IsS73.set_1 | refine IsS73.far ?_ NB411_407.out _ | refine IsS73.far ?_ NB411_408.out _ | refine IsS73.far ?_ NB411_421.out _) | exact HI411.out))):gb428 ≠ g411));clear HO414;clear HO419;clear HO426;clear BK407;clear BK408;clear HI411;clear BK421;clear HB;have HO414:=n0_;have HO419:=n1_;have HO426:=n2_;have BK407:=n3_;have BK408:=n4_;have HI411:=n5_;have BK421:=n6_;have HB:=n7_;have BK428:=n8_;have GW428:=n9_;have GE428:=n10_;have NB407_428:=n11_;have NB428_407:=n12_;have NB408_428:=n13_;have NB428_408:=n14_;have NB421_428:=n15_;have NB428_421:=n16_;have NB411_428:=n17_;have NB428_411:=n18_;clear n0_ n1_ n2_ n3_ n4_ n5_ n6_ n7_ n8_ n9_ n10_ n11_ n12_ n13_ n14_ n15_ n16_ n17_ n18_;clear hb hbox hg;have hnb21:=NB428_407.out;have hnc21:=NB407_428.out;have hnb22:=NB428_408.out;have hnc22:=NB408_428.out;have hnb23:=NB428_421.out;have hnc23:=NB421_428.out;have hnb24:=NB428_411.out;have hnc24:=NB411_428.out;have hcz25_0:w20.cell? ⟨gb428,0,none⟩ = some (.int .i64 0):=(blk_cell BK428.out 0).trans rfl;have hcz25_1:w20.cell? ⟨gb428,1,none⟩ = some (.int .i64 0):=(blk_cell BK428.out 1).trans rfl;have hcz25_2:w20.cell? ⟨gb428,2,none⟩ = some (.slice none 0 0):=(blk_cell BK428.out 2).trans rfl;have hfz25_0:=blk_frozen BK428.out 0;have hfz25_1:=blk_frozen BK428.out 1;have hfz25_2:=blk_frozen BK428.out 2;obtain ⟨Ao26,co26,eo26⟩:=Kd.N_slice HO426.out;subst eo26;obtain ⟨Ao27,co27,eo27⟩:=Kd.N_slice HO414.out;subst eo27) | ((with_reducible refine gate_callee (f:=41) rfl ?_);refine goesL_ (some 24) rfl rfl Tryd.func41 (by kernel_rfl) rfl #[.pointer (some ⟨g411,0,none⟩),.int .i64 (t412.length:Int)] rfl (by (try simp only [List.map_toArray,List.map_cons,List.map_nil]);first | done | rfl | (simp only [List.length_drop,List.length_take];rfl)) ?_;(with_reducible refine (spec_l6Rd_pick.calls k g411 t409 t427 (t412.length:Int) t429 t430 w _ ?side1 ?side2 A6.out).mono ?_);(case side1=>repeat (first | (with_reducible first | exact HI411.out | apply IsS73.alloc | apply IsS73.drewN | apply IsS73.drew | apply IsS73.set_1 | refine IsS73.far ?_ NB411_407.out _ | refine IsS73.far ?_ NB411_408.out _ | refine IsS73.far ?_ NB411_421.out _ | refine IsS73.far ?_ NB411_428.out _) | exact HI411.out));(case side2=>repeat (first | (with_reducible first | exact HB.out | apply below_alloc | apply pw_below_drewN | apply below_drew1 | refine below_set ?_ (IsS73.ge HI411.out) | refine below_set ?_ GE407.out | refine below_set ?_ GE408.out | refine below_set ?_ GE421.out | refine below_set ?_ GE428.out) | exact HB.out));rintro e w28 ⟨rfl,hi,hb,hk⟩;refine ⟨_,rfl,?_⟩;have n0_:=Aside0.mk (KeepBut.blk hk (g':=gb407) (o:=.cells #[.int .i64 0,.int .i64 0,.slice none 0 0] 25 (0,0)) (by (with_reducible repeat (first | refine blk_drewN ?_ _ | refine blk_drew ?_ | refine blk_alloc ?_ _));refine blk_far ?_ NB407_428.out _;(with_reducible repeat (first | refine blk_drewN ?_ _ | refine blk_drew ?_ | refine blk_alloc ?_ _));refine blk_far ?_ NB407_428.out _;(with_reducible repeat (first | refine blk_drewN ?_ _ | refine blk_drew ?_ | refine blk_alloc ?_ _));refine blk_far ?_ NB407_428.out _;(with_reducible repeat (first | refine blk_drewN ?_ _ | refine blk_drew ?_ | refine blk_alloc ?_ _));exact BK407.out) NB407_411.out (by simp));have n1_:=Aside0.mk (KeepBut.blk hk (g':=gb408) (o:=.cells #[.int .i64 0,.int .i64 0,.slice none 0 0] 25 (0,0)) (by (with_reducible repeat (first | refine blk_drewN ?_ _ | refine blk_drew ?_ | refine blk_alloc ?_ _));refine blk_far ?_ NB408_428.out _;(with_reducible repeat (first | refine blk_drewN ?_ _ | refine blk_drew ?_ | refine blk_alloc ?_ _));refine blk_far ?_ NB408_428.out _;(with_reducible repeat (first | refine blk_drewN ?_ _ | refine blk_drew ?_ | refine blk_alloc ?_ _));refine blk_far ?_ NB408_428.out _;(with_reducible repeat (first | refine blk_drewN ?_ _ | refine blk_drew ?_ | refine blk_alloc ?_ _));exact BK408.out) NB408_411.out (by simp));have n2_:=Aside0.mk (Kd.N_mono (Kd.N_keep (Kd.N_mono (ok:=fun k_=>((((((w.heap.size ≤ k_))∧(k_ ≠ gb407∧(k_ ≠ gb408∧k_ ≠ g411)))∧k_ ≠ gb421)∧some k_ ≠ (.slice Ao26 t424.length co26:Value).ownBlock)∧k_ ≠ gb428)) (by (with_reducible repeat (first | apply Kd.N_alloc | apply Kd.N_drewN | apply Kd.N_drew));exact (Kd.N_mono (Kd.N_far (p:=⟨gb428,2,none⟩) (Kd.N_far (p:=⟨gb428,1,none⟩) (Kd.N_far (p:=⟨gb428,0,none⟩) (Kd.N_mono HO414.out (fun k_ hk=>(⟨hk,hk.2⟩:_∧k_ ≠ gb428))) (fun _ hk=>hk.2) (.int .i64 t422)) (fun _ hk=>hk.2) (.int .i64 t423)) (fun _ hk=>hk.2) (.slice Ao26 t424.length co26)) (fun _ h_=>h_.1))) (fun k_ hk_=>(⟨hk_,hk_.1.1.1.2.2.2⟩:_∧k_ ≠ g411))) hk (fun _ h=>h.2)) (fun _ h=>h.1));have n3_:=Aside0.mk (Kd.V_mono (Kd.V_keep (Kd.V_mono (ok:=fun k_=>((((((w.heap.size ≤ k_))∧(some k_ ≠ (.slice Ao27 t412.length co27:Value).ownBlock∧(k_ ≠ gb407∧(k_ ≠ gb408∧k_ ≠ g411))))∧k_ ≠ gb421)∧some k_ ≠ (.slice Ao26 t424.length co26:Value).ownBlock)∧k_ ≠ gb428)) (by (with_reducible repeat (first | apply Kd.V_alloc | apply Kd.V_drewN | apply Kd.V_drew));exact (Kd.V_mono (Kd.V_far (p:=⟨gb428,2,none⟩) (Kd.V_far (p:=⟨gb428,1,none⟩) (Kd.V_far (p:=⟨gb428,0,none⟩) (Kd.V_mono HO419.out (fun k_ hk=>(⟨hk,hk.2⟩:_∧k_ ≠ gb428))) (fun _ hk=>hk.2) (.int .i64 t422)) (fun _ hk=>hk.2) (.int .i64 t423)) (fun _ hk=>hk.2) (.slice Ao26 t424.length co26)) (fun _ h_=>h_.1))) (fun k_ hk_=>(⟨hk_,hk_.1.1.1.2.2.2.2⟩:_∧k_ ≠ g411))) hk (fun _ h=>h.2)) (fun _ h=>h.1));have n4_:=Aside0.mk (KeepBut.blk hk (g':=gb421) (o:=.cells #[.int .i64 t415,.int .i64 t416,.slice Ao18 t417.length co18] 25 (0,0)) (by (with_reducible repeat (first | refine blk_drewN ?_ _ | refine blk_drew ?_ | refine blk_alloc ?_ _));refine blk_far ?_ NB421_428.out _;(with_reducible repeat (first | refine blk_drewN ?_ _ | refine blk_drew ?_ | refine blk_alloc ?_ _));refine blk_far ?_ NB421_428.out _;(with_reducible repeat (first | refine blk_drewN ?_ _ | refine blk_drew ?_ | refine blk_alloc ?_ _));refine blk_far ?_ NB421_428.out _;(with_reducible repeat (first | refine blk_drewN ?_ _ | refine blk_drew ?_ | refine blk_alloc ?_ _));exact BK421.out) NB421_411.out (by simp));have n5_:=Aside0.mk (Kd.N_mono (Kd.N_keep (Kd.N_mono (ok:=fun k_=>((((w.heap.size ≤ k_))∧(some k_ ≠ (.slice Ao27 t412.length co27:Value).ownBlock∧(k_ ≠ gb407∧(k_ ≠ gb408∧(k_ ≠ gb421∧k_ ≠ g411)))))∧k_ ≠ gb428)) (by (with_reducible repeat (first | apply Kd.N_alloc | apply Kd.N_drewN | apply Kd.N_drew));exact (Kd.N_mono (Kd.N_far (p:=⟨gb428,2,none⟩) (Kd.N_far (p:=⟨gb428,1,none⟩) (Kd.N_far (p:=⟨gb428,0,none⟩) (Kd.N_mono HO426.out (fun k_ hk=>(⟨hk,hk.2⟩:_∧k_ ≠ gb428))) (fun _ hk=>hk.2) (.int .i64 t422)) (fun _ hk=>hk.2) (.int .i64 t423)) (fun _ hk=>hk.2) (.slice Ao26 t424.length co26)) (fun _ h_=>h_.1))) (fun k_ hk_=>(⟨hk_,hk_.1.2.2.2.2.2⟩:_∧k_ ≠ g411))) hk (fun _ h=>h.2)) (fun _ h=>h.1));have n6_:=Aside0.mk (KeepBut.blk hk (g':=gb428) (o:=.cells #[.int .i64 t422,.int .i64 t423,.slice Ao26 t424.length co26] 25 (0,0)) (by (with_reducible repeat (first | refine blk_drewN ?_ _ | refine blk_drew ?_ | refine blk_alloc ?_ _));refine blk_put (cs:=#[.int .i64 t422,.int .i64 t423,.slice none 0 0]) ?_ 2 _ rfl;(with_reducible repeat (first | refine blk_drewN ?_ _ | refine blk_drew ?_ | refine blk_alloc ?_ _));refine blk_put (cs:=#[.int .i64 t422,.int .i64 0,.slice none 0 0]) ?_ 1 _ rfl;(with_reducible repeat (first | refine blk_drewN ?_ _ | refine blk_drew ?_ | refine blk_alloc ?_ _));refine blk_put (cs:=#[.int .i64 0,.int .i64 0,.slice none 0 0]) ?_ 0 _ rfl;(with_reducible repeat (first | refine blk_drewN ?_ _ | refine blk_drew ?_ | refine blk_alloc ?_ _));exact BK428.out) NB428_411.out (by simp));have n7_:=Aside0.mk (hb);have n8_:=Aside0.mk (hi);clear BK407;clear BK408;clear HO414;clear HO419;clear BK421;clear HO426;clear BK428;clear HB;clear HI411;have BK407:=n0_;have BK408:=n1_;have HO414:=n2_;have HO419:=n3_;have BK421:=n4_;have HO426:=n5_;have BK428:=n6_;have HB:=n7_;have HI411:=n8_;clear n0_ n1_ n2_ n3_ n4_ n5_ n6_ n7_ n8_;(try clear hb);(try clear hb2);(try clear hk);(try clear hi);have p431:0 ≤ (t429:Int):=of_decide_eq_true (by first | (with_reducible assumption) | assumption);have q431:t429 < (t412.length:Int):=of_decide_eq_true (by first | (with_reducible assumption) | assumption);obtain ⟨ad431,A431_2,c431_2,e431,hx431_0,hx431_1,hx431_2,hl431_2,hi431_2⟩:=at_T25 (Kd.N_reads' HO414.out).2.2 t429 p431 q431;cases e431;obtain ⟨ce431,hce431,hMe431,hcc431⟩:=Kd.N_get HO414.out z25 t429 p431 (by first | exact q431 | exact of_decide_eq_true (by first | (with_reducible assumption) | assumption) | (have e_:=(Kd.N_reads' HO414.out).1;omega));obtain ⟨ua431_2,uc431_2,rfl,ul431_2,ge431_2⟩:=k25_openF hMe431;have hv431_2:=hcc431 2 _ rfl;rw [add_field _ _ 2 (by omega)] at hv431_2;replace hv431_2:=Option.some.inj (hv431_2.symm.trans hx431_2);injection hv431_2 with hva_ hvn_ hvc_;rw [hva_] at ge431_2;rw [hvc_] at ul431_2;have HL431_2:=Aside0.mk (show Kd.V k25 25 _ w.heap.size _ _ ((rd_T25 t412 t429).f2) from Kd.V_mk ul431_2 ge431_2);clear hva_ hvn_ hvc_ ge431_2 ul431_2;clear hcc431 hce431;have HR431_2:=Aside0.mk hi431_2;have HC431_2:=Aside0.mk hl431_2;clear hi431_2 hl431_2;replace p431:=eq_true p431;replace q431:=eq_true q431;have hcz29_0:w28.cell? ⟨gb428,0,none⟩ = some (.int .i64 t422):=(blk_cell BK428.out 0).trans rfl;have hcz29_1:w28.cell? ⟨gb428,1,none⟩ = some (.int .i64 t423):=(blk_cell BK428.out 1).trans rfl;have hcz29_2:w28.cell? ⟨gb428,2,none⟩ = some (.slice Ao26 t424.length co26):=(blk_cell BK428.out 2).trans rfl;have hfz29_0:=blk_frozen BK428.out 0;have hfz29_1:=blk_frozen BK428.out 1;have hfz29_2:=blk_frozen BK428.out 2))
    have n0_:Aside0 (Kd.N k25 25 (((w28.setCell ⟨gb428,0,none⟩ (.int .i64 ((rd_T25 t412 t429).f0))).setCell ⟨gb428,1,none⟩ (.int .i64 ((rd_T25 t412 t429).f1))).setCell ⟨gb428,2,none⟩ (.slice A431_2 ((rd_T25 t412 t429).f2).length c431_2)) w.heap.size (fun k_=>(w.heap.size ≤ k_)∧some k_ ≠ (.slice Ao26 t424.length co26:Value).ownBlock∧k_ ≠ gb407∧k_ ≠ gb408∧k_ ≠ g411∧k_ ≠ gb421∧k_ ≠ gb428) (.slice (some ad431) t412.length co27) t412):=⟨by (with_reducible repeat (first | apply Kd.N_alloc | apply Kd.N_drewN | apply Kd.N_drew));exact Kd.N_mono (Kd.N_far (p:=⟨gb428,2,none⟩) (Kd.N_far (p:=⟨gb428,1,none⟩) (Kd.N_far (p:=⟨gb428,0,none⟩) (Kd.N_mono HO414.out (fun k_ hk=>(⟨hk,hk.2⟩:_∧k_ ≠ gb428))) (fun _ hk=>hk.2) (.int .i64 ((rd_T25 t412 t429).f0))) (fun _ hk=>hk.2) (.int .i64 ((rd_T25 t412 t429).f1))) (fun _ hk=>hk.2) (.slice A431_2 ((rd_T25 t412 t429).f2).length c431_2)) (fun _ hk=>⟨hk.1.1.1.1.1,⟨hk.1.1.2,⟨hk.1.1.1.1.2.1,⟨hk.1.1.1.1.2.2.1,⟨hk.1.1.1.1.2.2.2,⟨hk.1.1.1.2,hk.1.2⟩⟩⟩⟩⟩⟩)⟩
    have n1_:Aside0 (Kd.V k25 25 (((w28.setCell ⟨gb428,0,none⟩ (.int .i64 ((rd_T25 t412 t429).f0))).setCell ⟨gb428,1,none⟩ (.int .i64 ((rd_T25 t412 t429).f1))).setCell ⟨gb428,2,none⟩ (.slice A431_2 ((rd_T25 t412 t429).f2).length c431_2)) w.heap.size (fun k_=>(w.heap.size ≤ k_)∧some k_ ≠ (.slice (some ad431) t412.length co27:Value).ownBlock∧some k_ ≠ (.slice Ao26 t424.length co26:Value).ownBlock∧k_ ≠ gb407∧k_ ≠ gb408∧k_ ≠ g411∧k_ ≠ gb421∧k_ ≠ gb428) (.slice Ao18 t417.length co18) t417):=⟨by (with_reducible repeat (first | apply Kd.V_alloc | apply Kd.V_drewN | apply Kd.V_drew));exact Kd.V_mono (Kd.V_far (p:=⟨gb428,2,none⟩) (Kd.V_far (p:=⟨gb428,1,none⟩) (Kd.V_far (p:=⟨gb428,0,none⟩) (Kd.V_mono HO419.out (fun k_ hk=>(⟨hk,hk.2⟩:_∧k_ ≠ gb428))) (fun _ hk=>hk.2) (.int .i64 ((rd_T25 t412 t429).f0))) (fun _ hk=>hk.2) (.int .i64 ((rd_T25 t412 t429).f1))) (fun _ hk=>hk.2) (.slice A431_2 ((rd_T25 t412 t429).f2).length c431_2)) (fun _ hk=>⟨hk.1.1.1.1.1,⟨hk.1.1.1.1.2.1,⟨hk.1.1.2,⟨hk.1.1.1.1.2.2.1,⟨hk.1.1.1.1.2.2.2.1,⟨hk.1.1.1.1.2.2.2.2,⟨hk.1.1.1.2,hk.1.2⟩⟩⟩⟩⟩⟩⟩)⟩
    have n2_:Aside0 (Kd.N k25 25 (((w28.setCell ⟨gb428,0,none⟩ (.int .i64 ((rd_T25 t412 t429).f0))).setCell ⟨gb428,1,none⟩ (.int .i64 ((rd_T25 t412 t429).f1))).setCell ⟨gb428,2,none⟩ (.slice A431_2 ((rd_T25 t412 t429).f2).length c431_2)) w.heap.size (fun k_=>(w.heap.size ≤ k_)∧some k_ ≠ (.slice (some ad431) t412.length co27:Value).ownBlock∧k_ ≠ gb407∧k_ ≠ gb408∧k_ ≠ gb421∧k_ ≠ g411∧k_ ≠ gb428) (.slice Ao26 t424.length co26) t424):=⟨by (with_reducible repeat (first | apply Kd.N_alloc | apply Kd.N_drewN | apply Kd.N_drew));exact Kd.N_mono (Kd.N_far (p:=⟨gb428,2,none⟩) (Kd.N_far (p:=⟨gb428,1,none⟩) (Kd.N_far (p:=⟨gb428,0,none⟩) (Kd.N_mono HO426.out (fun k_ hk=>(⟨hk,hk.2⟩:_∧k_ ≠ gb428))) (fun _ hk=>hk.2) (.int .i64 ((rd_T25 t412 t429).f0))) (fun _ hk=>hk.2) (.int .i64 ((rd_T25 t412 t429).f1))) (fun _ hk=>hk.2) (.slice A431_2 ((rd_T25 t412 t429).f2).length c431_2)) (fun _ hk=>⟨hk.1.1.1,⟨hk.1.1.2.1,⟨hk.1.1.2.2.1,⟨hk.1.1.2.2.2.1,⟨hk.1.1.2.2.2.2.1,⟨hk.1.1.2.2.2.2.2,hk.1.2⟩⟩⟩⟩⟩⟩)⟩
    have n3_:Aside0 (Kd.V k25 25 (((w28.setCell ⟨gb428,0,none⟩ (.int .i64 ((rd_T25 t412 t429).f0))).setCell ⟨gb428,1,none⟩ (.int .i64 ((rd_T25 t412 t429).f1))).setCell ⟨gb428,2,none⟩ (.slice A431_2 ((rd_T25 t412 t429).f2).length c431_2)) w.heap.size (fun k_=>(w.heap.size ≤ k_)∧some k_ ≠ (.slice (some ad431) t412.length co27:Value).ownBlock∧some k_ ≠ (.slice Ao26 t424.length co26:Value).ownBlock∧k_ ≠ gb407∧k_ ≠ gb408∧k_ ≠ g411∧k_ ≠ gb421∧k_ ≠ gb428) (.slice A431_2 ((rd_T25 t412 t429).f2).length c431_2) ((rd_T25 t412 t429).f2)):=⟨by (with_reducible repeat (first | apply Kd.V_alloc | apply Kd.V_drewN | apply Kd.V_drew));exact Kd.V_mono (Kd.V_far (p:=⟨gb428,2,none⟩) (Kd.V_far (p:=⟨gb428,1,none⟩) (Kd.V_far (p:=⟨gb428,0,none⟩) (Kd.V_mono HL431_2.out (fun k_ hk=>(⟨hk,hk.1.2⟩:_∧k_ ≠ gb428))) (fun _ hk=>hk.2) (.int .i64 ((rd_T25 t412 t429).f0))) (fun _ hk=>hk.2) (.int .i64 ((rd_T25 t412 t429).f1))) (fun _ hk=>hk.2) (.slice A431_2 ((rd_T25 t412 t429).f2).length c431_2)) (fun _ hk=>⟨hk.1.1.1.1.1.1,⟨hk.1.2,⟨hk.1.1.1.2,⟨hk.1.1.1.1.1.2.1,⟨hk.1.1.1.1.1.2.2.1,⟨hk.1.1.1.1.1.2.2.2,⟨hk.1.1.1.1.2,hk.1.1.2⟩⟩⟩⟩⟩⟩⟩)⟩
    have n4_:Aside0 ((((w28.setCell ⟨gb428,0,none⟩ (.int .i64 ((rd_T25 t412 t429).f0))).setCell ⟨gb428,1,none⟩ (.int .i64 ((rd_T25 t412 t429).f1))).setCell ⟨gb428,2,none⟩ (.slice A431_2 ((rd_T25 t412 t429).f2).length c431_2)).heap[gb407]? = some (.cells #[.int .i64 0,.int .i64 0,.slice none 0 0] 25 (0,0))):=⟨by (with_reducible repeat (first | refine blk_drewN ?_ _ | refine blk_drew ?_ | refine blk_alloc ?_ _));refine blk_far ?_ NB407_428.out _;(with_reducible repeat (first | refine blk_drewN ?_ _ | refine blk_drew ?_ | refine blk_alloc ?_ _));refine blk_far ?_ NB407_428.out _;(with_reducible repeat (first | refine blk_drewN ?_ _ | refine blk_drew ?_ | refine blk_alloc ?_ _));refine blk_far ?_ NB407_428.out _;(with_reducible repeat (first | refine blk_drewN ?_ _ | refine blk_drew ?_ | refine blk_alloc ?_ _));exact BK407.out⟩
    have n5_:Aside0 ((((w28.setCell ⟨gb428,0,none⟩ (.int .i64 ((rd_T25 t412 t429).f0))).setCell ⟨gb428,1,none⟩ (.int .i64 ((rd_T25 t412 t429).f1))).setCell ⟨gb428,2,none⟩ (.slice A431_2 ((rd_T25 t412 t429).f2).length c431_2)).heap[gb408]? = some (.cells #[.int .i64 0,.int .i64 0,.slice none 0 0] 25 (0,0))):=⟨by (with_reducible repeat (first | refine blk_drewN ?_ _ | refine blk_drew ?_ | refine blk_alloc ?_ _));refine blk_far ?_ NB408_428.out _;(with_reducible repeat (first | refine blk_drewN ?_ _ | refine blk_drew ?_ | refine blk_alloc ?_ _));refine blk_far ?_ NB408_428.out _;(with_reducible repeat (first | refine blk_drewN ?_ _ | refine blk_drew ?_ | refine blk_alloc ?_ _));refine blk_far ?_ NB408_428.out _;(with_reducible repeat (first | refine blk_drewN ?_ _ | refine blk_drew ?_ | refine blk_alloc ?_ _));exact BK408.out⟩
    have n6_:Aside0 ((((w28.setCell ⟨gb428,0,none⟩ (.int .i64 ((rd_T25 t412 t429).f0))).setCell ⟨gb428,1,none⟩ (.int .i64 ((rd_T25 t412 t429).f1))).setCell ⟨gb428,2,none⟩ (.slice A431_2 ((rd_T25 t412 t429).f2).length c431_2)).heap[gb421]? = some (.cells #[.int .i64 t415,.int .i64 t416,.slice Ao18 t417.length co18] 25 (0,0))):=⟨by (with_reducible repeat (first | refine blk_drewN ?_ _ | refine blk_drew ?_ | refine blk_alloc ?_ _));refine blk_far ?_ NB421_428.out _;(with_reducible repeat (first | refine blk_drewN ?_ _ | refine blk_drew ?_ | refine blk_alloc ?_ _));refine blk_far ?_ NB421_428.out _;(with_reducible repeat (first | refine blk_drewN ?_ _ | refine blk_drew ?_ | refine blk_alloc ?_ _));refine blk_far ?_ NB421_428.out _;(with_reducible repeat (first | refine blk_drewN ?_ _ | refine blk_drew ?_ | refine blk_alloc ?_ _));exact BK421.out⟩
    have n7_:Aside0 ((((w28.setCell ⟨gb428,0,none⟩ (.int .i64 ((rd_T25 t412 t429).f0))).setCell ⟨gb428,1,none⟩ (.int .i64 ((rd_T25 t412 t429).f1))).setCell ⟨gb428,2,none⟩ (.slice A431_2 ((rd_T25 t412 t429).f2).length c431_2)).heap[gb428]? = some (.cells #[.int .i64 ((rd_T25 t412 t429).f0),.int .i64 ((rd_T25 t412 t429).f1),.slice A431_2 ((rd_T25 t412 t429).f2).length c431_2] 25 (0,0))):=⟨by (with_reducible repeat (first | refine blk_drewN ?_ _ | refine blk_drew ?_ | refine blk_alloc ?_ _));refine blk_put (cs:=#[.int .i64 ((rd_T25 t412 t429).f0),.int .i64 ((rd_T25 t412 t429).f1),.slice Ao26 t424.length co26]) ?_ 2 _ rfl;(with_reducible repeat (first | refine blk_drewN ?_ _ | refine blk_drew ?_ | refine blk_alloc ?_ _));refine blk_put (cs:=#[.int .i64 ((rd_T25 t412 t429).f0),.int .i64 t423,.slice Ao26 t424.length co26]) ?_ 1 _ rfl;(with_reducible repeat (first | refine blk_drewN ?_ _ | refine blk_drew ?_ | refine blk_alloc ?_ _));refine blk_put (cs:=#[.int .i64 t422,.int .i64 t423,.slice Ao26 t424.length co26]) ?_ 0 _ rfl;(with_reducible repeat (first | refine blk_drewN ?_ _ | refine blk_drew ?_ | refine blk_alloc ?_ _));exact BK428.out⟩
    have n8_:Aside0 (IsS73 w (((w28.setCell ⟨gb428,0,none⟩ (.int .i64 ((rd_T25 t412 t429).f0))).setCell ⟨gb428,1,none⟩ (.int .i64 ((rd_T25 t412 t429).f1))).setCell ⟨gb428,2,none⟩ (.slice A431_2 ((rd_T25 t412 t429).f2).length c431_2)) g411 t409 t430):=⟨by repeat (first | (with_reducible first | exact HI411.out | apply IsS73.alloc | apply IsS73.drewN | apply IsS73.drew | apply IsS73.set_1 | refine IsS73.far ?_ NB411_407.out _ | refine IsS73.far ?_ NB411_408.out _ | refine IsS73.far ?_ NB411_421.out _ | refine IsS73.far ?_ NB411_428.out _) | exact HI411.out)⟩
    have n9_:Aside0 (Below w.heap.size w (((w28.setCell ⟨gb428,0,none⟩ (.int .i64 ((rd_T25 t412 t429).f0))).setCell ⟨gb428,1,none⟩ (.int .i64 ((rd_T25 t412 t429).f1))).setCell ⟨gb428,2,none⟩ (.slice A431_2 ((rd_T25 t412 t429).f2).length c431_2))):=⟨by repeat (first | (with_reducible first | exact HB.out | apply below_alloc | apply pw_below_drewN | apply below_drew1 | refine below_set ?_ (IsS73.ge HI411.out) | refine below_set ?_ GE407.out | refine below_set ?_ GE408.out | refine below_set ?_ GE421.out | refine below_set ?_ GE428.out) | exact HB.out)⟩
    (try clear HO414)
    (try clear HO419)
    (try clear HO426)
    (try clear HL431_2)
    (try clear BK407)
    (try clear BK408)
    (try clear BK421)
    (try clear BK428)
    (try clear HI411)
    (try clear HB)
    generalize (((w28.setCell ⟨gb428,0,none⟩ (.int .i64 ((rd_T25 t412 t429).f0))).setCell ⟨gb428,1,none⟩ (.int .i64 ((rd_T25 t412 t429).f1))).setCell ⟨gb428,2,none⟩ (.slice A431_2 ((rd_T25 t412 t429).f2).length c431_2)) = w30 at n0_ n1_ n2_ n3_ n4_ n5_ n6_ n7_ n8_ n9_ ⊢
    have HO414:=n0_
    have HO419:=n1_
    have HO426:=n2_
    have HL431_2:=n3_
    have BK407:=n4_
    have BK408:=n5_
    have BK421:=n6_
    have BK428:=n7_
    have HI411:=n8_
    have HB:=n9_
    clear n0_ n1_ n2_ n3_ n4_ n5_ n6_ n7_ n8_ n9_
    have n0_:=Aside0.mk (Kd.N_drew HO414.out)
    have n1_:=Aside0.mk (Kd.V_drew HO419.out)
    have n2_:=Aside0.mk (Kd.N_drew HO426.out)
    have n3_:=Aside0.mk (Kd.V_drew HL431_2.out)
    have n4_:=Aside0.mk (blk_drew BK407.out)
    have n5_:=Aside0.mk (blk_drew BK408.out)
    have n6_:=Aside0.mk (blk_drew BK421.out)
    have n7_:=Aside0.mk (blk_drew BK428.out)
    have n8_:=Aside0.mk (IsS73.drew HI411.out)
    have n9_:=Aside0.mk (below_drew1 HB.out)
    clear HO414
    clear HO419
    clear HO426
    clear HL431_2
    clear BK407
    clear BK408
    clear BK421
    clear BK428
    clear HI411
    clear HB
    have HO414:=n0_
    have HO419:=n1_
    have HO426:=n2_
    have HL431_2:=n3_
    have BK407:=n4_
    have BK408:=n5_
    have BK421:=n6_
    have BK428:=n7_
    have HI411:=n8_
    have HB:=n9_
    clear n0_ n1_ n2_ n3_ n4_ n5_ n6_ n7_ n8_ n9_
    refine start_ (n:=4) (S:=fun w'=>w'.cell? ⟨gb421,0,none⟩ = some (.int .i64 t415)∧w'.cell? ⟨gb421,1,none⟩ = some (.int .i64 t416)∧w'.cell? ⟨gb421,2,none⟩ = some (.slice Ao18 t417.length co18)∧w'.cell? ⟨gb428,0,none⟩ = some (.int .i64 ((rd_T25 t412 t429).f0))∧w'.cell? ⟨gb428,1,none⟩ = some (.int .i64 ((rd_T25 t412 t429).f1))∧w'.cell? ⟨gb428,2,none⟩ = some (.slice A431_2 ((rd_T25 t412 t429).f2).length c431_2)) (ds:=[]) #[false,false,false,false] (by kernel_rfl) rfl rfl ⟨(blk_cell BK421.out 0).trans rfl,(blk_cell BK421.out 1).trans rfl,(blk_cell BK421.out 2).trans rfl,(blk_cell BK428.out 0).trans rfl,(blk_cell BK428.out 1).trans rfl,(blk_cell BK428.out 2).trans rfl⟩ (fun hHeld=>?_)
    generalize w30.drew = w31 at HO414 HO419 HO426 HL431_2 BK407 BK408 BK421 BK428 HI411 HB hHeld ⊢
    refine take_ (i:=0) (N:=some 27) (v:=?_) (a':=?_) #[true,false,false,false] rfl rfl (by kernel_rfl) (fun _ _ _ h=>h) (Or.inl ⟨by rfl,?_⟩) hHeld ?_ ?_
    rotate_left;·rintro w' ⟨s0,s1,s2,s3,s4,s5⟩;go_simp;with_reducible rfl
    rotate_left;·simp only [Act.put,List.setIfInBounds_toArray,List.set_cons_zero,List.set_cons_succ,i64_w,i32_w];rfl
    refine take_ (i:=1) (N:=some 28) (v:=?_) (a':=?_) #[true,true,false,false] rfl rfl (by kernel_rfl) (fun _ _ _ h=>h) (Or.inl ⟨by rfl,?_⟩) hHeld ?_ ?_
    rotate_left;·rintro w' ⟨s0,s1,s2,s3,s4,s5⟩;go_simp;with_reducible rfl
    rotate_left;·simp only [Act.put,List.setIfInBounds_toArray,List.set_cons_zero,List.set_cons_succ,i64_w,i32_w];rfl
    refine one_ (i:=2) (N:=none) #[true,true,true,false] rfl rfl (by kernel_rfl) (by decide) (fun K hK=>?_)
    have hs32:w31.cell? ⟨gb407,0,none⟩ = some (.int .i64 0):=(blk_cell BK407.out 0).trans rfl
    have hfs32:=blk_frozen BK407.out 0
    have hns32_1:=NB408_407.out
    have hns32_2:=NB421_407.out
    have hns32_3:=NB428_407.out
    have hms32_1:=NB407_408.out
    have hms32_2:=NB407_421.out
    have hms32_3:=NB407_428.out
    have hs33:w31.cell? ⟨gb407,1,none⟩ = some (.int .i64 0):=(blk_cell BK407.out 1).trans rfl
    have hfs33:=blk_frozen BK407.out 1
    have hns33_1:=NB408_407.out
    have hns33_2:=NB421_407.out
    have hns33_3:=NB428_407.out
    have hms33_1:=NB407_408.out
    have hms33_2:=NB407_421.out
    have hms33_3:=NB407_428.out
    have hs34:w31.cell? ⟨gb407,2,none⟩ = some (.slice none 0 0):=(blk_cell BK407.out 2).trans rfl
    have hfs34:=blk_frozen BK407.out 2
    have hns34_1:=NB408_407.out
    have hns34_2:=NB421_407.out
    have hns34_3:=NB428_407.out
    have hms34_1:=NB407_408.out
    have hms34_2:=NB407_421.out
    have hms34_3:=NB407_428.out
    refine skip_ (w1:=?_) (by rfl) rfl ?_ ?_
    rotate_left
    ·go_simp
     rfl
    refine hK.out _ _ ⟨((cell_far (p:=⟨gb407,_,none⟩) NB421_407.out _).trans (((cell_far (p:=⟨gb407,_,none⟩) NB421_407.out _).trans (((cell_far (p:=⟨gb407,_,none⟩) NB421_407.out _).trans (hHeld.1)))))),((cell_far (p:=⟨gb407,_,none⟩) NB421_407.out _).trans (((cell_far (p:=⟨gb407,_,none⟩) NB421_407.out _).trans (((cell_far (p:=⟨gb407,_,none⟩) NB421_407.out _).trans (hHeld.2.1)))))),((cell_far (p:=⟨gb407,_,none⟩) NB421_407.out _).trans (((cell_far (p:=⟨gb407,_,none⟩) NB421_407.out _).trans (((cell_far (p:=⟨gb407,_,none⟩) NB421_407.out _).trans (hHeld.2.2.1)))))),((cell_far (p:=⟨gb407,_,none⟩) NB428_407.out _).trans (((cell_far (p:=⟨gb407,_,none⟩) NB428_407.out _).trans (((cell_far (p:=⟨gb407,_,none⟩) NB428_407.out _).trans (hHeld.2.2.2.1)))))),((cell_far (p:=⟨gb407,_,none⟩) NB428_407.out _).trans (((cell_far (p:=⟨gb407,_,none⟩) NB428_407.out _).trans (((cell_far (p:=⟨gb407,_,none⟩) NB428_407.out _).trans (hHeld.2.2.2.2.1)))))),((cell_far (p:=⟨gb407,_,none⟩) NB428_407.out _).trans (((cell_far (p:=⟨gb407,_,none⟩) NB428_407.out _).trans (((cell_far (p:=⟨gb407,_,none⟩) NB428_407.out _).trans (hHeld.2.2.2.2.2))))))⟩ (fun hHeld=>?_)
    clear hK K
    refine one_ (i:=3) (N:=none) #[true,true,true,true] rfl rfl (by kernel_rfl) (by decide) (fun K hK=>?_)
    have hs35:w31.cell? ⟨gb408,0,none⟩ = some (.int .i64 0):=(blk_cell BK408.out 0).trans rfl
    have hfs35:=blk_frozen BK408.out 0
    have hns35_0:=NB407_408.out
    have hns35_2:=NB421_408.out
    have hns35_3:=NB428_408.out
    have hms35_0:=NB408_407.out
    have hms35_2:=NB408_421.out
    have hms35_3:=NB408_428.out
    have hs36:w31.cell? ⟨gb408,1,none⟩ = some (.int .i64 0):=(blk_cell BK408.out 1).trans rfl
    have hfs36:=blk_frozen BK408.out 1
    have hns36_0:=NB407_408.out
    have hns36_2:=NB421_408.out
    have hns36_3:=NB428_408.out
    have hms36_0:=NB408_407.out
    have hms36_2:=NB408_421.out
    have hms36_3:=NB408_428.out
    have hs37:w31.cell? ⟨gb408,2,none⟩ = some (.slice none 0 0):=(blk_cell BK408.out 2).trans rfl
    have hfs37:=blk_frozen BK408.out 2
    have hns37_0:=NB407_408.out
    have hns37_2:=NB421_408.out
    have hns37_3:=NB428_408.out
    have hms37_0:=NB408_407.out
    have hms37_2:=NB408_421.out
    have hms37_3:=NB408_428.out
    refine skip_ (w1:=?_) (by rfl) rfl ?_ ?_
    rotate_left
    ·go_simp
     rfl
    refine hK.out _ _ ⟨((cell_far (p:=⟨gb408,_,none⟩) NB421_408.out _).trans (((cell_far (p:=⟨gb408,_,none⟩) NB421_408.out _).trans (((cell_far (p:=⟨gb408,_,none⟩) NB421_408.out _).trans (hHeld.1)))))),((cell_far (p:=⟨gb408,_,none⟩) NB421_408.out _).trans (((cell_far (p:=⟨gb408,_,none⟩) NB421_408.out _).trans (((cell_far (p:=⟨gb408,_,none⟩) NB421_408.out _).trans (hHeld.2.1)))))),((cell_far (p:=⟨gb408,_,none⟩) NB421_408.out _).trans (((cell_far (p:=⟨gb408,_,none⟩) NB421_408.out _).trans (((cell_far (p:=⟨gb408,_,none⟩) NB421_408.out _).trans (hHeld.2.2.1)))))),((cell_far (p:=⟨gb408,_,none⟩) NB428_408.out _).trans (((cell_far (p:=⟨gb408,_,none⟩) NB428_408.out _).trans (((cell_far (p:=⟨gb408,_,none⟩) NB428_408.out _).trans (hHeld.2.2.2.1)))))),((cell_far (p:=⟨gb408,_,none⟩) NB428_408.out _).trans (((cell_far (p:=⟨gb408,_,none⟩) NB428_408.out _).trans (((cell_far (p:=⟨gb408,_,none⟩) NB428_408.out _).trans (hHeld.2.2.2.2.1)))))),((cell_far (p:=⟨gb408,_,none⟩) NB428_408.out _).trans (((cell_far (p:=⟨gb408,_,none⟩) NB428_408.out _).trans (((cell_far (p:=⟨gb408,_,none⟩) NB428_408.out _).trans (hHeld.2.2.2.2.2))))))⟩ (fun hHeld=>?_)
    clear hK K
    refine done_ (by kernel_rfl) ?_
    try go_wp2
    refine bodyPost_ret (results_cc rfl _ _ gb407 gb408 25 25 #[.int .i64 t415,.int .i64 t416,.slice Ao18 t417.length co18] #[.int .i64 ((rd_T25 t412 t429).f0),.int .i64 ((rd_T25 t412 t429).f1),.slice A431_2 ((rd_T25 t412 t429).f2).length c431_2] (0,0) (0,0) _ _ rfl (by (with_reducible repeat (first | refine blk_drewN ?_ _ | refine blk_drew ?_ | refine blk_alloc ?_ _));refine blk_far ?_ NB407_408.out _;(with_reducible repeat (first | refine blk_drewN ?_ _ | refine blk_drew ?_ | refine blk_alloc ?_ _));refine blk_far ?_ NB407_408.out _;(with_reducible repeat (first | refine blk_drewN ?_ _ | refine blk_drew ?_ | refine blk_alloc ?_ _));refine blk_far ?_ NB407_408.out _;(with_reducible repeat (first | refine blk_drewN ?_ _ | refine blk_drew ?_ | refine blk_alloc ?_ _));refine blk_put (cs:=#[.int .i64 t415,.int .i64 t416,.slice none 0 0]) ?_ 2 _ rfl;(with_reducible repeat (first | refine blk_drewN ?_ _ | refine blk_drew ?_ | refine blk_alloc ?_ _));refine blk_put (cs:=#[.int .i64 t415,.int .i64 0,.slice none 0 0]) ?_ 1 _ rfl;(with_reducible repeat (first | refine blk_drewN ?_ _ | refine blk_drew ?_ | refine blk_alloc ?_ _));refine blk_put (cs:=#[.int .i64 0,.int .i64 0,.slice none 0 0]) ?_ 0 _ rfl;(with_reducible repeat (first | refine blk_drewN ?_ _ | refine blk_drew ?_ | refine blk_alloc ?_ _));exact BK407.out) Tryd.underlying25 rfl (by kernel_rfl) rfl (by (with_reducible repeat (first | refine blk_drewN ?_ _ | refine blk_drew ?_ | refine blk_alloc ?_ _));refine blk_put (cs:=#[.int .i64 ((rd_T25 t412 t429).f0),.int .i64 ((rd_T25 t412 t429).f1),.slice none 0 0]) ?_ 2 _ rfl;(with_reducible repeat (first | refine blk_drewN ?_ _ | refine blk_drew ?_ | refine blk_alloc ?_ _));refine blk_put (cs:=#[.int .i64 ((rd_T25 t412 t429).f0),.int .i64 0,.slice none 0 0]) ?_ 1 _ rfl;(with_reducible repeat (first | refine blk_drewN ?_ _ | refine blk_drew ?_ | refine blk_alloc ?_ _));refine blk_put (cs:=#[.int .i64 0,.int .i64 0,.slice none 0 0]) ?_ 0 _ rfl;(with_reducible repeat (first | refine blk_drewN ?_ _ | refine blk_drew ?_ | refine blk_alloc ?_ _));refine blk_far ?_ NB408_407.out _;(with_reducible repeat (first | refine blk_drewN ?_ _ | refine blk_drew ?_ | refine blk_alloc ?_ _));refine blk_far ?_ NB408_407.out _;(with_reducible repeat (first | refine blk_drewN ?_ _ | refine blk_drew ?_ | refine blk_alloc ?_ _));refine blk_far ?_ NB408_407.out _;(with_reducible repeat (first | refine blk_drewN ?_ _ | refine blk_drew ?_ | refine blk_alloc ?_ _));exact BK408.out) Tryd.underlying25 rfl (by kernel_rfl)) rfl ?_
    exact ⟨_,_,by first | rfl | (simp [errW_none,errW_some] <;> rfl) | (simp [*,errW_none,errW_some] <;> rfl),by (with_reducible repeat (first | apply Kd.V_alloc | apply Kd.V_drewN | apply Kd.V_drew));exact Kd.V_mono (Kd.V_far (p:=⟨gb408,2,none⟩) (Kd.V_far (p:=⟨gb408,1,none⟩) (Kd.V_far (p:=⟨gb408,0,none⟩) (Kd.V_far (p:=⟨gb407,2,none⟩) (Kd.V_far (p:=⟨gb407,1,none⟩) (Kd.V_far (p:=⟨gb407,0,none⟩) (Kd.V_mono (Kd.V_mono HO419.out (fun k_ hk=>(⟨hk,hk.2.2.2.1⟩:_∧k_ ≠ gb407))) (fun k_ hk=>(⟨hk,hk.1.2.2.2.2.1⟩:_∧k_ ≠ gb408))) (fun _ hk=>hk.1.2) (.int .i64 t415)) (fun _ hk=>hk.1.2) (.int .i64 t416)) (fun _ hk=>hk.1.2) (.slice Ao18 t417.length co18)) (fun _ hk=>hk.2) (.int .i64 ((rd_T25 t412 t429).f0))) (fun _ hk=>hk.2) (.int .i64 ((rd_T25 t412 t429).f1))) (fun _ hk=>hk.2) (.slice A431_2 ((rd_T25 t412 t429).f2).length c431_2)) (fun _ hk=>hk.1.1.1),by (with_reducible repeat (first | apply Kd.V_alloc | apply Kd.V_drewN | apply Kd.V_drew));exact Kd.V_mono (Kd.V_far (p:=⟨gb408,2,none⟩) (Kd.V_far (p:=⟨gb408,1,none⟩) (Kd.V_far (p:=⟨gb408,0,none⟩) (Kd.V_far (p:=⟨gb407,2,none⟩) (Kd.V_far (p:=⟨gb407,1,none⟩) (Kd.V_far (p:=⟨gb407,0,none⟩) (Kd.V_mono (Kd.V_mono HL431_2.out (fun k_ hk=>(⟨hk,hk.2.2.2.1⟩:_∧k_ ≠ gb407))) (fun k_ hk=>(⟨hk,hk.1.2.2.2.2.1⟩:_∧k_ ≠ gb408))) (fun _ hk=>hk.1.2) (.int .i64 t415)) (fun _ hk=>hk.1.2) (.int .i64 t416)) (fun _ hk=>hk.1.2) (.slice Ao18 t417.length co18)) (fun _ hk=>hk.2) (.int .i64 ((rd_T25 t412 t429).f0))) (fun _ hk=>hk.2) (.int .i64 ((rd_T25 t412 t429).f1))) (fun _ hk=>hk.2) (.slice A431_2 ((rd_T25 t412 t429).f2).length c431_2)) (fun _ hk=>hk.1.1.1),by repeat (first | (with_reducible first | exact HB.out | apply below_alloc | apply pw_below_drewN | apply below_drew1 | refine below_set ?_ (IsS73.ge HI411.out) | refine below_set ?_ GE407.out | refine below_set ?_ GE408.out | refine below_set ?_ GE421.out | refine below_set ?_ GE428.out) | exact HB.out)⟩
   ·rw [if_neg c8] at H
    exact absurd H (by simp)
  ·rw [if_neg c7] at H
   exact absurd H (by simp)
 ·rw [if_neg c5] at H
  have c5b0:decide (0 < (t412.length:Int)) = false:=decide_eq_false c5
  have c5b1:decide (0 < t412.length) = false:=decide_eq_false (by omega)
  clear c5
  simp only [Option.some.injEq,Prod.mk.injEq] at H
  obtain ⟨rfl,rfl,rfl,rfl,rfl,rfl⟩:=H
  go_enter Tryd.func24,Tryd.ntmps24
  try go_wp2_with (first | ((with_reducible refine gate_dst (N:=2) rfl ?_);refine box_event ?hg (N:=2) ?hd (cs:=#[.int .i64 0,.int .i64 0,.slice none 0 0]) (t:=25) ?hr ?_;(case hd=>rfl);(case hg=>rfl);(case hr=>first | (go_simp;done) | (go_simp;rfl));intro gb407 hg w38 hbox hb;have n0_:=Aside0.mk (below_step (by repeat (first | (with_reducible first | exact HB.out | apply below_alloc | apply pw_below_drewN | apply below_drew1) | exact HB.out)) hb);have n1_:=Aside0.mk (hbox);have n2_:=Aside0.mk ((by rw [hg];exact (below_size (by repeat (first | (with_reducible first | exact HB.out | apply below_alloc | apply pw_below_drewN | apply below_drew1) | exact HB.out))):w.heap.size ≤ gb407));have n3_:=Aside0.mk ((by rw [hg];exact (below_size (by repeat (first | (with_reducible first | exact HB.out | apply below_alloc | apply pw_below_drewN | apply below_drew1) | exact HB.out))):w.heap.size ≤ gb407));clear HB;have HB:=n0_;have BK407:=n1_;have GW407:=n2_;have GE407:=n3_;clear n0_ n1_ n2_ n3_;clear hb hbox hg) | ((with_reducible refine gate_dst (N:=3) rfl ?_);refine box_event ?hg (N:=3) ?hd (cs:=#[.int .i64 0,.int .i64 0,.slice none 0 0]) (t:=25) ?hr ?_;(case hd=>rfl);(case hg=>rfl);(case hr=>first | (go_simp;done) | (go_simp;rfl));intro gb408 hg w39 hbox hb;have n0_:=Aside0.mk (blk_below (g:=gb407) (o:=.cells #[.int .i64 0,.int .i64 0,.slice none 0 0] 25 (0,0)) (by (with_reducible repeat (first | refine blk_drewN ?_ _ | refine blk_drew ?_ | refine blk_alloc ?_ _));exact BK407.out) hb);have n1_:=Aside0.mk (below_step (by repeat (first | (with_reducible first | exact HB.out | apply below_alloc | apply pw_below_drewN | apply below_drew1 | refine below_set ?_ GE407.out) | exact HB.out)) hb);have n2_:=Aside0.mk (hbox);have n3_:=Aside0.mk ((by rw [hg];exact (below_size (by repeat (first | (with_reducible first | exact HB.out | apply below_alloc | apply pw_below_drewN | apply below_drew1 | refine below_set ?_ GE407.out) | exact HB.out))):w.heap.size ≤ gb408));have n4_:=Aside0.mk ((by rw [hg];exact (below_size (by repeat (first | (with_reducible first | exact HB.out | apply below_alloc | apply pw_below_drewN | apply below_drew1 | refine below_set ?_ GE407.out) | exact HB.out))):w.heap.size ≤ gb408));have n5_:=Aside0.mk ((by rw [hg];exact Nat.ne_of_lt (blk_lt (g:=gb407) (o:=.cells #[.int .i64 0,.int .i64 0,.slice none 0 0] 25 (0,0)) (by (with_reducible repeat (first | refine blk_drewN ?_ _ | refine blk_drew ?_ | refine blk_alloc ?_ _));exact BK407.out)):gb407 ≠ gb408));have n6_:=Aside0.mk ((by rw [hg];exact Nat.ne_of_gt (blk_lt (g:=gb407) (o:=.cells #[.int .i64 0,.int .i64 0,.slice none 0 0] 25 (0,0)) (by (with_reducible repeat (first | refine blk_drewN ?_ _ | refine blk_drew ?_ | refine blk_alloc ?_ _));exact BK407.out)):gb408 ≠ gb407));clear BK407;clear HB;have BK407:=n0_;have HB:=n1_;have BK408:=n2_;have GW408:=n3_;have GE408:=n4_;have NB407_408:=n5_;have NB408_407:=n6_;clear n0_ n1_ n2_ n3_ n4_ n5_ n6_;clear hb hbox hg) | ((with_reducible refine gate_callee (f:=39) rfl ?_);refine goesL_ (some 9) rfl rfl Tryd.func39 (by kernel_rfl) rfl #[.slice A0 l0.length c0] rfl (by (try simp only [List.map_toArray,List.map_cons,List.map_nil]);first | done | rfl | (simp only [List.length_drop,List.length_take];rfl)) ?_;(with_reducible refine (spec_l6Open.calls _ _ l0 t409 t410 w _ ?side1 ?side2 ?side3 A2.out).mono ?_);(case side1=>repeat (first | (with_reducible first | exact HB.out | apply below_alloc | apply pw_below_drewN | apply below_drew1 | refine below_set ?_ GE407.out | refine below_set ?_ GE408.out) | exact HB.out));(case side2=>exact HR0.out);(case side3=>exact HC0.out);rintro e w40 ⟨g411,rfl,hi,hb,hb2⟩;refine ⟨_,rfl,?_⟩;have n0_:=Aside0.mk (blk_below (g:=gb407) (o:=.cells #[.int .i64 0,.int .i64 0,.slice none 0 0] 25 (0,0)) (by (with_reducible repeat (first | refine blk_drewN ?_ _ | refine blk_drew ?_ | refine blk_alloc ?_ _));exact BK407.out) hb2);have n1_:=Aside0.mk (blk_below (g:=gb408) (o:=.cells #[.int .i64 0,.int .i64 0,.slice none 0 0] 25 (0,0)) (by (with_reducible repeat (first | refine blk_drewN ?_ _ | refine blk_drew ?_ | refine blk_alloc ?_ _));exact BK408.out) hb2);have n2_:=Aside0.mk (hb);have n3_:=Aside0.mk (hi);have n4_:=Aside0.mk (IsS73.ne_blk hi (blk_below (g:=gb407) (o:=.cells #[.int .i64 0,.int .i64 0,.slice none 0 0] 25 (0,0)) (by (with_reducible repeat (first | refine blk_drewN ?_ _ | refine blk_drew ?_ | refine blk_alloc ?_ _));exact BK407.out) hb2) (by decide));have n5_:=Aside0.mk (Ne.symm (IsS73.ne_blk hi (blk_below (g:=gb407) (o:=.cells #[.int .i64 0,.int .i64 0,.slice none 0 0] 25 (0,0)) (by (with_reducible repeat (first | refine blk_drewN ?_ _ | refine blk_drew ?_ | refine blk_alloc ?_ _));exact BK407.out) hb2) (by decide)));have n6_:=Aside0.mk (IsS73.ne_blk hi (blk_below (g:=gb408) (o:=.cells #[.int .i64 0,.int .i64 0,.slice none 0 0] 25 (0,0)) (by (with_reducible repeat (first | refine blk_drewN ?_ _ | refine blk_drew ?_ | refine blk_alloc ?_ _));exact BK408.out) hb2) (by decide));have n7_:=Aside0.mk (Ne.symm (IsS73.ne_blk hi (blk_below (g:=gb408) (o:=.cells #[.int .i64 0,.int .i64 0,.slice none 0 0] 25 (0,0)) (by (with_reducible repeat (first | refine blk_drewN ?_ _ | refine blk_drew ?_ | refine blk_alloc ?_ _));exact BK408.out) hb2) (by decide)));clear BK407;clear BK408;clear HB;have BK407:=n0_;have BK408:=n1_;have HB:=n2_;have HI411:=n3_;have NB411_407:=n4_;have NB407_411:=n5_;have NB411_408:=n6_;have NB408_411:=n7_;clear n0_ n1_ n2_ n3_ n4_ n5_ n6_ n7_;(try clear hb);(try clear hb2);(try clear hk);(try clear hi)) | ((with_reducible refine gate_callee (f:=50) rfl ?_);refine goesL_ (some 12) rfl rfl Tryd.func50 (by kernel_rfl) rfl #[.pointer (some ⟨g411,0,none⟩)] rfl (by (try simp only [List.map_toArray,List.map_cons,List.map_nil]);first | done | rfl | (simp only [List.length_drop,List.length_take];rfl)) ?_;(with_reducible refine (spec_l92Asked.calls k g411 t409 t410 t412 t415 t416 t417 t420 w _ ?side1 ?side2 A3.out).mono ?_);(case side1=>repeat (first | (with_reducible first | exact HI411.out | apply IsS73.alloc | apply IsS73.drewN | apply IsS73.drew | apply IsS73.set_1 | refine IsS73.far ?_ NB411_407.out _ | refine IsS73.far ?_ NB411_408.out _) | exact HI411.out));(case side2=>repeat (first | (with_reducible first | exact HB.out | apply below_alloc | apply pw_below_drewN | apply below_drew1 | refine below_set ?_ (IsS73.ge HI411.out) | refine below_set ?_ GE407.out | refine below_set ?_ GE408.out) | exact HB.out));rintro e w41 ⟨v413,v418,rfl,ho0,ho1,hi,hb,hk⟩;refine ⟨_,rfl,?_⟩;have n0_:=Aside0.mk (KeepBut.blk hk (g':=gb407) (o:=.cells #[.int .i64 0,.int .i64 0,.slice none 0 0] 25 (0,0)) (by (with_reducible repeat (first | refine blk_drewN ?_ _ | refine blk_drew ?_ | refine blk_alloc ?_ _));exact BK407.out) NB407_411.out (by simp));have n1_:=Aside0.mk (KeepBut.blk hk (g':=gb408) (o:=.cells #[.int .i64 0,.int .i64 0,.slice none 0 0] 25 (0,0)) (by (with_reducible repeat (first | refine blk_drewN ?_ _ | refine blk_drew ?_ | refine blk_alloc ?_ _));exact BK408.out) NB408_411.out (by simp));have n2_:=Aside0.mk (Kd.N_lower (Kd.N_mono (ok':=fun k_=>(w.heap.size ≤ k_)∧k_ ≠ gb407∧k_ ≠ gb408∧k_ ≠ g411) ho0 (fun k_ hk_=>⟨(Nat.le_trans (below_size (by repeat (first | (with_reducible first | exact HB.out | apply below_alloc | apply pw_below_drewN | apply below_drew1 | refine below_set ?_ (IsS73.ge HI411.out) | refine below_set ?_ GE407.out | refine below_set ?_ GE408.out) | exact HB.out))) hk_),(Kd.freshB (g:=gb407) (o:=.cells #[.int .i64 0,.int .i64 0,.slice none 0 0] 25 (0,0)) (by (with_reducible repeat (first | refine blk_drewN ?_ _ | refine blk_drew ?_ | refine blk_alloc ?_ _));exact BK407.out) k_ hk_),(Kd.freshB (g:=gb408) (o:=.cells #[.int .i64 0,.int .i64 0,.slice none 0 0] 25 (0,0)) (by (with_reducible repeat (first | refine blk_drewN ?_ _ | refine blk_drew ?_ | refine blk_alloc ?_ _));exact BK408.out) k_ hk_),(IsS73.fresh (by repeat (first | (with_reducible first | exact HI411.out | apply IsS73.alloc | apply IsS73.drewN | apply IsS73.drew | apply IsS73.set_1 | refine IsS73.far ?_ NB411_407.out _ | refine IsS73.far ?_ NB411_408.out _) | exact HI411.out)) k_ hk_)⟩)) (below_size (by repeat (first | (with_reducible first | exact HB.out | apply below_alloc | apply pw_below_drewN | apply below_drew1 | refine below_set ?_ (IsS73.ge HI411.out) | refine below_set ?_ GE407.out | refine below_set ?_ GE408.out) | exact HB.out))));have n3_:=Aside0.mk (Kd.V_lower (Kd.V_mono (ok':=fun k_=>(w.heap.size ≤ k_)∧some k_ ≠ (v413:Value).ownBlock∧k_ ≠ gb407∧k_ ≠ gb408∧k_ ≠ g411) ho1 (fun k_ hk_=>⟨(Nat.le_trans (below_size (by repeat (first | (with_reducible first | exact HB.out | apply below_alloc | apply pw_below_drewN | apply below_drew1 | refine below_set ?_ (IsS73.ge HI411.out) | refine below_set ?_ GE407.out | refine below_set ?_ GE408.out) | exact HB.out))) hk_.1),hk_.2,(Kd.freshB (g:=gb407) (o:=.cells #[.int .i64 0,.int .i64 0,.slice none 0 0] 25 (0,0)) (by (with_reducible repeat (first | refine blk_drewN ?_ _ | refine blk_drew ?_ | refine blk_alloc ?_ _));exact BK407.out) k_ hk_.1),(Kd.freshB (g:=gb408) (o:=.cells #[.int .i64 0,.int .i64 0,.slice none 0 0] 25 (0,0)) (by (with_reducible repeat (first | refine blk_drewN ?_ _ | refine blk_drew ?_ | refine blk_alloc ?_ _));exact BK408.out) k_ hk_.1),(IsS73.fresh (by repeat (first | (with_reducible first | exact HI411.out | apply IsS73.alloc | apply IsS73.drewN | apply IsS73.drew | apply IsS73.set_1 | refine IsS73.far ?_ NB411_407.out _ | refine IsS73.far ?_ NB411_408.out _) | exact HI411.out)) k_ hk_.1)⟩)) (below_size (by repeat (first | (with_reducible first | exact HB.out | apply below_alloc | apply pw_below_drewN | apply below_drew1 | refine below_set ?_ (IsS73.ge HI411.out) | refine below_set ?_ GE407.out | refine below_set ?_ GE408.out) | exact HB.out))));have n4_:=Aside0.mk (hb);have n5_:=Aside0.mk (hi);clear BK407;clear BK408;clear HB;clear HI411;have BK407:=n0_;have BK408:=n1_;have HO414:=n2_;have HO419:=n3_;have HB:=n4_;have HI411:=n5_;clear n0_ n1_ n2_ n3_ n4_ n5_;(try clear hb);(try clear hb2);(try clear hk);(try clear hi);(try clear ho0);(try clear ho1)) | ((with_reducible refine gate_dst (N:=6) rfl ?_);refine box_event ?hg (N:=6) ?hd (cs:=#[.int .i64 0,.int .i64 0,.slice none 0 0]) (t:=25) ?hr ?_;(case hd=>rfl);(case hg=>rfl);(case hr=>first | (go_simp;done) | (go_simp;rfl));intro gb421 hg w42 hbox hb;have n0_:=Aside0.mk (Kd.N_below (Kd.N_elderB (by (with_reducible repeat (first | apply Kd.N_alloc | apply Kd.N_drewN | apply Kd.N_drew));exact HO414.out) gb421 (Nat.le_of_eq hg.symm)) hb);have n1_:=Aside0.mk (Kd.V_below (Kd.V_elderB (by (with_reducible repeat (first | apply Kd.V_alloc | apply Kd.V_drewN | apply Kd.V_drew));exact HO419.out) gb421 (Nat.le_of_eq hg.symm)) hb);have n2_:=Aside0.mk (blk_below (g:=gb407) (o:=.cells #[.int .i64 0,.int .i64 0,.slice none 0 0] 25 (0,0)) (by (with_reducible repeat (first | refine blk_drewN ?_ _ | refine blk_drew ?_ | refine blk_alloc ?_ _));exact BK407.out) hb);have n3_:=Aside0.mk (blk_below (g:=gb408) (o:=.cells #[.int .i64 0,.int .i64 0,.slice none 0 0] 25 (0,0)) (by (with_reducible repeat (first | refine blk_drewN ?_ _ | refine blk_drew ?_ | refine blk_alloc ?_ _));exact BK408.out) hb);have n4_:=Aside0.mk (IsS73.below (by repeat (first | (with_reducible first | exact HI411.out | apply IsS73.alloc | apply IsS73.drewN | apply IsS73.drew | apply IsS73.set_1 | refine IsS73.far ?_ NB411_407.out _ | refine IsS73.far ?_ NB411_408.out _) | exact HI411.out)) hb);have n5_:=Aside0.mk (below_step (by repeat (first | (with_reducible first | exact HB.out | apply below_alloc | apply pw_below_drewN | apply below_drew1 | refine below_set ?_ (IsS73.ge HI411.out) | refine below_set ?_ GE407.out | refine below_set ?_ GE408.out) | exact HB.out)) hb);have n6_:=Aside0.mk (hbox);have n7_:=Aside0.mk ((by rw [hg];exact (below_size (by repeat (first | (with_reducible first | exact HB.out | apply below_alloc | apply pw_below_drewN | apply below_drew1 | refine below_set ?_ (IsS73.ge HI411.out) | refine below_set ?_ GE407.out | refine below_set ?_ GE408.out) | exact HB.out))):w.heap.size ≤ gb421));have n8_:=Aside0.mk ((by rw [hg];exact (below_size (by repeat (first | (with_reducible first | exact HB.out | apply below_alloc | apply pw_below_drewN | apply below_drew1 | refine below_set ?_ (IsS73.ge HI411.out) | refine below_set ?_ GE407.out | refine below_set ?_ GE408.out) | exact HB.out))):w.heap.size ≤ gb421));have n9_:=Aside0.mk ((by rw [hg];exact Nat.ne_of_lt (blk_lt (g:=gb407) (o:=.cells #[.int .i64 0,.int .i64 0,.slice none 0 0] 25 (0,0)) (by (with_reducible repeat (first | refine blk_drewN ?_ _ | refine blk_drew ?_ | refine blk_alloc ?_ _));exact BK407.out)):gb407 ≠ gb421));have n10_:=Aside0.mk ((by rw [hg];exact Nat.ne_of_gt (blk_lt (g:=gb407) (o:=.cells #[.int .i64 0,.int .i64 0,.slice none 0 0] 25 (0,0)) (by (with_reducible repeat (first | refine blk_drewN ?_ _ | refine blk_drew ?_ | refine blk_alloc ?_ _));exact BK407.out)):gb421 ≠ gb407));have n11_:=Aside0.mk ((by rw [hg];exact Nat.ne_of_lt (blk_lt (g:=gb408) (o:=.cells #[.int .i64 0,.int .i64 0,.slice none 0 0] 25 (0,0)) (by (with_reducible repeat (first | refine blk_drewN ?_ _ | refine blk_drew ?_ | refine blk_alloc ?_ _));exact BK408.out)):gb408 ≠ gb421));have n12_:=Aside0.mk ((by rw [hg];exact Nat.ne_of_gt (blk_lt (g:=gb408) (o:=.cells #[.int .i64 0,.int .i64 0,.slice none 0 0] 25 (0,0)) (by (with_reducible repeat (first | refine blk_drewN ?_ _ | refine blk_drew ?_ | refine blk_alloc ?_ _));exact BK408.out)):gb421 ≠ gb408));have n13_:=Aside0.mk ((by rw [hg];exact Nat.ne_of_lt (IsS73.lt (show IsS73 w _ g411 t409 t420 from by repeat (first | (with_reducible first | exact HI411.out | apply IsS73.alloc | apply IsS73.drewN | apply IsS73.drew | apply IsS73.set_1 | refine IsS73.far ?_ NB411_407.out _ | refine IsS73.far ?_ NB411_408.out _) | exact HI411.out))):g411 ≠ gb421));have n14_:=Aside0.mk ((by rw [hg];exact Nat.ne_of_gt (IsS73.lt (show IsS73 w _ g411 t409 t420 from by repeat (first | (with_reducible first | exact HI411.out | apply IsS73.alloc | apply IsS73.drewN | apply IsS73.drew | apply IsS73.set_1 | refine IsS73.far ?_ NB411_407.out _ | refine IsS73.far ?_ NB411_408.out _) | exact HI411.out))):gb421 ≠ g411));clear HO414;clear HO419;clear BK407;clear BK408;clear HI411;clear HB;have HO414:=n0_;have HO419:=n1_;have BK407:=n2_;have BK408:=n3_;have HI411:=n4_;have HB:=n5_;have BK421:=n6_;have GW421:=n7_;have GE421:=n8_;have NB407_421:=n9_;have NB421_407:=n10_;have NB408_421:=n11_;have NB421_408:=n12_;have NB411_421:=n13_;have NB421_411:=n14_;clear n0_ n1_ n2_ n3_ n4_ n5_ n6_ n7_ n8_ n9_ n10_ n11_ n12_ n13_ n14_;clear hb hbox hg;have hnb43:=NB421_407.out;have hnc43:=NB407_421.out;have hnb44:=NB421_408.out;have hnc44:=NB408_421.out;have hnb45:=NB421_411.out;have hnc45:=NB411_421.out;have hcz46_0:w42.cell? ⟨gb421,0,none⟩ = some (.int .i64 0):=(blk_cell BK421.out 0).trans rfl;have hcz46_1:w42.cell? ⟨gb421,1,none⟩ = some (.int .i64 0):=(blk_cell BK421.out 1).trans rfl;have hcz46_2:w42.cell? ⟨gb421,2,none⟩ = some (.slice none 0 0):=(blk_cell BK421.out 2).trans rfl;have hfz46_0:=blk_frozen BK421.out 0;have hfz46_1:=blk_frozen BK421.out 1;have hfz46_2:=blk_frozen BK421.out 2;obtain ⟨Ao47,co47,eo47⟩:=Kd.V_slice HO419.out;subst eo47) | ((with_reducible refine gate_callee (f:=40) rfl ?_);refine goesL_ (some 16) rfl rfl Tryd.func40 (by kernel_rfl) rfl #[.pointer (some ⟨g411,0,none⟩),.int .i64 2] rfl (by (try simp only [List.map_toArray,List.map_cons,List.map_nil]);first | done | rfl | (simp only [List.length_drop,List.length_take];rfl)) ?_;(with_reducible refine (spec_l92Seal.calls k g411 t409 t420 2 t422 t423 t424 t427 w _ ?side1 ?side2 A4.out).mono ?_);(case side1=>repeat (first | (with_reducible first | exact HI411.out | apply IsS73.alloc | apply IsS73.drewN | apply IsS73.drew | apply IsS73.set_1 | refine IsS73.far ?_ NB411_407.out _ | refine IsS73.far ?_ NB411_408.out _ | refine IsS73.far ?_ NB411_421.out _) | exact HI411.out));(case side2=>repeat (first | (with_reducible first | exact HB.out | apply below_alloc | apply pw_below_drewN | apply below_drew1 | refine below_set ?_ (IsS73.ge HI411.out) | refine below_set ?_ GE407.out | refine below_set ?_ GE408.out | refine below_set ?_ GE421.out) | exact HB.out));rintro e w48 ⟨v425,rfl,ho0,hi,hb,hk⟩;refine ⟨_,rfl,?_⟩;have n0_:=Aside0.mk (KeepBut.blk hk (g':=gb407) (o:=.cells #[.int .i64 0,.int .i64 0,.slice none 0 0] 25 (0,0)) (by (with_reducible repeat (first | refine blk_drewN ?_ _ | refine blk_drew ?_ | refine blk_alloc ?_ _));refine blk_far ?_ NB407_421.out _;(with_reducible repeat (first | refine blk_drewN ?_ _ | refine blk_drew ?_ | refine blk_alloc ?_ _));refine blk_far ?_ NB407_421.out _;(with_reducible repeat (first | refine blk_drewN ?_ _ | refine blk_drew ?_ | refine blk_alloc ?_ _));refine blk_far ?_ NB407_421.out _;(with_reducible repeat (first | refine blk_drewN ?_ _ | refine blk_drew ?_ | refine blk_alloc ?_ _));exact BK407.out) NB407_411.out (by simp));have n1_:=Aside0.mk (KeepBut.blk hk (g':=gb408) (o:=.cells #[.int .i64 0,.int .i64 0,.slice none 0 0] 25 (0,0)) (by (with_reducible repeat (first | refine blk_drewN ?_ _ | refine blk_drew ?_ | refine blk_alloc ?_ _));refine blk_far ?_ NB408_421.out _;(with_reducible repeat (first | refine blk_drewN ?_ _ | refine blk_drew ?_ | refine blk_alloc ?_ _));refine blk_far ?_ NB408_421.out _;(with_reducible repeat (first | refine blk_drewN ?_ _ | refine blk_drew ?_ | refine blk_alloc ?_ _));refine blk_far ?_ NB408_421.out _;(with_reducible repeat (first | refine blk_drewN ?_ _ | refine blk_drew ?_ | refine blk_alloc ?_ _));exact BK408.out) NB408_411.out (by simp));have n2_:=Aside0.mk (Kd.N_mono (Kd.N_told (Kd.N_oldK (Kd.N_mono (ok:=fun k_=>((((w.heap.size ≤ k_))∧(k_ ≠ gb407∧(k_ ≠ gb408∧k_ ≠ g411)))∧k_ ≠ gb421)) (by (with_reducible repeat (first | apply Kd.N_alloc | apply Kd.N_drewN | apply Kd.N_drew));exact (Kd.N_mono (Kd.N_far (p:=⟨gb421,2,none⟩) (Kd.N_far (p:=⟨gb421,1,none⟩) (Kd.N_far (p:=⟨gb421,0,none⟩) (Kd.N_mono HO414.out (fun k_ hk=>(⟨hk,hk.2⟩:_∧k_ ≠ gb421))) (fun _ hk=>hk.2) (.int .i64 t415)) (fun _ hk=>hk.2) (.int .i64 t416)) (fun _ hk=>hk.2) (.slice Ao47 t417.length co47)) (fun _ h_=>h_.1))) (fun k_ hk_=>(⟨hk_,hk_.1.2.2.2⟩:_∧k_ ≠ g411))) hk) (Kd.N_base ho0)) (fun _ h_=>h_.1));have n3_:=Aside0.mk (Kd.V_mono (Kd.V_told (Kd.V_oldK (Kd.V_mono (ok:=fun k_=>((((w.heap.size ≤ k_))∧(some k_ ≠ (v413:Value).ownBlock∧(k_ ≠ gb407∧(k_ ≠ gb408∧k_ ≠ g411))))∧k_ ≠ gb421)) (by (with_reducible repeat (first | apply Kd.V_alloc | apply Kd.V_drewN | apply Kd.V_drew));exact (Kd.V_mono (Kd.V_far (p:=⟨gb421,2,none⟩) (Kd.V_far (p:=⟨gb421,1,none⟩) (Kd.V_far (p:=⟨gb421,0,none⟩) (Kd.V_mono HO419.out (fun k_ hk=>(⟨hk,hk.2⟩:_∧k_ ≠ gb421))) (fun _ hk=>hk.2) (.int .i64 t415)) (fun _ hk=>hk.2) (.int .i64 t416)) (fun _ hk=>hk.2) (.slice Ao47 t417.length co47)) (fun _ h_=>h_.1))) (fun k_ hk_=>(⟨hk_,hk_.1.2.2.2.2⟩:_∧k_ ≠ g411))) hk) (Kd.N_base ho0)) (fun _ h_=>h_.1));have n4_:=Aside0.mk (KeepBut.blk hk (g':=gb421) (o:=.cells #[.int .i64 t415,.int .i64 t416,.slice Ao47 t417.length co47] 25 (0,0)) (by (with_reducible repeat (first | refine blk_drewN ?_ _ | refine blk_drew ?_ | refine blk_alloc ?_ _));refine blk_put (cs:=#[.int .i64 t415,.int .i64 t416,.slice none 0 0]) ?_ 2 _ rfl;(with_reducible repeat (first | refine blk_drewN ?_ _ | refine blk_drew ?_ | refine blk_alloc ?_ _));refine blk_put (cs:=#[.int .i64 t415,.int .i64 0,.slice none 0 0]) ?_ 1 _ rfl;(with_reducible repeat (first | refine blk_drewN ?_ _ | refine blk_drew ?_ | refine blk_alloc ?_ _));refine blk_put (cs:=#[.int .i64 0,.int .i64 0,.slice none 0 0]) ?_ 0 _ rfl;(with_reducible repeat (first | refine blk_drewN ?_ _ | refine blk_drew ?_ | refine blk_alloc ?_ _));exact BK421.out) NB421_411.out (by simp));have n5_:=Aside0.mk (Kd.N_lower (Kd.N_mono (ok':=fun k_=>(w.heap.size ≤ k_)∧some k_ ≠ (v413:Value).ownBlock∧k_ ≠ gb407∧k_ ≠ gb408∧k_ ≠ gb421∧k_ ≠ g411) ho0 (fun k_ hk_=>⟨(Nat.le_trans (below_size (by repeat (first | (with_reducible first | exact HB.out | apply below_alloc | apply pw_below_drewN | apply below_drew1 | refine below_set ?_ (IsS73.ge HI411.out) | refine below_set ?_ GE407.out | refine below_set ?_ GE408.out | refine below_set ?_ GE421.out) | exact HB.out))) hk_),(Kd.fresh' (Kd.N_lt (by (with_reducible repeat (first | apply Kd.N_alloc | apply Kd.N_drewN | apply Kd.N_drew));exact (Kd.N_mono (Kd.N_far (p:=⟨gb421,2,none⟩) (Kd.N_far (p:=⟨gb421,1,none⟩) (Kd.N_far (p:=⟨gb421,0,none⟩) (Kd.N_mono HO414.out (fun k_ hk=>(⟨hk,hk.2⟩:_∧k_ ≠ gb421))) (fun _ hk=>hk.2) (.int .i64 t415)) (fun _ hk=>hk.2) (.int .i64 t416)) (fun _ hk=>hk.2) (.slice Ao47 t417.length co47)) (fun _ h_=>h_.1)))) k_ hk_),(Kd.freshB (g:=gb407) (o:=.cells #[.int .i64 0,.int .i64 0,.slice none 0 0] 25 (0,0)) (by (with_reducible repeat (first | refine blk_drewN ?_ _ | refine blk_drew ?_ | refine blk_alloc ?_ _));refine blk_far ?_ NB407_421.out _;(with_reducible repeat (first | refine blk_drewN ?_ _ | refine blk_drew ?_ | refine blk_alloc ?_ _));refine blk_far ?_ NB407_421.out _;(with_reducible repeat (first | refine blk_drewN ?_ _ | refine blk_drew ?_ | refine blk_alloc ?_ _));refine blk_far ?_ NB407_421.out _;(with_reducible repeat (first | refine blk_drewN ?_ _ | refine blk_drew ?_ | refine blk_alloc ?_ _));exact BK407.out) k_ hk_),(Kd.freshB (g:=gb408) (o:=.cells #[.int .i64 0,.int .i64 0,.slice none 0 0] 25 (0,0)) (by (with_reducible repeat (first | refine blk_drewN ?_ _ | refine blk_drew ?_ | refine blk_alloc ?_ _));refine blk_far ?_ NB408_421.out _;(with_reducible repeat (first | refine blk_drewN ?_ _ | refine blk_drew ?_ | refine blk_alloc ?_ _));refine blk_far ?_ NB408_421.out _;(with_reducible repeat (first | refine blk_drewN ?_ _ | refine blk_drew ?_ | refine blk_alloc ?_ _));refine blk_far ?_ NB408_421.out _;(with_reducible repeat (first | refine blk_drewN ?_ _ | refine blk_drew ?_ | refine blk_alloc ?_ _));exact BK408.out) k_ hk_),(Kd.freshB (g:=gb421) (o:=.cells #[.int .i64 t415,.int .i64 t416,.slice Ao47 t417.length co47] 25 (0,0)) (by (with_reducible repeat (first | refine blk_drewN ?_ _ | refine blk_drew ?_ | refine blk_alloc ?_ _));refine blk_put (cs:=#[.int .i64 t415,.int .i64 t416,.slice none 0 0]) ?_ 2 _ rfl;(with_reducible repeat (first | refine blk_drewN ?_ _ | refine blk_drew ?_ | refine blk_alloc ?_ _));refine blk_put (cs:=#[.int .i64 t415,.int .i64 0,.slice none 0 0]) ?_ 1 _ rfl;(with_reducible repeat (first | refine blk_drewN ?_ _ | refine blk_drew ?_ | refine blk_alloc ?_ _));refine blk_put (cs:=#[.int .i64 0,.int .i64 0,.slice none 0 0]) ?_ 0 _ rfl;(with_reducible repeat (first | refine blk_drewN ?_ _ | refine blk_drew ?_ | refine blk_alloc ?_ _));exact BK421.out) k_ hk_),(IsS73.fresh (by repeat (first | (with_reducible first | exact HI411.out | apply IsS73.alloc | apply IsS73.drewN | apply IsS73.drew | apply IsS73.set_1 | refine IsS73.far ?_ NB411_407.out _ | refine IsS73.far ?_ NB411_408.out _ | refine IsS73.far ?_ NB411_421.out _) | exact HI411.out)) k_ hk_)⟩)) (below_size (by repeat (first | (with_reducible first | exact HB.out | apply below_alloc | apply pw_below_drewN | apply below_drew1 | refine below_set ?_ (IsS73.ge HI411.out) | refine below_set ?_ GE407.out | refine below_set ?_ GE408.out | refine below_set ?_ GE421.out) | exact HB.out))));have n6_:=Aside0.mk (hb);have n7_:=Aside0.mk (hi);clear BK407;clear BK408;clear HO414;clear HO419;clear BK421;clear HB;clear HI411;have BK407:=n0_;have BK408:=n1_;have HO414:=n2_;have HO419:=n3_;have BK421:=n4_;have HO426:=n5_;have HB:=n6_;have HI411:=n7_;clear n0_ n1_ n2_ n3_ n4_ n5_ n6_ n7_;(try clear hb);(try clear hb2);(try clear hk);(try clear hi);(try clear ho0)) | ((with_reducible refine gate_dst (N:=7) rfl ?_);refine box_event ?hg (N:=7) ?hd (cs:=#[.int .i64 0,.int .i64 0,.slice none 0 0]) (t:=25) ?hr ?_;(case hd=>rfl);(case hg=>rfl);(case hr=>first | (go_simp;done) | (go_simp;rfl));intro gb428 hg w49 hbox hb;have n0_:=Aside0.mk (Kd.N_below (Kd.N_elderB (by (with_reducible repeat (first | apply Kd.N_alloc | apply Kd.N_drewN | apply Kd.N_drew));exact HO414.out) gb428 (Nat.le_of_eq hg.symm)) hb);have n1_:=Aside0.mk (Kd.V_below (Kd.V_elderB (by (with_reducible repeat (first | apply Kd.V_alloc | apply Kd.V_drewN | apply Kd.V_drew));exact HO419.out) gb428 (Nat.le_of_eq hg.symm)) hb);have n2_:=Aside0.mk (Kd.N_below (Kd.N_elderB (by (with_reducible repeat (first | apply Kd.N_alloc | apply Kd.N_drewN | apply Kd.N_drew));exact HO426.out) gb428 (Nat.le_of_eq hg.symm)) hb);have n3_:=Aside0.mk (blk_below (g:=gb407) (o:=.cells #[.int .i64 0,.int .i64 0,.slice none 0 0] 25 (0,0)) (by (with_reducible repeat (first | refine blk_drewN ?_ _ | refine blk_drew ?_ | refine blk_alloc ?_ _));exact BK407.out) hb);have n4_:=Aside0.mk (blk_below (g:=gb408) (o:=.cells #[.int .i64 0,.int .i64 0,.slice none 0 0] 25 (0,0)) (by (with_reducible repeat (first | refine blk_drewN ?_ _ | refine blk_drew ?_ | refine blk_alloc ?_ _));exact BK408.out) hb);have n5_:=Aside0.mk (IsS73.below (by repeat (first | (with_reducible first | exact HI411.out | apply IsS73.alloc | apply IsS73.drewN | apply IsS73.drew | apply IsS73.set_1 | refine IsS73.far ?_ NB411_407.out _ | refine IsS73.far ?_ NB411_408.out _ | refine IsS73.far ?_ NB411_421.out _) | exact HI411.out)) hb);have n6_:=Aside0.mk (blk_below (g:=gb421) (o:=.cells #[.int .i64 t415,.int .i64 t416,.slice Ao47 t417.length co47] 25 (0,0)) (by (with_reducible repeat (first | refine blk_drewN ?_ _ | refine blk_drew ?_ | refine blk_alloc ?_ _));exact BK421.out) hb);have n7_:=Aside0.mk (below_step (by repeat (first | (with_reducible first | exact HB.out | apply below_alloc | apply pw_below_drewN | apply below_drew1 | refine below_set ?_ (IsS73.ge HI411.out) | refine below_set ?_ GE407.out | refine below_set ?_ GE408.out | refine below_set ?_ GE421.out) | exact HB.out)) hb);have n8_:=Aside0.mk (hbox);have n9_:=Aside0.mk ((by rw [hg];exact (below_size (by repeat (first | (with_reducible first | exact HB.out | apply below_alloc | apply pw_below_drewN | apply below_drew1 | refine below_set ?_ (IsS73.ge HI411.out) | refine below_set ?_ GE407.out | refine below_set ?_ GE408.out | refine below_set ?_ GE421.out) | exact HB.out))):w.heap.size ≤ gb428));have n10_:=Aside0.mk ((by rw [hg];exact (below_size (by repeat (first | (with_reducible first | exact HB.out | apply below_alloc | apply pw_below_drewN | apply below_drew1 | refine below_set ?_ (IsS73.ge HI411.out) | refine below_set ?_ GE407.out | refine below_set ?_ GE408.out | refine below_set ?_ GE421.out) | exact HB.out))):w.heap.size ≤ gb428));have n11_:=Aside0.mk ((by rw [hg];exact Nat.ne_of_lt (blk_lt (g:=gb407) (o:=.cells #[.int .i64 0,.int .i64 0,.slice none 0 0] 25 (0,0)) (by (with_reducible repeat (first | refine blk_drewN ?_ _ | refine blk_drew ?_ | refine blk_alloc ?_ _));exact BK407.out)):gb407 ≠ gb428));have n12_:=Aside0.mk ((by rw [hg];exact Nat.ne_of_gt (blk_lt (g:=gb407) (o:=.cells #[.int .i64 0,.int .i64 0,.slice none 0 0] 25 (0,0)) (by (with_reducible repeat (first | refine blk_drewN ?_ _ | refine blk_drew ?_ | refine blk_alloc ?_ _));exact BK407.out)):gb428 ≠ gb407));have n13_:=Aside0.mk ((by rw [hg];exact Nat.ne_of_lt (blk_lt (g:=gb408) (o:=.cells #[.int .i64 0,.int .i64 0,.slice none 0 0] 25 (0,0)) (by (with_reducible repeat (first | refine blk_drewN ?_ _ | refine blk_drew ?_ | refine blk_alloc ?_ _));exact BK408.out)):gb408 ≠ gb428));have n14_:=Aside0.mk ((by rw [hg];exact Nat.ne_of_gt (blk_lt (g:=gb408) (o:=.cells #[.int .i64 0,.int .i64 0,.slice none 0 0] 25 (0,0)) (by (with_reducible repeat (first | refine blk_drewN ?_ _ | refine blk_drew ?_ | refine blk_alloc ?_ _));exact BK408.out)):gb428 ≠ gb408));have n15_:=Aside0.mk ((by rw [hg];exact Nat.ne_of_lt (blk_lt (g:=gb421) (o:=.cells #[.int .i64 t415,.int .i64 t416,.slice Ao47 t417.length co47] 25 (0,0)) (by (with_reducible repeat (first | refine blk_drewN ?_ _ | refine blk_drew ?_ | refine blk_alloc ?_ _));exact BK421.out)):gb421 ≠ gb428));have n16_:=Aside0.mk ((by rw [hg];exact Nat.ne_of_gt (blk_lt (g:=gb421) (o:=.cells #[.int .i64 t415,.int .i64 t416,.slice Ao47 t417.length co47] 25 (0,0)) (by (with_reducible repeat (first | refine blk_drewN ?_ _ | refine blk_drew ?_ | refine blk_alloc ?_ _));exact BK421.out)):gb428 ≠ gb421));have n17_:=Aside0.mk ((by rw [hg];exact Nat.ne_of_lt (IsS73.lt (show IsS73 w _ g411 t409 t427 from by repeat (first | (with_reducible first | exact HI411.out | apply IsS73.alloc | apply IsS73.drewN | apply IsS73.drew | apply IsS73.set_1 | refine IsS73.far ?_ NB411_407.out _ | refine IsS73.far ?_ NB411_408.out _ | refine IsS73.far ?_ NB411_421.out _) | exact HI411.out))):g411 ≠ gb428));have n18_:=Aside0.mk ((by rw [hg];exact Nat.ne_of_gt (IsS73.lt (show IsS73 w _ g411 t409 t427 from by repeat (first | (with_reducible first | exact HI411.out | apply IsS73.alloc | apply IsS73.drewN | apply IsS73.drew | apply IsS73.set_1 | refine IsS73.far ?_ NB411_407.out _ | refine IsS73.far ?_ NB411_408.out _ | refine IsS73.far ?_ NB411_421.out _) | exact HI411.out))):gb428 ≠ g411));clear HO414;clear HO419;clear HO426;clear BK407;clear BK408;clear HI411;clear BK421;clear HB;have HO414:=n0_;have HO419:=n1_;have HO426:=n2_;have BK407:=n3_;have BK408:=n4_;have HI411:=n5_;have BK421:=n6_;have HB:=n7_;have BK428:=n8_;have GW428:=n9_;have GE428:=n10_;have NB407_428:=n11_;have NB428_407:=n12_;have NB408_428:=n13_;have NB428_408:=n14_;have NB421_428:=n15_;have NB428_421:=n16_;have NB411_428:=n17_;have NB428_411:=n18_;clear n0_ n1_ n2_ n3_ n4_ n5_ n6_ n7_ n8_ n9_ n10_ n11_ n12_ n13_ n14_ n15_ n16_ n17_ n18_;clear hb hbox hg;have hnb50:=NB428_407.out;have hnc50:=NB407_428.out;have hnb51:=NB428_408.out;have hnc51:=NB408_428.out;have hnb52:=NB428_421.out;have hnc52:=NB421_428.out;have hnb53:=NB428_411.out;have hnc53:=NB411_428.out;have hcz54_0:w49.cell? ⟨gb428,0,none⟩ = some (.int .i64 0):=(blk_cell BK428.out 0).trans rfl;have hcz54_1:w49.cell? ⟨gb428,1,none⟩ = some (.int .i64 0):=(blk_cell BK428.out 1).trans rfl;have hcz54_2:w49.cell? ⟨gb428,2,none⟩ = some (.slice none 0 0):=(blk_cell BK428.out 2).trans rfl;have hfz54_0:=blk_frozen BK428.out 0;have hfz54_1:=blk_frozen BK428.out 1;have hfz54_2:=blk_frozen BK428.out 2;obtain ⟨Ao55,co55,eo55⟩:=Kd.N_slice HO426.out;subst eo55;obtain ⟨Ao56,co56,eo56⟩:=Kd.N_slice HO414.out;subst eo56))
  have n0_:Aside0 (Kd.N k25 25 (((w49.setCell ⟨gb428,0,none⟩ (.int .i64 t422)).setCell ⟨gb428,1,none⟩ (.int .i64 t423)).setCell ⟨gb428,2,none⟩ (.slice Ao55 t424.length co55)) w.heap.size (fun k_=>(w.heap.size ≤ k_)∧some k_ ≠ (.slice Ao55 t424.length co55:Value).ownBlock∧k_ ≠ gb407∧k_ ≠ gb408∧k_ ≠ g411∧k_ ≠ gb421∧k_ ≠ gb428) (.slice Ao56 t412.length co56) t412):=⟨by (with_reducible repeat (first | apply Kd.N_alloc | apply Kd.N_drewN | apply Kd.N_drew));exact Kd.N_mono (Kd.N_far (p:=⟨gb428,2,none⟩) (Kd.N_far (p:=⟨gb428,1,none⟩) (Kd.N_far (p:=⟨gb428,0,none⟩) (Kd.N_mono HO414.out (fun k_ hk=>(⟨hk,hk.2⟩:_∧k_ ≠ gb428))) (fun _ hk=>hk.2) (.int .i64 t422)) (fun _ hk=>hk.2) (.int .i64 t423)) (fun _ hk=>hk.2) (.slice Ao55 t424.length co55)) (fun _ hk=>⟨hk.1.1.1.1.1,⟨hk.1.1.2,⟨hk.1.1.1.1.2.1,⟨hk.1.1.1.1.2.2.1,⟨hk.1.1.1.1.2.2.2,⟨hk.1.1.1.2,hk.1.2⟩⟩⟩⟩⟩⟩)⟩
  have n1_:Aside0 (Kd.V k25 25 (((w49.setCell ⟨gb428,0,none⟩ (.int .i64 t422)).setCell ⟨gb428,1,none⟩ (.int .i64 t423)).setCell ⟨gb428,2,none⟩ (.slice Ao55 t424.length co55)) w.heap.size (fun k_=>(w.heap.size ≤ k_)∧some k_ ≠ (.slice Ao56 t412.length co56:Value).ownBlock∧some k_ ≠ (.slice Ao55 t424.length co55:Value).ownBlock∧k_ ≠ gb407∧k_ ≠ gb408∧k_ ≠ g411∧k_ ≠ gb421∧k_ ≠ gb428) (.slice Ao47 t417.length co47) t417):=⟨by (with_reducible repeat (first | apply Kd.V_alloc | apply Kd.V_drewN | apply Kd.V_drew));exact Kd.V_mono (Kd.V_far (p:=⟨gb428,2,none⟩) (Kd.V_far (p:=⟨gb428,1,none⟩) (Kd.V_far (p:=⟨gb428,0,none⟩) (Kd.V_mono HO419.out (fun k_ hk=>(⟨hk,hk.2⟩:_∧k_ ≠ gb428))) (fun _ hk=>hk.2) (.int .i64 t422)) (fun _ hk=>hk.2) (.int .i64 t423)) (fun _ hk=>hk.2) (.slice Ao55 t424.length co55)) (fun _ hk=>⟨hk.1.1.1.1.1,⟨hk.1.1.1.1.2.1,⟨hk.1.1.2,⟨hk.1.1.1.1.2.2.1,⟨hk.1.1.1.1.2.2.2.1,⟨hk.1.1.1.1.2.2.2.2,⟨hk.1.1.1.2,hk.1.2⟩⟩⟩⟩⟩⟩⟩)⟩
  have n2_:Aside0 (Kd.N k25 25 (((w49.setCell ⟨gb428,0,none⟩ (.int .i64 t422)).setCell ⟨gb428,1,none⟩ (.int .i64 t423)).setCell ⟨gb428,2,none⟩ (.slice Ao55 t424.length co55)) w.heap.size (fun k_=>(w.heap.size ≤ k_)∧some k_ ≠ (.slice Ao56 t412.length co56:Value).ownBlock∧k_ ≠ gb407∧k_ ≠ gb408∧k_ ≠ gb421∧k_ ≠ g411∧k_ ≠ gb428) (.slice Ao55 t424.length co55) t424):=⟨by (with_reducible repeat (first | apply Kd.N_alloc | apply Kd.N_drewN | apply Kd.N_drew));exact Kd.N_mono (Kd.N_far (p:=⟨gb428,2,none⟩) (Kd.N_far (p:=⟨gb428,1,none⟩) (Kd.N_far (p:=⟨gb428,0,none⟩) (Kd.N_mono HO426.out (fun k_ hk=>(⟨hk,hk.2⟩:_∧k_ ≠ gb428))) (fun _ hk=>hk.2) (.int .i64 t422)) (fun _ hk=>hk.2) (.int .i64 t423)) (fun _ hk=>hk.2) (.slice Ao55 t424.length co55)) (fun _ hk=>⟨hk.1.1.1,⟨hk.1.1.2.1,⟨hk.1.1.2.2.1,⟨hk.1.1.2.2.2.1,⟨hk.1.1.2.2.2.2.1,⟨hk.1.1.2.2.2.2.2,hk.1.2⟩⟩⟩⟩⟩⟩)⟩
  have n3_:Aside0 ((((w49.setCell ⟨gb428,0,none⟩ (.int .i64 t422)).setCell ⟨gb428,1,none⟩ (.int .i64 t423)).setCell ⟨gb428,2,none⟩ (.slice Ao55 t424.length co55)).heap[gb407]? = some (.cells #[.int .i64 0,.int .i64 0,.slice none 0 0] 25 (0,0))):=⟨by (with_reducible repeat (first | refine blk_drewN ?_ _ | refine blk_drew ?_ | refine blk_alloc ?_ _));refine blk_far ?_ NB407_428.out _;(with_reducible repeat (first | refine blk_drewN ?_ _ | refine blk_drew ?_ | refine blk_alloc ?_ _));refine blk_far ?_ NB407_428.out _;(with_reducible repeat (first | refine blk_drewN ?_ _ | refine blk_drew ?_ | refine blk_alloc ?_ _));refine blk_far ?_ NB407_428.out _;(with_reducible repeat (first | refine blk_drewN ?_ _ | refine blk_drew ?_ | refine blk_alloc ?_ _));exact BK407.out⟩
  have n4_:Aside0 ((((w49.setCell ⟨gb428,0,none⟩ (.int .i64 t422)).setCell ⟨gb428,1,none⟩ (.int .i64 t423)).setCell ⟨gb428,2,none⟩ (.slice Ao55 t424.length co55)).heap[gb408]? = some (.cells #[.int .i64 0,.int .i64 0,.slice none 0 0] 25 (0,0))):=⟨by (with_reducible repeat (first | refine blk_drewN ?_ _ | refine blk_drew ?_ | refine blk_alloc ?_ _));refine blk_far ?_ NB408_428.out _;(with_reducible repeat (first | refine blk_drewN ?_ _ | refine blk_drew ?_ | refine blk_alloc ?_ _));refine blk_far ?_ NB408_428.out _;(with_reducible repeat (first | refine blk_drewN ?_ _ | refine blk_drew ?_ | refine blk_alloc ?_ _));refine blk_far ?_ NB408_428.out _;(with_reducible repeat (first | refine blk_drewN ?_ _ | refine blk_drew ?_ | refine blk_alloc ?_ _));exact BK408.out⟩
  have n5_:Aside0 ((((w49.setCell ⟨gb428,0,none⟩ (.int .i64 t422)).setCell ⟨gb428,1,none⟩ (.int .i64 t423)).setCell ⟨gb428,2,none⟩ (.slice Ao55 t424.length co55)).heap[gb421]? = some (.cells #[.int .i64 t415,.int .i64 t416,.slice Ao47 t417.length co47] 25 (0,0))):=⟨by (with_reducible repeat (first | refine blk_drewN ?_ _ | refine blk_drew ?_ | refine blk_alloc ?_ _));refine blk_far ?_ NB421_428.out _;(with_reducible repeat (first | refine blk_drewN ?_ _ | refine blk_drew ?_ | refine blk_alloc ?_ _));refine blk_far ?_ NB421_428.out _;(with_reducible repeat (first | refine blk_drewN ?_ _ | refine blk_drew ?_ | refine blk_alloc ?_ _));refine blk_far ?_ NB421_428.out _;(with_reducible repeat (first | refine blk_drewN ?_ _ | refine blk_drew ?_ | refine blk_alloc ?_ _));exact BK421.out⟩
  have n6_:Aside0 ((((w49.setCell ⟨gb428,0,none⟩ (.int .i64 t422)).setCell ⟨gb428,1,none⟩ (.int .i64 t423)).setCell ⟨gb428,2,none⟩ (.slice Ao55 t424.length co55)).heap[gb428]? = some (.cells #[.int .i64 t422,.int .i64 t423,.slice Ao55 t424.length co55] 25 (0,0))):=⟨by (with_reducible repeat (first | refine blk_drewN ?_ _ | refine blk_drew ?_ | refine blk_alloc ?_ _));refine blk_put (cs:=#[.int .i64 t422,.int .i64 t423,.slice none 0 0]) ?_ 2 _ rfl;(with_reducible repeat (first | refine blk_drewN ?_ _ | refine blk_drew ?_ | refine blk_alloc ?_ _));refine blk_put (cs:=#[.int .i64 t422,.int .i64 0,.slice none 0 0]) ?_ 1 _ rfl;(with_reducible repeat (first | refine blk_drewN ?_ _ | refine blk_drew ?_ | refine blk_alloc ?_ _));refine blk_put (cs:=#[.int .i64 0,.int .i64 0,.slice none 0 0]) ?_ 0 _ rfl;(with_reducible repeat (first | refine blk_drewN ?_ _ | refine blk_drew ?_ | refine blk_alloc ?_ _));exact BK428.out⟩
  have n7_:Aside0 (IsS73 w (((w49.setCell ⟨gb428,0,none⟩ (.int .i64 t422)).setCell ⟨gb428,1,none⟩ (.int .i64 t423)).setCell ⟨gb428,2,none⟩ (.slice Ao55 t424.length co55)) g411 t409 t427):=⟨by repeat (first | (with_reducible first | exact HI411.out | apply IsS73.alloc | apply IsS73.drewN | apply IsS73.drew | apply IsS73.set_1 | refine IsS73.far ?_ NB411_407.out _ | refine IsS73.far ?_ NB411_408.out _ | refine IsS73.far ?_ NB411_421.out _ | refine IsS73.far ?_ NB411_428.out _) | exact HI411.out)⟩
  have n8_:Aside0 (Below w.heap.size w (((w49.setCell ⟨gb428,0,none⟩ (.int .i64 t422)).setCell ⟨gb428,1,none⟩ (.int .i64 t423)).setCell ⟨gb428,2,none⟩ (.slice Ao55 t424.length co55))):=⟨by repeat (first | (with_reducible first | exact HB.out | apply below_alloc | apply pw_below_drewN | apply below_drew1 | refine below_set ?_ (IsS73.ge HI411.out) | refine below_set ?_ GE407.out | refine below_set ?_ GE408.out | refine below_set ?_ GE421.out | refine below_set ?_ GE428.out) | exact HB.out)⟩
  (try clear HO414)
  (try clear HO419)
  (try clear HO426)
  (try clear BK407)
  (try clear BK408)
  (try clear BK421)
  (try clear BK428)
  (try clear HI411)
  (try clear HB)
  generalize (((w49.setCell ⟨gb428,0,none⟩ (.int .i64 t422)).setCell ⟨gb428,1,none⟩ (.int .i64 t423)).setCell ⟨gb428,2,none⟩ (.slice Ao55 t424.length co55)) = w57 at n0_ n1_ n2_ n3_ n4_ n5_ n6_ n7_ n8_ ⊢
  have HO414:=n0_
  have HO419:=n1_
  have HO426:=n2_
  have BK407:=n3_
  have BK408:=n4_
  have BK421:=n5_
  have BK428:=n6_
  have HI411:=n7_
  have HB:=n8_
  clear n0_ n1_ n2_ n3_ n4_ n5_ n6_ n7_ n8_
  have n0_:=Aside0.mk (Kd.N_drew HO414.out)
  have n1_:=Aside0.mk (Kd.V_drew HO419.out)
  have n2_:=Aside0.mk (Kd.N_drew HO426.out)
  have n3_:=Aside0.mk (blk_drew BK407.out)
  have n4_:=Aside0.mk (blk_drew BK408.out)
  have n5_:=Aside0.mk (blk_drew BK421.out)
  have n6_:=Aside0.mk (blk_drew BK428.out)
  have n7_:=Aside0.mk (IsS73.drew HI411.out)
  have n8_:=Aside0.mk (below_drew1 HB.out)
  clear HO414
  clear HO419
  clear HO426
  clear BK407
  clear BK408
  clear BK421
  clear BK428
  clear HI411
  clear HB
  have HO414:=n0_
  have HO419:=n1_
  have HO426:=n2_
  have BK407:=n3_
  have BK408:=n4_
  have BK421:=n5_
  have BK428:=n6_
  have HI411:=n7_
  have HB:=n8_
  clear n0_ n1_ n2_ n3_ n4_ n5_ n6_ n7_ n8_
  refine start_ (n:=4) (S:=fun w'=>w'.cell? ⟨gb421,0,none⟩ = some (.int .i64 t415)∧w'.cell? ⟨gb421,1,none⟩ = some (.int .i64 t416)∧w'.cell? ⟨gb421,2,none⟩ = some (.slice Ao47 t417.length co47)∧w'.cell? ⟨gb428,0,none⟩ = some (.int .i64 t422)∧w'.cell? ⟨gb428,1,none⟩ = some (.int .i64 t423)∧w'.cell? ⟨gb428,2,none⟩ = some (.slice Ao55 t424.length co55)) (ds:=[]) #[false,false,false,false] (by kernel_rfl) rfl rfl ⟨(blk_cell BK421.out 0).trans rfl,(blk_cell BK421.out 1).trans rfl,(blk_cell BK421.out 2).trans rfl,(blk_cell BK428.out 0).trans rfl,(blk_cell BK428.out 1).trans rfl,(blk_cell BK428.out 2).trans rfl⟩ (fun hHeld=>?_)
  generalize w57.drew = w58 at HO414 HO419 HO426 BK407 BK408 BK421 BK428 HI411 HB hHeld ⊢
  refine take_ (i:=0) (N:=some 27) (v:=?_) (a':=?_) #[true,false,false,false] rfl rfl (by kernel_rfl) (fun _ _ _ h=>h) (Or.inl ⟨by rfl,?_⟩) hHeld ?_ ?_
  rotate_left;·rintro w' ⟨s0,s1,s2,s3,s4,s5⟩;go_simp;with_reducible rfl
  rotate_left;·simp only [Act.put,List.setIfInBounds_toArray,List.set_cons_zero,List.set_cons_succ,i64_w,i32_w];rfl
  refine take_ (i:=1) (N:=some 28) (v:=?_) (a':=?_) #[true,true,false,false] rfl rfl (by kernel_rfl) (fun _ _ _ h=>h) (Or.inl ⟨by rfl,?_⟩) hHeld ?_ ?_
  rotate_left;·rintro w' ⟨s0,s1,s2,s3,s4,s5⟩;go_simp;with_reducible rfl
  rotate_left;·simp only [Act.put,List.setIfInBounds_toArray,List.set_cons_zero,List.set_cons_succ,i64_w,i32_w];rfl
  refine one_ (i:=2) (N:=none) #[true,true,true,false] rfl rfl (by kernel_rfl) (by decide) (fun K hK=>?_)
  have hs59:w58.cell? ⟨gb407,0,none⟩ = some (.int .i64 0):=(blk_cell BK407.out 0).trans rfl
  have hfs59:=blk_frozen BK407.out 0
  have hns59_1:=NB408_407.out
  have hns59_2:=NB421_407.out
  have hns59_3:=NB428_407.out
  have hms59_1:=NB407_408.out
  have hms59_2:=NB407_421.out
  have hms59_3:=NB407_428.out
  have hs60:w58.cell? ⟨gb407,1,none⟩ = some (.int .i64 0):=(blk_cell BK407.out 1).trans rfl
  have hfs60:=blk_frozen BK407.out 1
  have hns60_1:=NB408_407.out
  have hns60_2:=NB421_407.out
  have hns60_3:=NB428_407.out
  have hms60_1:=NB407_408.out
  have hms60_2:=NB407_421.out
  have hms60_3:=NB407_428.out
  have hs61:w58.cell? ⟨gb407,2,none⟩ = some (.slice none 0 0):=(blk_cell BK407.out 2).trans rfl
  have hfs61:=blk_frozen BK407.out 2
  have hns61_1:=NB408_407.out
  have hns61_2:=NB421_407.out
  have hns61_3:=NB428_407.out
  have hms61_1:=NB407_408.out
  have hms61_2:=NB407_421.out
  have hms61_3:=NB407_428.out
  refine skip_ (w1:=?_) (by rfl) rfl ?_ ?_
  rotate_left
  ·go_simp
   rfl
  refine hK.out _ _ ⟨((cell_far (p:=⟨gb407,_,none⟩) NB421_407.out _).trans (((cell_far (p:=⟨gb407,_,none⟩) NB421_407.out _).trans (((cell_far (p:=⟨gb407,_,none⟩) NB421_407.out _).trans (hHeld.1)))))),((cell_far (p:=⟨gb407,_,none⟩) NB421_407.out _).trans (((cell_far (p:=⟨gb407,_,none⟩) NB421_407.out _).trans (((cell_far (p:=⟨gb407,_,none⟩) NB421_407.out _).trans (hHeld.2.1)))))),((cell_far (p:=⟨gb407,_,none⟩) NB421_407.out _).trans (((cell_far (p:=⟨gb407,_,none⟩) NB421_407.out _).trans (((cell_far (p:=⟨gb407,_,none⟩) NB421_407.out _).trans (hHeld.2.2.1)))))),((cell_far (p:=⟨gb407,_,none⟩) NB428_407.out _).trans (((cell_far (p:=⟨gb407,_,none⟩) NB428_407.out _).trans (((cell_far (p:=⟨gb407,_,none⟩) NB428_407.out _).trans (hHeld.2.2.2.1)))))),((cell_far (p:=⟨gb407,_,none⟩) NB428_407.out _).trans (((cell_far (p:=⟨gb407,_,none⟩) NB428_407.out _).trans (((cell_far (p:=⟨gb407,_,none⟩) NB428_407.out _).trans (hHeld.2.2.2.2.1)))))),((cell_far (p:=⟨gb407,_,none⟩) NB428_407.out _).trans (((cell_far (p:=⟨gb407,_,none⟩) NB428_407.out _).trans (((cell_far (p:=⟨gb407,_,none⟩) NB428_407.out _).trans (hHeld.2.2.2.2.2))))))⟩ (fun hHeld=>?_)
  clear hK K
  refine one_ (i:=3) (N:=none) #[true,true,true,true] rfl rfl (by kernel_rfl) (by decide) (fun K hK=>?_)
  have hs62:w58.cell? ⟨gb408,0,none⟩ = some (.int .i64 0):=(blk_cell BK408.out 0).trans rfl
  have hfs62:=blk_frozen BK408.out 0
  have hns62_0:=NB407_408.out
  have hns62_2:=NB421_408.out
  have hns62_3:=NB428_408.out
  have hms62_0:=NB408_407.out
  have hms62_2:=NB408_421.out
  have hms62_3:=NB408_428.out
  have hs63:w58.cell? ⟨gb408,1,none⟩ = some (.int .i64 0):=(blk_cell BK408.out 1).trans rfl
  have hfs63:=blk_frozen BK408.out 1
  have hns63_0:=NB407_408.out
  have hns63_2:=NB421_408.out
  have hns63_3:=NB428_408.out
  have hms63_0:=NB408_407.out
  have hms63_2:=NB408_421.out
  have hms63_3:=NB408_428.out
  have hs64:w58.cell? ⟨gb408,2,none⟩ = some (.slice none 0 0):=(blk_cell BK408.out 2).trans rfl
  have hfs64:=blk_frozen BK408.out 2
  have hns64_0:=NB407_408.out
  have hns64_2:=NB421_408.out
  have hns64_3:=NB428_408.out
  have hms64_0:=NB408_407.out
  have hms64_2:=NB408_421.out
  have hms64_3:=NB408_428.out
  refine skip_ (w1:=?_) (by rfl) rfl ?_ ?_
  rotate_left
  ·go_simp
   rfl
  refine hK.out _ _ ⟨((cell_far (p:=⟨gb408,_,none⟩) NB421_408.out _).trans (((cell_far (p:=⟨gb408,_,none⟩) NB421_408.out _).trans (((cell_far (p:=⟨gb408,_,none⟩) NB421_408.out _).trans (hHeld.1)))))),((cell_far (p:=⟨gb408,_,none⟩) NB421_408.out _).trans (((cell_far (p:=⟨gb408,_,none⟩) NB421_408.out _).trans (((cell_far (p:=⟨gb408,_,none⟩) NB421_408.out _).trans (hHeld.2.1)))))),((cell_far (p:=⟨gb408,_,none⟩) NB421_408.out _).trans (((cell_far (p:=⟨gb408,_,none⟩) NB421_408.out _).trans (((cell_far (p:=⟨gb408,_,none⟩) NB421_408.out _).trans (hHeld.2.2.1)))))),((cell_far (p:=⟨gb408,_,none⟩) NB428_408.out _).trans (((cell_far (p:=⟨gb408,_,none⟩) NB428_408.out _).trans (((cell_far (p:=⟨gb408,_,none⟩) NB428_408.out _).trans (hHeld.2.2.2.1)))))),((cell_far (p:=⟨gb408,_,none⟩) NB428_408.out _).trans (((cell_far (p:=⟨gb408,_,none⟩) NB428_408.out _).trans (((cell_far (p:=⟨gb408,_,none⟩) NB428_408.out _).trans (hHeld.2.2.2.2.1)))))),((cell_far (p:=⟨gb408,_,none⟩) NB428_408.out _).trans (((cell_far (p:=⟨gb408,_,none⟩) NB428_408.out _).trans (((cell_far (p:=⟨gb408,_,none⟩) NB428_408.out _).trans (hHeld.2.2.2.2.2))))))⟩ (fun hHeld=>?_)
  clear hK K
  refine done_ (by kernel_rfl) ?_
  try go_wp2
  refine bodyPost_ret (results_cc rfl _ _ gb407 gb408 25 25 #[.int .i64 t415,.int .i64 t416,.slice Ao47 t417.length co47] #[.int .i64 t422,.int .i64 t423,.slice Ao55 t424.length co55] (0,0) (0,0) _ _ rfl (by (with_reducible repeat (first | refine blk_drewN ?_ _ | refine blk_drew ?_ | refine blk_alloc ?_ _));refine blk_far ?_ NB407_408.out _;(with_reducible repeat (first | refine blk_drewN ?_ _ | refine blk_drew ?_ | refine blk_alloc ?_ _));refine blk_far ?_ NB407_408.out _;(with_reducible repeat (first | refine blk_drewN ?_ _ | refine blk_drew ?_ | refine blk_alloc ?_ _));refine blk_far ?_ NB407_408.out _;(with_reducible repeat (first | refine blk_drewN ?_ _ | refine blk_drew ?_ | refine blk_alloc ?_ _));refine blk_put (cs:=#[.int .i64 t415,.int .i64 t416,.slice none 0 0]) ?_ 2 _ rfl;(with_reducible repeat (first | refine blk_drewN ?_ _ | refine blk_drew ?_ | refine blk_alloc ?_ _));refine blk_put (cs:=#[.int .i64 t415,.int .i64 0,.slice none 0 0]) ?_ 1 _ rfl;(with_reducible repeat (first | refine blk_drewN ?_ _ | refine blk_drew ?_ | refine blk_alloc ?_ _));refine blk_put (cs:=#[.int .i64 0,.int .i64 0,.slice none 0 0]) ?_ 0 _ rfl;(with_reducible repeat (first | refine blk_drewN ?_ _ | refine blk_drew ?_ | refine blk_alloc ?_ _));exact BK407.out) Tryd.underlying25 rfl (by kernel_rfl) rfl (by (with_reducible repeat (first | refine blk_drewN ?_ _ | refine blk_drew ?_ | refine blk_alloc ?_ _));refine blk_put (cs:=#[.int .i64 t422,.int .i64 t423,.slice none 0 0]) ?_ 2 _ rfl;(with_reducible repeat (first | refine blk_drewN ?_ _ | refine blk_drew ?_ | refine blk_alloc ?_ _));refine blk_put (cs:=#[.int .i64 t422,.int .i64 0,.slice none 0 0]) ?_ 1 _ rfl;(with_reducible repeat (first | refine blk_drewN ?_ _ | refine blk_drew ?_ | refine blk_alloc ?_ _));refine blk_put (cs:=#[.int .i64 0,.int .i64 0,.slice none 0 0]) ?_ 0 _ rfl;(with_reducible repeat (first | refine blk_drewN ?_ _ | refine blk_drew ?_ | refine blk_alloc ?_ _));refine blk_far ?_ NB408_407.out _;(with_reducible repeat (first | refine blk_drewN ?_ _ | refine blk_drew ?_ | refine blk_alloc ?_ _));refine blk_far ?_ NB408_407.out _;(with_reducible repeat (first | refine blk_drewN ?_ _ | refine blk_drew ?_ | refine blk_alloc ?_ _));refine blk_far ?_ NB408_407.out _;(with_reducible repeat (first | refine blk_drewN ?_ _ | refine blk_drew ?_ | refine blk_alloc ?_ _));exact BK408.out) Tryd.underlying25 rfl (by kernel_rfl)) rfl ?_
  exact ⟨_,_,by first | rfl | (simp [errW_none,errW_some] <;> rfl) | (simp [*,errW_none,errW_some] <;> rfl),by (with_reducible repeat (first | apply Kd.V_alloc | apply Kd.V_drewN | apply Kd.V_drew));exact Kd.V_mono (Kd.V_far (p:=⟨gb408,2,none⟩) (Kd.V_far (p:=⟨gb408,1,none⟩) (Kd.V_far (p:=⟨gb408,0,none⟩) (Kd.V_far (p:=⟨gb407,2,none⟩) (Kd.V_far (p:=⟨gb407,1,none⟩) (Kd.V_far (p:=⟨gb407,0,none⟩) (Kd.V_mono (Kd.V_mono HO419.out (fun k_ hk=>(⟨hk,hk.2.2.2.1⟩:_∧k_ ≠ gb407))) (fun k_ hk=>(⟨hk,hk.1.2.2.2.2.1⟩:_∧k_ ≠ gb408))) (fun _ hk=>hk.1.2) (.int .i64 t415)) (fun _ hk=>hk.1.2) (.int .i64 t416)) (fun _ hk=>hk.1.2) (.slice Ao47 t417.length co47)) (fun _ hk=>hk.2) (.int .i64 t422)) (fun _ hk=>hk.2) (.int .i64 t423)) (fun _ hk=>hk.2) (.slice Ao55 t424.length co55)) (fun _ hk=>hk.1.1.1),Kd.N_V (by (with_reducible repeat (first | apply Kd.N_alloc | apply Kd.N_drewN | apply Kd.N_drew));exact Kd.N_mono (Kd.N_far (p:=⟨gb408,2,none⟩) (Kd.N_far (p:=⟨gb408,1,none⟩) (Kd.N_far (p:=⟨gb408,0,none⟩) (Kd.N_far (p:=⟨gb407,2,none⟩) (Kd.N_far (p:=⟨gb407,1,none⟩) (Kd.N_far (p:=⟨gb407,0,none⟩) (Kd.N_mono (Kd.N_mono HO426.out (fun k_ hk=>(⟨hk,hk.2.2.1⟩:_∧k_ ≠ gb407))) (fun k_ hk=>(⟨hk,hk.1.2.2.2.1⟩:_∧k_ ≠ gb408))) (fun _ hk=>hk.1.2) (.int .i64 t415)) (fun _ hk=>hk.1.2) (.int .i64 t416)) (fun _ hk=>hk.1.2) (.slice Ao47 t417.length co47)) (fun _ hk=>hk.2) (.int .i64 t422)) (fun _ hk=>hk.2) (.int .i64 t423)) (fun _ hk=>hk.2) (.slice Ao55 t424.length co55)) (fun _ hk=>hk.1.1.1)),by repeat (first | (with_reducible first | exact HB.out | apply below_alloc | apply pw_below_drewN | apply below_drew1 | refine below_set ?_ (IsS73.ge HI411.out) | refine below_set ?_ GE407.out | refine below_set ?_ GE408.out | refine below_set ?_ GE421.out | refine below_set ?_ GE428.out) | exact HB.out)⟩
def impl_sealText.f:Nat → Int → Int → List (S25) → Option (ByteArray)
 | 0,_,_,_=>none
 | k + 1,a0_0,a0_1,l0_2=>if a0_0 = 1 then (if 0 < (l0_2.length:Int) then ((impl_sealText.f k ((rd_T25 l0_2 0).f0) ((rd_T25 l0_2 0).f1) ((rd_T25 l0_2 0).f2)).bind fun t167=>(if 1 + t167.size ≤ 9223372036854775807 then (if ((⟨#[40]⟩:ByteArray) ++ t167).size + 1 ≤ 9223372036854775807 then (if 1 < (l0_2.length:Int) then ((impl_sealText.f k ((rd_T25 l0_2 1).f0) ((rd_T25 l0_2 1).f1) ((rd_T25 l0_2 1).f2)).bind fun t169=>(if (((⟨#[40]⟩:ByteArray) ++ t167) ++ (⟨#[32]⟩:ByteArray)).size + t169.size ≤ 9223372036854775807 then (if ((((⟨#[40]⟩:ByteArray) ++ t167) ++ (⟨#[32]⟩:ByteArray)) ++ t169).size + 1 ≤ 9223372036854775807 then (some (((((⟨#[40]⟩:ByteArray) ++ t167) ++ (⟨#[32]⟩:ByteArray)) ++ t169) ++ (⟨#[41]⟩:ByteArray))) else (none)) else (none))) else (none)) else (none)) else (none))) else (none)) else (if a0_0 = 2 then (if 1 < (l0_2.length:Int) then ((impl_sealText.f k ((rd_T25 l0_2 1).f0) ((rd_T25 l0_2 1).f1) ((rd_T25 l0_2 1).f2)).bind fun t171=>(if 1 + t171.size ≤ 9223372036854775807 then (if ((⟨#[123]⟩:ByteArray) ++ t171).size + 1 ≤ 9223372036854775807 then (if 0 < (l0_2.length:Int) then ((impl_sealText.f k ((rd_T25 l0_2 0).f0) ((rd_T25 l0_2 0).f1) ((rd_T25 l0_2 0).f2)).bind fun t173=>(if (((⟨#[123]⟩:ByteArray) ++ t171) ++ (⟨#[125]⟩:ByteArray)).size + t173.size ≤ 9223372036854775807 then (some ((((⟨#[123]⟩:ByteArray) ++ t171) ++ (⟨#[125]⟩:ByteArray)) ++ t173)) else (none))) else (none)) else (none)) else (none))) else (none)) else ((strconv_Itoa_59.f a0_1).bind fun t174=>(if 1 + t174.size ≤ 9223372036854775807 then (some ((⟨#[109]⟩:ByteArray) ++ t174)) else (none))))
theorem impl_sealText.mono_l:∀ k,(∀ y0 y1 y2,LeO (impl_sealText.f k y0 y1 y2) (impl_sealText.f (k + 1) y0 y1 y2))
 | 0=>fun _ _ _ r h=>by simp [impl_sealText.f] at h
 | k + 1=>by
  have ih0:=impl_sealText.mono_l k
  ·intro y0 y1 y2
   unfold impl_sealText.f
   repeat' first
   | (with_reducible exact ih0 _ _ _)
   | (with_reducible exact LeO.refl _)
   | (with_reducible exact LeO.none _)
   | (with_reducible refine LeO.ite ?_ ?_)
   | (with_reducible refine LeO.bind ?_ (fun _=>?_))
   | exact ih0 _ _ _
   | exact LeO.none _
   | refine LeO.ite ?_ ?_
   | refine LeO.bind ?_ (fun _=>?_)
theorem impl_sealText.mono:∀ a0 a1 a2 k,LeO (impl_sealText.f k a0 a1 a2) (impl_sealText.f (k + 1) a0 a1 a2):=by
 intro a0 a1 a2 k
 have ih0:=impl_sealText.mono_l k
 exact ih0 a0 a1 a2
def impl_sealText.T3:Bool × List (List Nat × List Nat):=(true,[([],[]),([0],[0]),([1],[1]),([2],[2]),([3],[3]),([4],[4]),([5],[5]),([],[]),([7],[7]),([8],[8]),([9],[9]),([10,4],[10]),([6,11],[6,11]),([12],[12]),([13,11,0,1,2,3,4,5,6,7,8,9,10,11,12,13],[13])])
def impl_sealText.B3:List Nat:=[0,1,3,7,15,31,63,0,128,384,896,1951,4095,8191,16383]
theorem impl_sealText.tab3:rtab .any (opsOf Tryd.f46 3) = impl_sealText.T3:=by kernel_rfl
theorem impl_sealText.bits3:waitsOk impl_sealText.T3.2 impl_sealText.B3 = true:=by kernel_rfl
def impl_sealText.T5:Bool × List (List Nat × List Nat):=(true,[([],[]),([0],[0]),([1],[1]),([2],[2]),([3],[3]),([4],[4]),([5],[5]),([],[]),([7],[7]),([8],[8]),([9],[9]),([10,4],[10]),([6,11],[6,11]),([12,11,0,1,2,3,4,5,6,7,8,9,10,11,12],[12])])
def impl_sealText.B5:List Nat:=[0,1,3,7,15,31,63,0,128,384,896,1951,4095,8191]
theorem impl_sealText.tab5:rtab .any (opsOf Tryd.f46 5) = impl_sealText.T5:=by kernel_rfl
theorem impl_sealText.bits5:waitsOk impl_sealText.T5.2 impl_sealText.B5 = true:=by kernel_rfl
set_option maxHeartbeats 8000000 in
set_option maxRecDepth 100000 in
theorem impl_sealText.calls (k:Nat):∀ (a0_0:Int) (a0_1:Int) (A0_2:Option Addr) (c0_2:Nat) (l0_2:List (S25)) (r:ByteArray) (w:World) (hr0_2:Kd.C k25 w A0_2 l0_2.length l0_2) (hc0_2:l0_2.length ≤ c0_2) (h:impl_sealText.f k a0_0 a0_1 l0_2 = some r),
  Calls Tryd.prog 46 #[.agg #[.int .i64 a0_0,.int .i64 a0_1,.slice A0_2 l0_2.length c0_2]] w fun e w'=>e = .returned (.string r)∧Below w.heap.size w w':=by
 induction k using Nat.strongRecOn with
 | _ k ih =>
 intro a0_0 a0_1 A0_2 c0_2 l0_2 r w hr0_2 hc0_2 h
 cases k with
 | zero=>exact absurd h (by simp [impl_sealText.f])
 | succ k =>
 simp only [impl_sealText.f] at h
 have hu25:=Tryd.underlying25
 have HR0_2:=Aside0.mk hr0_2
 have HC0_2:=Aside0.mk hc0_2
 clear hr0_2 hc0_2
 have HB:=Aside0.mk (Below.refl w.heap.size w)
 have H:(if a0_0 = 1 then (if 0 < (l0_2.length:Int) then ((impl_sealText.f k ((rd_T25 l0_2 0).f0) ((rd_T25 l0_2 0).f1) ((rd_T25 l0_2 0).f2)).bind fun t167=>(if 1 + t167.size ≤ 9223372036854775807 then (if ((⟨#[40]⟩:ByteArray) ++ t167).size + 1 ≤ 9223372036854775807 then (if 1 < (l0_2.length:Int) then ((impl_sealText.f k ((rd_T25 l0_2 1).f0) ((rd_T25 l0_2 1).f1) ((rd_T25 l0_2 1).f2)).bind fun t169=>(if (((⟨#[40]⟩:ByteArray) ++ t167) ++ (⟨#[32]⟩:ByteArray)).size + t169.size ≤ 9223372036854775807 then (if ((((⟨#[40]⟩:ByteArray) ++ t167) ++ (⟨#[32]⟩:ByteArray)) ++ t169).size + 1 ≤ 9223372036854775807 then (some (((((⟨#[40]⟩:ByteArray) ++ t167) ++ (⟨#[32]⟩:ByteArray)) ++ t169) ++ (⟨#[41]⟩:ByteArray))) else (none)) else (none))) else (none)) else (none)) else (none))) else (none)) else (if a0_0 = 2 then (if 1 < (l0_2.length:Int) then ((impl_sealText.f k ((rd_T25 l0_2 1).f0) ((rd_T25 l0_2 1).f1) ((rd_T25 l0_2 1).f2)).bind fun t171=>(if 1 + t171.size ≤ 9223372036854775807 then (if ((⟨#[123]⟩:ByteArray) ++ t171).size + 1 ≤ 9223372036854775807 then (if 0 < (l0_2.length:Int) then ((impl_sealText.f k ((rd_T25 l0_2 0).f0) ((rd_T25 l0_2 0).f1) ((rd_T25 l0_2 0).f2)).bind fun t173=>(if (((⟨#[123]⟩:ByteArray) ++ t171) ++ (⟨#[125]⟩:ByteArray)).size + t173.size ≤ 9223372036854775807 then (some ((((⟨#[123]⟩:ByteArray) ++ t171) ++ (⟨#[125]⟩:ByteArray)) ++ t173)) else (none))) else (none)) else (none)) else (none))) else (none)) else ((strconv_Itoa_59.f a0_1).bind fun t174=>(if 1 + t174.size ≤ 9223372036854775807 then (some ((⟨#[109]⟩:ByteArray) ++ t174)) else (none))))) = some r:=h
 clear h
 by_cases c2:a0_0 = 1
 ·rw [if_pos c2] at H
  have c2b0:(a0_0 == 1) = true:=beq_iff_eq.mpr c2
  have c2b1:(a0_0 != 1) = false:=bne_eq_false_iff_eq.mpr c2
  clear c2
  by_cases c3:0 < (l0_2.length:Int)
  ·rw [if_pos c3] at H
   have c3b0:decide (0 < (l0_2.length:Int)) = true:=decide_eq_true c3
   have c3b1:decide (0 < l0_2.length) = true:=decide_eq_true (by omega)
   clear c3
   replace H:=Option.bind_eq_some_iff.mp H
   obtain ⟨t167,A40,H⟩:=H
   replace H:(if 1 + t167.size ≤ 9223372036854775807 then (if ((⟨#[40]⟩:ByteArray) ++ t167).size + 1 ≤ 9223372036854775807 then (if 1 < (l0_2.length:Int) then ((impl_sealText.f k ((rd_T25 l0_2 1).f0) ((rd_T25 l0_2 1).f1) ((rd_T25 l0_2 1).f2)).bind fun t169=>(if (((⟨#[40]⟩:ByteArray) ++ t167) ++ (⟨#[32]⟩:ByteArray)).size + t169.size ≤ 9223372036854775807 then (if ((((⟨#[40]⟩:ByteArray) ++ t167) ++ (⟨#[32]⟩:ByteArray)) ++ t169).size + 1 ≤ 9223372036854775807 then (some (((((⟨#[40]⟩:ByteArray) ++ t167) ++ (⟨#[32]⟩:ByteArray)) ++ t169) ++ (⟨#[41]⟩:ByteArray))) else (none)) else (none))) else (none)) else (none)) else (none)) = some r:=H
   have A4:=Aside0.mk A40
   clear A40
   by_cases c5:1 + t167.size ≤ 9223372036854775807
   ·rw [if_pos c5] at H
    have c5b0:=eq_true c5
    have c5b1:decide (1 + t167.size ≤ 9223372036854775807) = true:=decide_eq_true c5
    try have c5b2:(9223372036854775807 < 1 + t167.size) = False:=eq_false (Nat.not_lt.2 c5)
    by_cases c6:((⟨#[40]⟩:ByteArray) ++ t167).size + 1 ≤ 9223372036854775807
    ·rw [if_pos c6] at H
     have c6b0:=eq_true c6
     have c6b1:decide (((⟨#[40]⟩:ByteArray) ++ t167).size + 1 ≤ 9223372036854775807) = true:=decide_eq_true c6
     try have c6b2:(9223372036854775807 < ((⟨#[40]⟩:ByteArray) ++ t167).size + 1) = False:=eq_false (Nat.not_lt.2 c6)
     try (have c6b3:=c6b2;simp only [ByteArray.size_append,show (⟨#[40]⟩:ByteArray).size = 1 from rfl] at c6b3)
     by_cases c7:1 < (l0_2.length:Int)
     ·rw [if_pos c7] at H
      have c7b0:decide (1 < (l0_2.length:Int)) = true:=decide_eq_true c7
      have c7b1:decide (1 < l0_2.length) = true:=decide_eq_true (by omega)
      clear c7
      replace H:=Option.bind_eq_some_iff.mp H
      obtain ⟨t169,A80,H⟩:=H
      replace H:(if (((⟨#[40]⟩:ByteArray) ++ t167) ++ (⟨#[32]⟩:ByteArray)).size + t169.size ≤ 9223372036854775807 then (if ((((⟨#[40]⟩:ByteArray) ++ t167) ++ (⟨#[32]⟩:ByteArray)) ++ t169).size + 1 ≤ 9223372036854775807 then (some (((((⟨#[40]⟩:ByteArray) ++ t167) ++ (⟨#[32]⟩:ByteArray)) ++ t169) ++ (⟨#[41]⟩:ByteArray))) else (none)) else (none)) = some r:=H
      have A8:=Aside0.mk A80
      clear A80
      by_cases c9:(((⟨#[40]⟩:ByteArray) ++ t167) ++ (⟨#[32]⟩:ByteArray)).size + t169.size ≤ 9223372036854775807
      ·rw [if_pos c9] at H
       have c9b0:=eq_true c9
       have c9b1:decide ((((⟨#[40]⟩:ByteArray) ++ t167) ++ (⟨#[32]⟩:ByteArray)).size + t169.size ≤ 9223372036854775807) = true:=decide_eq_true c9
       try have c9b2:(9223372036854775807 < (((⟨#[40]⟩:ByteArray) ++ t167) ++ (⟨#[32]⟩:ByteArray)).size + t169.size) = False:=eq_false (Nat.not_lt.2 c9)
       try (have c9b3:=c9b2;simp only [ByteArray.size_append,show (⟨#[32]⟩:ByteArray).size = 1 from rfl,show (⟨#[40]⟩:ByteArray).size = 1 from rfl] at c9b3)
       by_cases c10:((((⟨#[40]⟩:ByteArray) ++ t167) ++ (⟨#[32]⟩:ByteArray)) ++ t169).size + 1 ≤ 9223372036854775807
       ·rw [if_pos c10] at H
        have c10b0:=eq_true c10
        have c10b1:decide (((((⟨#[40]⟩:ByteArray) ++ t167) ++ (⟨#[32]⟩:ByteArray)) ++ t169).size + 1 ≤ 9223372036854775807) = true:=decide_eq_true c10
        try have c10b2:(9223372036854775807 < ((((⟨#[40]⟩:ByteArray) ++ t167) ++ (⟨#[32]⟩:ByteArray)) ++ t169).size + 1) = False:=eq_false (Nat.not_lt.2 c10)
        try (have c10b3:=c10b2;simp only [ByteArray.size_append,show (⟨#[32]⟩:ByteArray).size = 1 from rfl,show (⟨#[40]⟩:ByteArray).size = 1 from rfl] at c10b3)
        obtain rfl:=Option.some.inj H
        go_enter Tryd.func46,Tryd.ntmps46
        try go_wp2_with (first | ((with_reducible refine gate_dst (N:=1) rfl ?_);refine box_event ?hg (N:=1) ?hd (cs:=#[.int .i64 a0_0,.int .i64 a0_1,.slice A0_2 l0_2.length c0_2]) (t:=25) ?hr ?_;(case hd=>rfl);(case hg=>rfl);(case hr=>first | (go_simp;done) | (go_simp;rfl));intro gb165 hg w11 hbox hb;have n0_:=Aside0.mk (below_step (by repeat (first | (with_reducible first | exact HB.out | apply below_alloc | apply pw_below_drewN | apply below_drew1) | exact HB.out)) hb);have n1_:=Aside0.mk (hbox);have n2_:=Aside0.mk ((by rw [hg];exact (below_size (by repeat (first | (with_reducible first | exact HB.out | apply below_alloc | apply pw_below_drewN | apply below_drew1) | exact HB.out))):w.heap.size ≤ gb165));have n3_:=Aside0.mk ((by rw [hg];exact (below_size (by repeat (first | (with_reducible first | exact HB.out | apply below_alloc | apply pw_below_drewN | apply below_drew1) | exact HB.out))):w.heap.size ≤ gb165));clear HB;have HB:=n0_;have BK165:=n1_;have GW165:=n2_;have GE165:=n3_;clear n0_ n1_ n2_ n3_;clear hb hbox hg;have hcz12_0:w11.cell? ⟨gb165,0,none⟩ = some (.int .i64 a0_0):=(blk_cell BK165.out 0).trans rfl;have hcz12_1:w11.cell? ⟨gb165,1,none⟩ = some (.int .i64 a0_1):=(blk_cell BK165.out 1).trans rfl;have hcz12_2:w11.cell? ⟨gb165,2,none⟩ = some (.slice A0_2 l0_2.length c0_2):=(blk_cell BK165.out 2).trans rfl;have hfz12_0:=blk_frozen BK165.out 0;have hfz12_1:=blk_frozen BK165.out 1;have hfz12_2:=blk_frozen BK165.out 2))
        have n0_:=Aside0.mk (blk_drew BK165.out)
        have n1_:=Aside0.mk (below_drew1 HB.out)
        clear BK165
        clear HB
        have BK165:=n0_
        have HB:=n1_
        clear n0_ n1_
        have p166:0 ≤ (0:Int):=(by omega)
        have q166:0 < (l0_2.length:Int):=of_decide_eq_true (by first | (with_reducible assumption) | assumption)
        obtain ⟨ad166,A166_2,c166_2,e166,hx166_0,hx166_1,hx166_2,hl166_2,hi166_2⟩:=at_T25 HR0_2.out 0 p166 q166
        have hw166_2:=hx166_2
        (try rw [show ((0:Int)).toNat = 0 from rfl] at hw166_2)
        (try rw [show 0 * 3 = 0 from rfl] at hw166_2)
        (try rw [Addr.add_zero'] at hw166_2)
        have hw166_1:=hx166_1
        (try rw [show ((0:Int)).toNat = 0 from rfl] at hw166_1)
        (try rw [show 0 * 3 = 0 from rfl] at hw166_1)
        (try rw [Addr.add_zero'] at hw166_1)
        have hw166_0:=hx166_0
        (try rw [show ((0:Int)).toNat = 0 from rfl] at hw166_0)
        (try rw [show 0 * 3 = 0 from rfl] at hw166_0)
        (try rw [Addr.add_zero'] at hw166_0)
        cases e166
        have qi166:(0 < l0_2.length) = True:=eq_true (by omega)
        (try rw [show ((0:Int)).toNat = 0 from rfl] at hx166_0)
        (try rw [show 0 * 3 = 0 from rfl] at hx166_0)
        (try rw [Addr.add_zero'] at hx166_0)
        (try rw [show ((0:Int)).toNat = 0 from rfl] at hx166_1)
        (try rw [show 0 * 3 = 0 from rfl] at hx166_1)
        (try rw [Addr.add_zero'] at hx166_1)
        (try rw [show ((0:Int)).toNat = 0 from rfl] at hx166_2)
        (try rw [show 0 * 3 = 0 from rfl] at hx166_2)
        (try rw [Addr.add_zero'] at hx166_2)
        replace hx166_0:=(HB.out.cell (World.block_lt_of_cell? w _ hx166_0)).trans hx166_0
        replace hx166_1:=(HB.out.cell (World.block_lt_of_cell? w _ hx166_1)).trans hx166_1
        replace hx166_2:=(HB.out.cell (World.block_lt_of_cell? w _ hx166_2)).trans hx166_2
        have HR166_2:=Aside0.mk hi166_2
        have HC166_2:=Aside0.mk hl166_2
        clear hi166_2 hl166_2
        replace p166:=eq_true p166
        replace q166:=eq_true q166
        have p168:0 ≤ (1:Int):=(by omega)
        have q168:1 < (l0_2.length:Int):=of_decide_eq_true (by first | (with_reducible assumption) | assumption)
        obtain ⟨ad168,A168_2,c168_2,e168,hx168_0,hx168_1,hx168_2,hl168_2,hi168_2⟩:=at_T25 HR0_2.out 1 p168 q168
        have hw168_2:=hx168_2
        (try rw [show ((1:Int)).toNat = 1 from rfl] at hw168_2)
        (try rw [show 1 * 3 = 3 from rfl] at hw168_2)
        (try simp only [Nat.reduceMul,Nat.reduceEqDiff,Go.Addr.add,↓reduceIte] at hw168_2)
        have hw168_1:=hx168_1
        (try rw [show ((1:Int)).toNat = 1 from rfl] at hw168_1)
        (try rw [show 1 * 3 = 3 from rfl] at hw168_1)
        (try simp only [Nat.reduceMul,Nat.reduceEqDiff,Go.Addr.add,↓reduceIte] at hw168_1)
        have hw168_0:=hx168_0
        (try rw [show ((1:Int)).toNat = 1 from rfl] at hw168_0)
        (try rw [show 1 * 3 = 3 from rfl] at hw168_0)
        (try simp only [Nat.reduceMul,Nat.reduceEqDiff,Go.Addr.add,↓reduceIte] at hw168_0)
        obtain rfl:ad166 = ad168:=(by injection e168)
        (try simp only [show (1:Int).toNat = 1 from rfl,Nat.reduceMul,Nat.reduceEqDiff,Go.Addr.add,↓reduceIte] at hx168_0)
        (try simp only [show (1:Int).toNat = 1 from rfl,Nat.reduceMul,Nat.reduceEqDiff,Go.Addr.add,↓reduceIte] at hx168_1)
        (try simp only [show (1:Int).toNat = 1 from rfl,Nat.reduceMul,Nat.reduceEqDiff,Go.Addr.add,↓reduceIte] at hx168_2)
        have qi168:(1 < l0_2.length) = True:=eq_true (by omega)
        (try rw [show ((1:Int)).toNat = 1 from rfl] at hx168_0)
        (try rw [show 1 * 3 = 3 from rfl] at hx168_0)
        (try rw [show ((1:Int)).toNat = 1 from rfl] at hx168_1)
        (try rw [show 1 * 3 = 3 from rfl] at hx168_1)
        (try rw [show ((1:Int)).toNat = 1 from rfl] at hx168_2)
        (try rw [show 1 * 3 = 3 from rfl] at hx168_2)
        replace hx168_0:=(HB.out.cell (World.block_lt_of_cell? w _ hx168_0)).trans hx168_0
        replace hx168_1:=(HB.out.cell (World.block_lt_of_cell? w _ hx168_1)).trans hx168_1
        replace hx168_2:=(HB.out.cell (World.block_lt_of_cell? w _ hx168_2)).trans hx168_2
        have HR168_2:=Aside0.mk hi168_2
        have HC168_2:=Aside0.mk hl168_2
        clear hi168_2 hl168_2
        replace p168:=eq_true p168
        replace q168:=eq_true q168
        refine start_ (n:=15) (S:=fun w'=>w'.cell? ⟨gb165,0,none⟩ = some (.int .i64 a0_0)∧w'.cell? ⟨gb165,1,none⟩ = some (.int .i64 a0_1)∧w'.cell? ⟨gb165,2,none⟩ = some (.slice (some ad166) l0_2.length c0_2)∧w'.cell? ad166 = some (.int .i64 ((rd_T25 l0_2 0).f0))∧w'.cell? ⟨ad166.block,ad166.off + 1,none⟩ = some (.int .i64 ((rd_T25 l0_2 0).f1))∧w'.cell? ⟨ad166.block,ad166.off + 2,none⟩ = some (.slice A166_2 ((rd_T25 l0_2 0).f2).length c166_2)∧w'.cell? ⟨ad166.block,ad166.off + 3,none⟩ = some (.int .i64 ((rd_T25 l0_2 1).f0))∧w'.cell? ⟨ad166.block,ad166.off + 3 + 1,none⟩ = some (.int .i64 ((rd_T25 l0_2 1).f1))∧w'.cell? ⟨ad166.block,ad166.off + 3 + 2,none⟩ = some (.slice A168_2 ((rd_T25 l0_2 1).f2).length c168_2)) (ds:=[]) #[false,false,false,false,false,false,false,false,false,false,false,false,false,false,false] (by kernel_rfl) rfl rfl ⟨(blk_cell BK165.out 0).trans rfl,(blk_cell BK165.out 1).trans rfl,(blk_cell BK165.out 2).trans rfl,((HB.out.cell (World.block_lt_of_cell? w _ hw166_0)).trans hw166_0),((HB.out.cell (World.block_lt_of_cell? w _ hw166_1)).trans hw166_1),((HB.out.cell (World.block_lt_of_cell? w _ hw166_2)).trans hw166_2),((HB.out.cell (World.block_lt_of_cell? w _ hw168_0)).trans hw168_0),((HB.out.cell (World.block_lt_of_cell? w _ hw168_1)).trans hw168_1),((HB.out.cell (World.block_lt_of_cell? w _ hw168_2)).trans hw168_2)⟩ (fun hHeld=>?_);refine with_tabW impl_sealText.tab3 impl_sealText.bits3 (fun HT_ HW_=>?_)
        generalize w11.drew = w13 at BK165 HB HR166_2 HR168_2 hx166_0 hx166_1 hx166_2 hx168_0 hx168_1 hx168_2 hHeld ⊢
        refine pure_ (i:=0) (N:=some 7) (v:=?_) (a':=?_) #[true,false,false,false,false,false,false,false,false,false,false,false,false,false,false] rfl rfl (any_of HT_.out (by kernel_rfl)) (fun _ _ _ h=>h) (Or.inl ⟨by rfl,?_⟩) ?_ ?_
        rotate_left;·intro w';go_simp;with_reducible rfl
        rotate_left;·simp only [Act.put,List.setIfInBounds_toArray,List.set_cons_zero,List.set_cons_succ,i64_w,i32_w];rfl
        refine pure_ (i:=7) (N:=some 14) (v:=?_) (a':=?_) #[true,false,false,false,false,false,false,true,false,false,false,false,false,false,false] rfl rfl (any_of HT_.out (by kernel_rfl)) (fun _ _ _ h=>h) (Or.inl ⟨by rfl,?_⟩) ?_ ?_
        rotate_left;·intro w';go_simp;with_reducible rfl
        rotate_left;·simp only [Act.put,List.setIfInBounds_toArray,List.set_cons_zero,List.set_cons_succ,i64_w,i32_w];rfl
        refine take_ (i:=1) (N:=some 8) (v:=?_) (a':=?_) #[true,true,false,false,false,false,false,true,false,false,false,false,false,false,false] rfl rfl (take_ofW HT_.out HW_.out (by kernel_rfl)) (fun _ _ _ h=>h) (Or.inl ⟨by rfl,?_⟩) hHeld ?_ ?_
        rotate_left;·rintro w' ⟨s0,s1,s2,s3,s4,s5,s6,s7,s8⟩;go_simp;with_reducible rfl
        rotate_left;·simp only [Act.put,List.setIfInBounds_toArray,List.set_cons_zero,List.set_cons_succ,i64_w,i32_w];rfl
        refine pure_ (i:=2) (N:=some 9) (v:=?_) (a':=?_) #[true,true,true,false,false,false,false,true,false,false,false,false,false,false,false] rfl rfl (any_of HT_.out (by kernel_rfl)) (fun _ _ _ h=>h) (Or.inl ⟨by rfl,?_⟩) ?_ ?_
        rotate_left;·intro w';go_simp;with_reducible rfl
        rotate_left;·simp only [Act.put,List.setIfInBounds_toArray,List.set_cons_zero,List.set_cons_succ,i64_w,i32_w];rfl
        refine take_ (i:=3) (N:=some 10) (v:=?_) (a':=?_) #[true,true,true,true,false,false,false,true,false,false,false,false,false,false,false] rfl rfl (take_ofW HT_.out HW_.out (by kernel_rfl)) (fun _ _ _ h=>h) (Or.inl ⟨by rfl,?_⟩) hHeld ?_ ?_
        rotate_left;·rintro w' ⟨s0,s1,s2,s3,s4,s5,s6,s7,s8⟩;go_simp;with_reducible rfl
        rotate_left;·simp only [Act.put,List.setIfInBounds_toArray,List.set_cons_zero,List.set_cons_succ,i64_w,i32_w];rfl
        refine take_ (i:=8) (N:=some 15) (v:=?_) (a':=?_) #[true,true,true,true,false,false,false,true,true,false,false,false,false,false,false] rfl rfl (take_ofW HT_.out HW_.out (by kernel_rfl)) (fun _ _ _ h=>h) (Or.inl ⟨by rfl,?_⟩) hHeld ?_ ?_
        rotate_left;·rintro w' ⟨s0,s1,s2,s3,s4,s5,s6,s7,s8⟩;go_simp;with_reducible rfl
        rotate_left;·simp only [Act.put,List.setIfInBounds_toArray,List.set_cons_zero,List.set_cons_succ,i64_w,i32_w];rfl
        refine pure_ (i:=9) (N:=some 16) (v:=?_) (a':=?_) #[true,true,true,true,false,false,false,true,true,true,false,false,false,false,false] rfl rfl (any_of HT_.out (by kernel_rfl)) (fun _ _ _ h=>h) (Or.inl ⟨by rfl,?_⟩) ?_ ?_
        rotate_left;·intro w';go_simp;with_reducible rfl
        rotate_left;·simp only [Act.put,List.setIfInBounds_toArray,List.set_cons_zero,List.set_cons_succ,i64_w,i32_w];rfl
        refine take_ (i:=10) (N:=some 17) (v:=?_) (a':=?_) #[true,true,true,true,false,false,false,true,true,true,true,false,false,false,false] rfl rfl (take_ofW HT_.out HW_.out (by kernel_rfl)) (fun _ _ _ h=>h) (Or.inl ⟨by rfl,?_⟩) hHeld ?_ ?_
        rotate_left;·rintro w' ⟨s0,s1,s2,s3,s4,s5,s6,s7,s8⟩;go_simp;with_reducible rfl
        rotate_left;·simp only [Act.put,List.setIfInBounds_toArray,List.set_cons_zero,List.set_cons_succ,i64_w,i32_w];rfl
        refine one_ (i:=4) (N:=some 11) #[true,true,true,true,true,false,false,true,true,true,true,false,false,false,false] rfl rfl (one_of HT_.out (by kernel_rfl)) (by decide) (fun K hK=>?_)
        refine goes_ Tryd.func46 (by kernel_rfl) rfl #[.agg #[.int .i64 ((rd_T25 l0_2 0).f0),.int .i64 ((rd_T25 l0_2 0).f1),.slice A166_2 ((rd_T25 l0_2 0).f2).length c166_2]] (by rfl) rfl rfl (by (try simp only [List.map_toArray,List.map_cons,List.map_nil]);first | done | rfl | (simp only [List.length_drop,List.length_take];rfl)) ?_
        with_reducible refine (ih k (by omega) ((rd_T25 l0_2 0).f0) ((rd_T25 l0_2 0).f1) _ _ ((rd_T25 l0_2 0).f2) t167 _ ?side1 ?side2 A4.out).mono ?_
        (case side1=>repeat (first | exact (Kd.C_below HR166_2.out HB.out) | (with_reducible refine Kd.C_alloc ?_ _) | (with_reducible refine Kd.C_drewN ?_ _) | (with_reducible refine Kd.C_drew ?_)))
        (case side2=>exact HC166_2.out)
        rintro e w14 ⟨rfl,hb⟩
        refine ⟨_,rfl,?_⟩
        have n0_:=Aside0.mk (blk_below (g:=gb165) (o:=.cells #[.int .i64 a0_0,.int .i64 a0_1,.slice (some ad166) l0_2.length c0_2] 25 (0,0)) (by (with_reducible repeat (first | refine blk_drewN ?_ _ | refine blk_drew ?_ | refine blk_alloc ?_ _));exact BK165.out) hb)
        have n1_:=Aside0.mk (below_step (by repeat (first | (with_reducible first | exact HB.out | apply below_alloc | apply pw_below_drewN | apply below_drew1 | refine below_set ?_ GE165.out) | exact HB.out)) hb)
        clear BK165
        clear HB
        have BK165:=n0_
        have HB:=n1_
        clear n0_ n1_
        (try clear hb)
        (try clear hb2)
        (try clear hk)
        (try clear hi)
        refine hK.out _ _ ⟨(blk_cell BK165.out 0).trans rfl,(blk_cell BK165.out 1).trans rfl,(blk_cell BK165.out 2).trans rfl,((HB.out.cell (World.block_lt_of_cell? w _ hw166_0)).trans hw166_0),((HB.out.cell (World.block_lt_of_cell? w _ hw166_1)).trans hw166_1),((HB.out.cell (World.block_lt_of_cell? w _ hw166_2)).trans hw166_2),((HB.out.cell (World.block_lt_of_cell? w _ hw168_0)).trans hw168_0),((HB.out.cell (World.block_lt_of_cell? w _ hw168_1)).trans hw168_1),((HB.out.cell (World.block_lt_of_cell? w _ hw168_2)).trans hw168_2)⟩ (fun hHeld=>?_)
        clear hK K
        refine norm_ (a':=?_) ?_ ?_
        rotate_left
        ·show Act.put _ (some 11) _ = _
         simp only [Act.put,List.setIfInBounds_toArray,List.set_cons_zero,List.set_cons_succ,i64_w,i32_w]
         rfl
        refine pure_ (i:=5) (N:=some 12) (v:=?_) (a':=?_) #[true,true,true,true,true,true,false,true,true,true,true,false,false,false,false] rfl rfl (any_of HT_.out (by kernel_rfl)) (fun _ _ _ h=>h) (Or.inl ⟨by rfl,?_⟩) ?_ ?_
        rotate_left;·intro w';go_simp;with_reducible rfl
        rotate_left;·simp only [Act.put,List.setIfInBounds_toArray,List.set_cons_zero,List.set_cons_succ,i64_w,i32_w];rfl
        refine pure_ (i:=6) (N:=some 13) (v:=?_) (a':=?_) #[true,true,true,true,true,true,true,true,true,true,true,false,false,false,false] rfl rfl (any_of HT_.out (by kernel_rfl)) (fun _ _ _ h=>h) (Or.inl ⟨by rfl,?_⟩) ?_ ?_
        rotate_left;·intro w';go_simp;with_reducible rfl
        rotate_left;·simp only [Act.put,List.setIfInBounds_toArray,List.set_cons_zero,List.set_cons_succ,i64_w,i32_w];rfl
        refine one_ (i:=11) (N:=some 18) #[true,true,true,true,true,true,true,true,true,true,true,true,false,false,false] rfl rfl (one_of HT_.out (by kernel_rfl)) (by decide) (fun K hK=>?_)
        refine goes_ Tryd.func46 (by kernel_rfl) rfl #[.agg #[.int .i64 ((rd_T25 l0_2 1).f0),.int .i64 ((rd_T25 l0_2 1).f1),.slice A168_2 ((rd_T25 l0_2 1).f2).length c168_2]] (by rfl) rfl rfl (by (try simp only [List.map_toArray,List.map_cons,List.map_nil]);first | done | rfl | (simp only [List.length_drop,List.length_take];rfl)) ?_
        with_reducible refine (ih k (by omega) ((rd_T25 l0_2 1).f0) ((rd_T25 l0_2 1).f1) _ _ ((rd_T25 l0_2 1).f2) t169 _ ?side1 ?side2 A8.out).mono ?_
        (case side1=>repeat (first | exact (Kd.C_below HR168_2.out HB.out) | (with_reducible refine Kd.C_alloc ?_ _) | (with_reducible refine Kd.C_drewN ?_ _) | (with_reducible refine Kd.C_drew ?_)))
        (case side2=>exact HC168_2.out)
        rintro e w15 ⟨rfl,hb⟩
        refine ⟨_,rfl,?_⟩
        have n0_:=Aside0.mk (blk_below (g:=gb165) (o:=.cells #[.int .i64 a0_0,.int .i64 a0_1,.slice (some ad166) l0_2.length c0_2] 25 (0,0)) (by (with_reducible repeat (first | refine blk_drewN ?_ _ | refine blk_drew ?_ | refine blk_alloc ?_ _));exact BK165.out) hb)
        have n1_:=Aside0.mk (below_step (by repeat (first | (with_reducible first | exact HB.out | apply below_alloc | apply pw_below_drewN | apply below_drew1 | refine below_set ?_ GE165.out) | exact HB.out)) hb)
        clear BK165
        clear HB
        have BK165:=n0_
        have HB:=n1_
        clear n0_ n1_
        (try clear hb)
        (try clear hb2)
        (try clear hk)
        (try clear hi)
        refine hK.out _ _ ⟨(blk_cell BK165.out 0).trans rfl,(blk_cell BK165.out 1).trans rfl,(blk_cell BK165.out 2).trans rfl,((HB.out.cell (World.block_lt_of_cell? w _ hw166_0)).trans hw166_0),((HB.out.cell (World.block_lt_of_cell? w _ hw166_1)).trans hw166_1),((HB.out.cell (World.block_lt_of_cell? w _ hw166_2)).trans hw166_2),((HB.out.cell (World.block_lt_of_cell? w _ hw168_0)).trans hw168_0),((HB.out.cell (World.block_lt_of_cell? w _ hw168_1)).trans hw168_1),((HB.out.cell (World.block_lt_of_cell? w _ hw168_2)).trans hw168_2)⟩ (fun hHeld=>?_)
        clear hK K
        refine norm_ (a':=?_) ?_ ?_
        rotate_left
        ·show Act.put _ (some 18) _ = _
         simp only [Act.put,List.setIfInBounds_toArray,List.set_cons_zero,List.set_cons_succ,i64_w,i32_w]
         rfl
        refine pure_ (i:=12) (N:=some 19) (v:=?_) (a':=?_) #[true,true,true,true,true,true,true,true,true,true,true,true,true,false,false] rfl rfl (any_of HT_.out (by kernel_rfl)) (fun _ _ _ h=>h) (Or.inl ⟨by rfl,?_⟩) ?_ ?_
        rotate_left;·intro w';go_simp;with_reducible rfl
        rotate_left;·simp only [Act.put,List.setIfInBounds_toArray,List.set_cons_zero,List.set_cons_succ,i64_w,i32_w];rfl
        refine pure_ (i:=13) (N:=some 20) (v:=?_) (a':=?_) #[true,true,true,true,true,true,true,true,true,true,true,true,true,true,false] rfl rfl (any_of HT_.out (by kernel_rfl)) (fun _ _ _ h=>h) (Or.inl ⟨by rfl,?_⟩) ?_ ?_
        rotate_left;·intro w';go_simp;with_reducible rfl
        rotate_left;·simp only [Act.put,List.setIfInBounds_toArray,List.set_cons_zero,List.set_cons_succ,i64_w,i32_w];rfl
        refine pure_ (i:=14) (N:=some 2) (v:=?_) (a':=?_) #[true,true,true,true,true,true,true,true,true,true,true,true,true,true,true] rfl rfl (any_of HT_.out (by kernel_rfl)) (fun _ _ _ h=>h) (Or.inl ⟨by rfl,?_⟩) ?_ ?_
        rotate_left;·intro w';go_simp;with_reducible rfl
        rotate_left;·simp only [Act.put,List.setIfInBounds_toArray,List.set_cons_zero,List.set_cons_succ,i64_w,i32_w];rfl
        refine done_ (done_of HT_.out (by kernel_rfl)) ?_
        try go_wp2
        go_ret
        exact ⟨by first | rfl | (simp [errW_none,errW_some] <;> rfl) | (simp [*,errW_none,errW_some] <;> rfl),by repeat (first | (with_reducible first | exact HB.out | apply below_alloc | apply pw_below_drewN | apply below_drew1 | refine below_set ?_ GE165.out) | exact HB.out)⟩
       ·rw [if_neg c10] at H
        exact absurd H (by simp)
      ·rw [if_neg c9] at H
       exact absurd H (by simp)
     ·rw [if_neg c7] at H
      exact absurd H (by simp)
    ·rw [if_neg c6] at H
     exact absurd H (by simp)
   ·rw [if_neg c5] at H
    exact absurd H (by simp)
  ·rw [if_neg c3] at H
   exact absurd H (by simp)
 ·rw [if_neg c2] at H
  have c2b0:(a0_0 == 1) = false:=beq_eq_false_iff_ne.mpr c2
  have c2b1:(a0_0 != 1) = true:=bne_iff_ne.mpr c2
  by_cases c16:a0_0 = 2
  ·rw [if_pos c16] at H
   have c16b0:(a0_0 == 2) = true:=beq_iff_eq.mpr c16
   have c16b1:(a0_0 != 2) = false:=bne_eq_false_iff_eq.mpr c16
   clear c16
   by_cases c17:1 < (l0_2.length:Int)
   ·rw [if_pos c17] at H
    have c17b0:decide (1 < (l0_2.length:Int)) = true:=decide_eq_true c17
    have c17b1:decide (1 < l0_2.length) = true:=decide_eq_true (by omega)
    clear c17
    replace H:=Option.bind_eq_some_iff.mp H
    obtain ⟨t171,A180,H⟩:=H
    replace H:(if 1 + t171.size ≤ 9223372036854775807 then (if ((⟨#[123]⟩:ByteArray) ++ t171).size + 1 ≤ 9223372036854775807 then (if 0 < (l0_2.length:Int) then ((impl_sealText.f k ((rd_T25 l0_2 0).f0) ((rd_T25 l0_2 0).f1) ((rd_T25 l0_2 0).f2)).bind fun t173=>(if (((⟨#[123]⟩:ByteArray) ++ t171) ++ (⟨#[125]⟩:ByteArray)).size + t173.size ≤ 9223372036854775807 then (some ((((⟨#[123]⟩:ByteArray) ++ t171) ++ (⟨#[125]⟩:ByteArray)) ++ t173)) else (none))) else (none)) else (none)) else (none)) = some r:=H
    have A18:=Aside0.mk A180
    clear A180
    by_cases c19:1 + t171.size ≤ 9223372036854775807
    ·rw [if_pos c19] at H
     have c19b0:=eq_true c19
     have c19b1:decide (1 + t171.size ≤ 9223372036854775807) = true:=decide_eq_true c19
     try have c19b2:(9223372036854775807 < 1 + t171.size) = False:=eq_false (Nat.not_lt.2 c19)
     by_cases c20:((⟨#[123]⟩:ByteArray) ++ t171).size + 1 ≤ 9223372036854775807
     ·rw [if_pos c20] at H
      have c20b0:=eq_true c20
      have c20b1:decide (((⟨#[123]⟩:ByteArray) ++ t171).size + 1 ≤ 9223372036854775807) = true:=decide_eq_true c20
      try have c20b2:(9223372036854775807 < ((⟨#[123]⟩:ByteArray) ++ t171).size + 1) = False:=eq_false (Nat.not_lt.2 c20)
      try (have c20b3:=c20b2;simp only [ByteArray.size_append,show (⟨#[123]⟩:ByteArray).size = 1 from rfl] at c20b3)
      by_cases c21:0 < (l0_2.length:Int)
      ·rw [if_pos c21] at H
       have c21b0:decide (0 < (l0_2.length:Int)) = true:=decide_eq_true c21
       have c21b1:decide (0 < l0_2.length) = true:=decide_eq_true (by omega)
       clear c21
       replace H:=Option.bind_eq_some_iff.mp H
       obtain ⟨t173,A220,H⟩:=H
       replace H:(if (((⟨#[123]⟩:ByteArray) ++ t171) ++ (⟨#[125]⟩:ByteArray)).size + t173.size ≤ 9223372036854775807 then (some ((((⟨#[123]⟩:ByteArray) ++ t171) ++ (⟨#[125]⟩:ByteArray)) ++ t173)) else (none)) = some r:=H
       have A22:=Aside0.mk A220
       clear A220
       by_cases c23:(((⟨#[123]⟩:ByteArray) ++ t171) ++ (⟨#[125]⟩:ByteArray)).size + t173.size ≤ 9223372036854775807
       ·rw [if_pos c23] at H
        have c23b0:=eq_true c23
        have c23b1:decide ((((⟨#[123]⟩:ByteArray) ++ t171) ++ (⟨#[125]⟩:ByteArray)).size + t173.size ≤ 9223372036854775807) = true:=decide_eq_true c23
        try have c23b2:(9223372036854775807 < (((⟨#[123]⟩:ByteArray) ++ t171) ++ (⟨#[125]⟩:ByteArray)).size + t173.size) = False:=eq_false (Nat.not_lt.2 c23)
        try (have c23b3:=c23b2;simp only [ByteArray.size_append,show (⟨#[123]⟩:ByteArray).size = 1 from rfl,show (⟨#[125]⟩:ByteArray).size = 1 from rfl] at c23b3)
        obtain rfl:=Option.some.inj H
        go_enter Tryd.func46,Tryd.ntmps46
        try go_wp2_with (first | ((with_reducible refine gate_dst (N:=1) rfl ?_);refine box_event ?hg (N:=1) ?hd (cs:=#[.int .i64 a0_0,.int .i64 a0_1,.slice A0_2 l0_2.length c0_2]) (t:=25) ?hr ?_;(case hd=>rfl);(case hg=>rfl);(case hr=>first | (go_simp;done) | (go_simp;rfl));intro gb165 hg w24 hbox hb;have n0_:=Aside0.mk (below_step (by repeat (first | (with_reducible first | exact HB.out | apply below_alloc | apply pw_below_drewN | apply below_drew1) | exact HB.out)) hb);have n1_:=Aside0.mk (hbox);have n2_:=Aside0.mk ((by rw [hg];exact (below_size (by repeat (first | (with_reducible first | exact HB.out | apply below_alloc | apply pw_below_drewN | apply below_drew1) | exact HB.out))):w.heap.size ≤ gb165));have n3_:=Aside0.mk ((by rw [hg];exact (below_size (by repeat (first | (with_reducible first | exact HB.out | apply below_alloc | apply pw_below_drewN | apply below_drew1) | exact HB.out))):w.heap.size ≤ gb165));clear HB;have HB:=n0_;have BK165:=n1_;have GW165:=n2_;have GE165:=n3_;clear n0_ n1_ n2_ n3_;clear hb hbox hg;have hcz25_0:w24.cell? ⟨gb165,0,none⟩ = some (.int .i64 a0_0):=(blk_cell BK165.out 0).trans rfl;have hcz25_1:w24.cell? ⟨gb165,1,none⟩ = some (.int .i64 a0_1):=(blk_cell BK165.out 1).trans rfl;have hcz25_2:w24.cell? ⟨gb165,2,none⟩ = some (.slice A0_2 l0_2.length c0_2):=(blk_cell BK165.out 2).trans rfl;have hfz25_0:=blk_frozen BK165.out 0;have hfz25_1:=blk_frozen BK165.out 1;have hfz25_2:=blk_frozen BK165.out 2))
        have n0_:=Aside0.mk (blk_drew BK165.out)
        have n1_:=Aside0.mk (below_drew1 HB.out)
        clear BK165
        clear HB
        have BK165:=n0_
        have HB:=n1_
        clear n0_ n1_
        have p170:0 ≤ (1:Int):=(by omega)
        have q170:1 < (l0_2.length:Int):=of_decide_eq_true (by first | (with_reducible assumption) | assumption)
        obtain ⟨ad170,A170_2,c170_2,e170,hx170_0,hx170_1,hx170_2,hl170_2,hi170_2⟩:=at_T25 HR0_2.out 1 p170 q170
        have hw170_2:=hx170_2
        (try rw [show ((1:Int)).toNat = 1 from rfl] at hw170_2)
        (try rw [show 1 * 3 = 3 from rfl] at hw170_2)
        (try simp only [Nat.reduceMul,Nat.reduceEqDiff,Go.Addr.add,↓reduceIte] at hw170_2)
        have hw170_1:=hx170_1
        (try rw [show ((1:Int)).toNat = 1 from rfl] at hw170_1)
        (try rw [show 1 * 3 = 3 from rfl] at hw170_1)
        (try simp only [Nat.reduceMul,Nat.reduceEqDiff,Go.Addr.add,↓reduceIte] at hw170_1)
        have hw170_0:=hx170_0
        (try rw [show ((1:Int)).toNat = 1 from rfl] at hw170_0)
        (try rw [show 1 * 3 = 3 from rfl] at hw170_0)
        (try simp only [Nat.reduceMul,Nat.reduceEqDiff,Go.Addr.add,↓reduceIte] at hw170_0)
        cases e170
        (try simp only [show (1:Int).toNat = 1 from rfl,Nat.reduceMul,Nat.reduceEqDiff,Go.Addr.add,↓reduceIte] at hx170_0)
        (try simp only [show (1:Int).toNat = 1 from rfl,Nat.reduceMul,Nat.reduceEqDiff,Go.Addr.add,↓reduceIte] at hx170_1)
        (try simp only [show (1:Int).toNat = 1 from rfl,Nat.reduceMul,Nat.reduceEqDiff,Go.Addr.add,↓reduceIte] at hx170_2)
        have qi170:(1 < l0_2.length) = True:=eq_true (by omega)
        (try rw [show ((1:Int)).toNat = 1 from rfl] at hx170_0)
        (try rw [show 1 * 3 = 3 from rfl] at hx170_0)
        (try rw [show ((1:Int)).toNat = 1 from rfl] at hx170_1)
        (try rw [show 1 * 3 = 3 from rfl] at hx170_1)
        (try rw [show ((1:Int)).toNat = 1 from rfl] at hx170_2)
        (try rw [show 1 * 3 = 3 from rfl] at hx170_2)
        replace hx170_0:=(HB.out.cell (World.block_lt_of_cell? w _ hx170_0)).trans hx170_0
        replace hx170_1:=(HB.out.cell (World.block_lt_of_cell? w _ hx170_1)).trans hx170_1
        replace hx170_2:=(HB.out.cell (World.block_lt_of_cell? w _ hx170_2)).trans hx170_2
        have HR170_2:=Aside0.mk hi170_2
        have HC170_2:=Aside0.mk hl170_2
        clear hi170_2 hl170_2
        replace p170:=eq_true p170
        replace q170:=eq_true q170
        have p172:0 ≤ (0:Int):=(by omega)
        have q172:0 < (l0_2.length:Int):=of_decide_eq_true (by first | (with_reducible assumption) | assumption)
        obtain ⟨ad172,A172_2,c172_2,e172,hx172_0,hx172_1,hx172_2,hl172_2,hi172_2⟩:=at_T25 HR0_2.out 0 p172 q172
        have hw172_2:=hx172_2
        (try rw [show ((0:Int)).toNat = 0 from rfl] at hw172_2)
        (try rw [show 0 * 3 = 0 from rfl] at hw172_2)
        (try rw [Addr.add_zero'] at hw172_2)
        have hw172_1:=hx172_1
        (try rw [show ((0:Int)).toNat = 0 from rfl] at hw172_1)
        (try rw [show 0 * 3 = 0 from rfl] at hw172_1)
        (try rw [Addr.add_zero'] at hw172_1)
        have hw172_0:=hx172_0
        (try rw [show ((0:Int)).toNat = 0 from rfl] at hw172_0)
        (try rw [show 0 * 3 = 0 from rfl] at hw172_0)
        (try rw [Addr.add_zero'] at hw172_0)
        obtain rfl:ad170 = ad172:=(by injection e172)
        have qi172:(0 < l0_2.length) = True:=eq_true (by omega)
        (try rw [show ((0:Int)).toNat = 0 from rfl] at hx172_0)
        (try rw [show 0 * 3 = 0 from rfl] at hx172_0)
        (try rw [Addr.add_zero'] at hx172_0)
        (try rw [show ((0:Int)).toNat = 0 from rfl] at hx172_1)
        (try rw [show 0 * 3 = 0 from rfl] at hx172_1)
        (try rw [Addr.add_zero'] at hx172_1)
        (try rw [show ((0:Int)).toNat = 0 from rfl] at hx172_2)
        (try rw [show 0 * 3 = 0 from rfl] at hx172_2)
        (try rw [Addr.add_zero'] at hx172_2)
        replace hx172_0:=(HB.out.cell (World.block_lt_of_cell? w _ hx172_0)).trans hx172_0
        replace hx172_1:=(HB.out.cell (World.block_lt_of_cell? w _ hx172_1)).trans hx172_1
        replace hx172_2:=(HB.out.cell (World.block_lt_of_cell? w _ hx172_2)).trans hx172_2
        have HR172_2:=Aside0.mk hi172_2
        have HC172_2:=Aside0.mk hl172_2
        clear hi172_2 hl172_2
        replace p172:=eq_true p172
        replace q172:=eq_true q172
        refine start_ (n:=14) (S:=fun w'=>w'.cell? ⟨gb165,0,none⟩ = some (.int .i64 a0_0)∧w'.cell? ⟨gb165,1,none⟩ = some (.int .i64 a0_1)∧w'.cell? ⟨gb165,2,none⟩ = some (.slice (some ad170) l0_2.length c0_2)∧w'.cell? ⟨ad170.block,ad170.off + 3,none⟩ = some (.int .i64 ((rd_T25 l0_2 1).f0))∧w'.cell? ⟨ad170.block,ad170.off + 3 + 1,none⟩ = some (.int .i64 ((rd_T25 l0_2 1).f1))∧w'.cell? ⟨ad170.block,ad170.off + 3 + 2,none⟩ = some (.slice A170_2 ((rd_T25 l0_2 1).f2).length c170_2)∧w'.cell? ad170 = some (.int .i64 ((rd_T25 l0_2 0).f0))∧w'.cell? ⟨ad170.block,ad170.off + 1,none⟩ = some (.int .i64 ((rd_T25 l0_2 0).f1))∧w'.cell? ⟨ad170.block,ad170.off + 2,none⟩ = some (.slice A172_2 ((rd_T25 l0_2 0).f2).length c172_2)) (ds:=[]) #[false,false,false,false,false,false,false,false,false,false,false,false,false,false] (by kernel_rfl) rfl rfl ⟨(blk_cell BK165.out 0).trans rfl,(blk_cell BK165.out 1).trans rfl,(blk_cell BK165.out 2).trans rfl,((HB.out.cell (World.block_lt_of_cell? w _ hw170_0)).trans hw170_0),((HB.out.cell (World.block_lt_of_cell? w _ hw170_1)).trans hw170_1),((HB.out.cell (World.block_lt_of_cell? w _ hw170_2)).trans hw170_2),((HB.out.cell (World.block_lt_of_cell? w _ hw172_0)).trans hw172_0),((HB.out.cell (World.block_lt_of_cell? w _ hw172_1)).trans hw172_1),((HB.out.cell (World.block_lt_of_cell? w _ hw172_2)).trans hw172_2)⟩ (fun hHeld=>?_);refine with_tabW impl_sealText.tab5 impl_sealText.bits5 (fun HT_ HW_=>?_)
        generalize w24.drew = w26 at BK165 HB HR170_2 HR172_2 hx170_0 hx170_1 hx170_2 hx172_0 hx172_1 hx172_2 hHeld ⊢
        refine pure_ (i:=0) (N:=some 23) (v:=?_) (a':=?_) #[true,false,false,false,false,false,false,false,false,false,false,false,false,false] rfl rfl (any_of HT_.out (by kernel_rfl)) (fun _ _ _ h=>h) (Or.inl ⟨by rfl,?_⟩) ?_ ?_
        rotate_left;·intro w';go_simp;with_reducible rfl
        rotate_left;·simp only [Act.put,List.setIfInBounds_toArray,List.set_cons_zero,List.set_cons_succ,i64_w,i32_w];rfl
        refine pure_ (i:=7) (N:=some 30) (v:=?_) (a':=?_) #[true,false,false,false,false,false,false,true,false,false,false,false,false,false] rfl rfl (any_of HT_.out (by kernel_rfl)) (fun _ _ _ h=>h) (Or.inl ⟨by rfl,?_⟩) ?_ ?_
        rotate_left;·intro w';go_simp;with_reducible rfl
        rotate_left;·simp only [Act.put,List.setIfInBounds_toArray,List.set_cons_zero,List.set_cons_succ,i64_w,i32_w];rfl
        refine take_ (i:=1) (N:=some 24) (v:=?_) (a':=?_) #[true,true,false,false,false,false,false,true,false,false,false,false,false,false] rfl rfl (take_ofW HT_.out HW_.out (by kernel_rfl)) (fun _ _ _ h=>h) (Or.inl ⟨by rfl,?_⟩) hHeld ?_ ?_
        rotate_left;·rintro w' ⟨s0,s1,s2,s3,s4,s5,s6,s7,s8⟩;go_simp;with_reducible rfl
        rotate_left;·simp only [Act.put,List.setIfInBounds_toArray,List.set_cons_zero,List.set_cons_succ,i64_w,i32_w];rfl
        refine pure_ (i:=2) (N:=some 25) (v:=?_) (a':=?_) #[true,true,true,false,false,false,false,true,false,false,false,false,false,false] rfl rfl (any_of HT_.out (by kernel_rfl)) (fun _ _ _ h=>h) (Or.inl ⟨by rfl,?_⟩) ?_ ?_
        rotate_left;·intro w';go_simp;with_reducible rfl
        rotate_left;·simp only [Act.put,List.setIfInBounds_toArray,List.set_cons_zero,List.set_cons_succ,i64_w,i32_w];rfl
        refine take_ (i:=3) (N:=some 26) (v:=?_) (a':=?_) #[true,true,true,true,false,false,false,true,false,false,false,false,false,false] rfl rfl (take_ofW HT_.out HW_.out (by kernel_rfl)) (fun _ _ _ h=>h) (Or.inl ⟨by rfl,?_⟩) hHeld ?_ ?_
        rotate_left;·rintro w' ⟨s0,s1,s2,s3,s4,s5,s6,s7,s8⟩;go_simp;with_reducible rfl
        rotate_left;·simp only [Act.put,List.setIfInBounds_toArray,List.set_cons_zero,List.set_cons_succ,i64_w,i32_w];rfl
        refine take_ (i:=8) (N:=some 31) (v:=?_) (a':=?_) #[true,true,true,true,false,false,false,true,true,false,false,false,false,false] rfl rfl (take_ofW HT_.out HW_.out (by kernel_rfl)) (fun _ _ _ h=>h) (Or.inl ⟨by rfl,?_⟩) hHeld ?_ ?_
        rotate_left;·rintro w' ⟨s0,s1,s2,s3,s4,s5,s6,s7,s8⟩;go_simp;with_reducible rfl
        rotate_left;·simp only [Act.put,List.setIfInBounds_toArray,List.set_cons_zero,List.set_cons_succ,i64_w,i32_w];rfl
        refine pure_ (i:=9) (N:=some 32) (v:=?_) (a':=?_) #[true,true,true,true,false,false,false,true,true,true,false,false,false,false] rfl rfl (any_of HT_.out (by kernel_rfl)) (fun _ _ _ h=>h) (Or.inl ⟨by rfl,?_⟩) ?_ ?_
        rotate_left;·intro w';go_simp;with_reducible rfl
        rotate_left;·simp only [Act.put,List.setIfInBounds_toArray,List.set_cons_zero,List.set_cons_succ,i64_w,i32_w];rfl
        refine take_ (i:=10) (N:=some 33) (v:=?_) (a':=?_) #[true,true,true,true,false,false,false,true,true,true,true,false,false,false] rfl rfl (take_ofW HT_.out HW_.out (by kernel_rfl)) (fun _ _ _ h=>h) (Or.inl ⟨by rfl,?_⟩) hHeld ?_ ?_
        rotate_left;·rintro w' ⟨s0,s1,s2,s3,s4,s5,s6,s7,s8⟩;go_simp;with_reducible rfl
        rotate_left;·simp only [Act.put,List.setIfInBounds_toArray,List.set_cons_zero,List.set_cons_succ,i64_w,i32_w];rfl
        refine one_ (i:=4) (N:=some 27) #[true,true,true,true,true,false,false,true,true,true,true,false,false,false] rfl rfl (one_of HT_.out (by kernel_rfl)) (by decide) (fun K hK=>?_)
        refine goes_ Tryd.func46 (by kernel_rfl) rfl #[.agg #[.int .i64 ((rd_T25 l0_2 1).f0),.int .i64 ((rd_T25 l0_2 1).f1),.slice A170_2 ((rd_T25 l0_2 1).f2).length c170_2]] (by rfl) rfl rfl (by (try simp only [List.map_toArray,List.map_cons,List.map_nil]);first | done | rfl | (simp only [List.length_drop,List.length_take];rfl)) ?_
        with_reducible refine (ih k (by omega) ((rd_T25 l0_2 1).f0) ((rd_T25 l0_2 1).f1) _ _ ((rd_T25 l0_2 1).f2) t171 _ ?side1 ?side2 A18.out).mono ?_
        (case side1=>repeat (first | exact (Kd.C_below HR170_2.out HB.out) | (with_reducible refine Kd.C_alloc ?_ _) | (with_reducible refine Kd.C_drewN ?_ _) | (with_reducible refine Kd.C_drew ?_)))
        (case side2=>exact HC170_2.out)
        rintro e w27 ⟨rfl,hb⟩
        refine ⟨_,rfl,?_⟩
        have n0_:=Aside0.mk (blk_below (g:=gb165) (o:=.cells #[.int .i64 a0_0,.int .i64 a0_1,.slice (some ad170) l0_2.length c0_2] 25 (0,0)) (by (with_reducible repeat (first | refine blk_drewN ?_ _ | refine blk_drew ?_ | refine blk_alloc ?_ _));exact BK165.out) hb)
        have n1_:=Aside0.mk (below_step (by repeat (first | (with_reducible first | exact HB.out | apply below_alloc | apply pw_below_drewN | apply below_drew1 | refine below_set ?_ GE165.out) | exact HB.out)) hb)
        clear BK165
        clear HB
        have BK165:=n0_
        have HB:=n1_
        clear n0_ n1_
        (try clear hb)
        (try clear hb2)
        (try clear hk)
        (try clear hi)
        refine hK.out _ _ ⟨(blk_cell BK165.out 0).trans rfl,(blk_cell BK165.out 1).trans rfl,(blk_cell BK165.out 2).trans rfl,((HB.out.cell (World.block_lt_of_cell? w _ hw170_0)).trans hw170_0),((HB.out.cell (World.block_lt_of_cell? w _ hw170_1)).trans hw170_1),((HB.out.cell (World.block_lt_of_cell? w _ hw170_2)).trans hw170_2),((HB.out.cell (World.block_lt_of_cell? w _ hw172_0)).trans hw172_0),((HB.out.cell (World.block_lt_of_cell? w _ hw172_1)).trans hw172_1),((HB.out.cell (World.block_lt_of_cell? w _ hw172_2)).trans hw172_2)⟩ (fun hHeld=>?_)
        clear hK K
        refine norm_ (a':=?_) ?_ ?_
        rotate_left
        ·show Act.put _ (some 27) _ = _
         simp only [Act.put,List.setIfInBounds_toArray,List.set_cons_zero,List.set_cons_succ,i64_w,i32_w]
         rfl
        refine pure_ (i:=5) (N:=some 28) (v:=?_) (a':=?_) #[true,true,true,true,true,true,false,true,true,true,true,false,false,false] rfl rfl (any_of HT_.out (by kernel_rfl)) (fun _ _ _ h=>h) (Or.inl ⟨by rfl,?_⟩) ?_ ?_
        rotate_left;·intro w';go_simp;with_reducible rfl
        rotate_left;·simp only [Act.put,List.setIfInBounds_toArray,List.set_cons_zero,List.set_cons_succ,i64_w,i32_w];rfl
        refine pure_ (i:=6) (N:=some 29) (v:=?_) (a':=?_) #[true,true,true,true,true,true,true,true,true,true,true,false,false,false] rfl rfl (any_of HT_.out (by kernel_rfl)) (fun _ _ _ h=>h) (Or.inl ⟨by rfl,?_⟩) ?_ ?_
        rotate_left;·intro w';go_simp;with_reducible rfl
        rotate_left;·simp only [Act.put,List.setIfInBounds_toArray,List.set_cons_zero,List.set_cons_succ,i64_w,i32_w];rfl
        refine one_ (i:=11) (N:=some 34) #[true,true,true,true,true,true,true,true,true,true,true,true,false,false] rfl rfl (one_of HT_.out (by kernel_rfl)) (by decide) (fun K hK=>?_)
        refine goes_ Tryd.func46 (by kernel_rfl) rfl #[.agg #[.int .i64 ((rd_T25 l0_2 0).f0),.int .i64 ((rd_T25 l0_2 0).f1),.slice A172_2 ((rd_T25 l0_2 0).f2).length c172_2]] (by rfl) rfl rfl (by (try simp only [List.map_toArray,List.map_cons,List.map_nil]);first | done | rfl | (simp only [List.length_drop,List.length_take];rfl)) ?_
        with_reducible refine (ih k (by omega) ((rd_T25 l0_2 0).f0) ((rd_T25 l0_2 0).f1) _ _ ((rd_T25 l0_2 0).f2) t173 _ ?side1 ?side2 A22.out).mono ?_
        (case side1=>repeat (first | exact (Kd.C_below HR172_2.out HB.out) | (with_reducible refine Kd.C_alloc ?_ _) | (with_reducible refine Kd.C_drewN ?_ _) | (with_reducible refine Kd.C_drew ?_)))
        (case side2=>exact HC172_2.out)
        rintro e w28 ⟨rfl,hb⟩
        refine ⟨_,rfl,?_⟩
        have n0_:=Aside0.mk (blk_below (g:=gb165) (o:=.cells #[.int .i64 a0_0,.int .i64 a0_1,.slice (some ad170) l0_2.length c0_2] 25 (0,0)) (by (with_reducible repeat (first | refine blk_drewN ?_ _ | refine blk_drew ?_ | refine blk_alloc ?_ _));exact BK165.out) hb)
        have n1_:=Aside0.mk (below_step (by repeat (first | (with_reducible first | exact HB.out | apply below_alloc | apply pw_below_drewN | apply below_drew1 | refine below_set ?_ GE165.out) | exact HB.out)) hb)
        clear BK165
        clear HB
        have BK165:=n0_
        have HB:=n1_
        clear n0_ n1_
        (try clear hb)
        (try clear hb2)
        (try clear hk)
        (try clear hi)
        refine hK.out _ _ ⟨(blk_cell BK165.out 0).trans rfl,(blk_cell BK165.out 1).trans rfl,(blk_cell BK165.out 2).trans rfl,((HB.out.cell (World.block_lt_of_cell? w _ hw170_0)).trans hw170_0),((HB.out.cell (World.block_lt_of_cell? w _ hw170_1)).trans hw170_1),((HB.out.cell (World.block_lt_of_cell? w _ hw170_2)).trans hw170_2),((HB.out.cell (World.block_lt_of_cell? w _ hw172_0)).trans hw172_0),((HB.out.cell (World.block_lt_of_cell? w _ hw172_1)).trans hw172_1),((HB.out.cell (World.block_lt_of_cell? w _ hw172_2)).trans hw172_2)⟩ (fun hHeld=>?_)
        clear hK K
        refine norm_ (a':=?_) ?_ ?_
        rotate_left
        ·show Act.put _ (some 34) _ = _
         simp only [Act.put,List.setIfInBounds_toArray,List.set_cons_zero,List.set_cons_succ,i64_w,i32_w]
         rfl
        refine pure_ (i:=12) (N:=some 35) (v:=?_) (a':=?_) #[true,true,true,true,true,true,true,true,true,true,true,true,true,false] rfl rfl (any_of HT_.out (by kernel_rfl)) (fun _ _ _ h=>h) (Or.inl ⟨by rfl,?_⟩) ?_ ?_
        rotate_left;·intro w';go_simp;with_reducible rfl
        rotate_left;·simp only [Act.put,List.setIfInBounds_toArray,List.set_cons_zero,List.set_cons_succ,i64_w,i32_w];rfl
        refine pure_ (i:=13) (N:=some 2) (v:=?_) (a':=?_) #[true,true,true,true,true,true,true,true,true,true,true,true,true,true] rfl rfl (any_of HT_.out (by kernel_rfl)) (fun _ _ _ h=>h) (Or.inl ⟨by rfl,?_⟩) ?_ ?_
        rotate_left;·intro w';go_simp;with_reducible rfl
        rotate_left;·simp only [Act.put,List.setIfInBounds_toArray,List.set_cons_zero,List.set_cons_succ,i64_w,i32_w];rfl
        refine done_ (done_of HT_.out (by kernel_rfl)) ?_
        try go_wp2
        go_ret
        exact ⟨by first | rfl | (simp [errW_none,errW_some] <;> rfl) | (simp [*,errW_none,errW_some] <;> rfl),by repeat (first | (with_reducible first | exact HB.out | apply below_alloc | apply pw_below_drewN | apply below_drew1 | refine below_set ?_ GE165.out) | exact HB.out)⟩
       ·rw [if_neg c23] at H
        exact absurd H (by simp)
      ·rw [if_neg c21] at H
       exact absurd H (by simp)
     ·rw [if_neg c20] at H
      exact absurd H (by simp)
    ·rw [if_neg c19] at H
     exact absurd H (by simp)
   ·rw [if_neg c17] at H
    exact absurd H (by simp)
  ·rw [if_neg c16] at H
   have c16b0:(a0_0 == 2) = false:=beq_eq_false_iff_ne.mpr c16
   have c16b1:(a0_0 != 2) = true:=bne_iff_ne.mpr c16
   replace H:=Option.bind_eq_some_iff.mp H
   obtain ⟨t174,A290,H⟩:=H
   replace H:(if 1 + t174.size ≤ 9223372036854775807 then (some ((⟨#[109]⟩:ByteArray) ++ t174)) else (none)) = some r:=H
   have A29:=Aside0.mk A290
   clear A290
   by_cases c30:1 + t174.size ≤ 9223372036854775807
   ·rw [if_pos c30] at H
    have c30b0:=eq_true c30
    have c30b1:decide (1 + t174.size ≤ 9223372036854775807) = true:=decide_eq_true c30
    try have c30b2:(9223372036854775807 < 1 + t174.size) = False:=eq_false (Nat.not_lt.2 c30)
    obtain rfl:=Option.some.inj H
    go_enter Tryd.func46,Tryd.ntmps46
    go_wp2_with (first | ((with_reducible refine gate_dst (N:=1) rfl ?_);refine box_event ?hg (N:=1) ?hd (cs:=#[.int .i64 a0_0,.int .i64 a0_1,.slice A0_2 l0_2.length c0_2]) (t:=25) ?hr ?_;(case hd=>rfl);(case hg=>rfl);(case hr=>first | (go_simp;done) | (go_simp;rfl));intro gb165 hg w31 hbox hb;have n0_:=Aside0.mk (below_step (by repeat (first | (with_reducible first | exact HB.out | apply below_alloc | apply pw_below_drewN | apply below_drew1) | exact HB.out)) hb);have n1_:=Aside0.mk (hbox);have n2_:=Aside0.mk ((by rw [hg];exact (below_size (by repeat (first | (with_reducible first | exact HB.out | apply below_alloc | apply pw_below_drewN | apply below_drew1) | exact HB.out))):w.heap.size ≤ gb165));have n3_:=Aside0.mk ((by rw [hg];exact (below_size (by repeat (first | (with_reducible first | exact HB.out | apply below_alloc | apply pw_below_drewN | apply below_drew1) | exact HB.out))):w.heap.size ≤ gb165));clear HB;have HB:=n0_;have BK165:=n1_;have GW165:=n2_;have GE165:=n3_;clear n0_ n1_ n2_ n3_;clear hb hbox hg;have hcz32_0:w31.cell? ⟨gb165,0,none⟩ = some (.int .i64 a0_0):=(blk_cell BK165.out 0).trans rfl;have hcz32_1:w31.cell? ⟨gb165,1,none⟩ = some (.int .i64 a0_1):=(blk_cell BK165.out 1).trans rfl;have hcz32_2:w31.cell? ⟨gb165,2,none⟩ = some (.slice A0_2 l0_2.length c0_2):=(blk_cell BK165.out 2).trans rfl;have hfz32_0:=blk_frozen BK165.out 0;have hfz32_1:=blk_frozen BK165.out 1;have hfz32_2:=blk_frozen BK165.out 2) | ((with_reducible refine gate_callee (f:=59) rfl ?_);refine goesL_ (some 38) rfl rfl Tryd.func59 (by kernel_rfl) rfl #[.int .i64 a0_1] rfl (by (try simp only [List.map_toArray,List.map_cons,List.map_nil]);first | done | rfl | (simp only [List.length_drop,List.length_take];rfl)) ?_;(with_reducible refine (strconv_Itoa_59.calls a0_1 t174 _ A29.out).mono ?_);rintro e w33 ⟨rfl,hb⟩;refine ⟨_,rfl,?_⟩;have n0_:=Aside0.mk (blk_below (g:=gb165) (o:=.cells #[.int .i64 a0_0,.int .i64 a0_1,.slice A0_2 l0_2.length c0_2] 25 (0,0)) (by (with_reducible repeat (first | refine blk_drewN ?_ _ | refine blk_drew ?_ | refine blk_alloc ?_ _));exact BK165.out) hb);have n1_:=Aside0.mk (below_step (by repeat (first | (with_reducible first | exact HB.out | apply below_alloc | apply pw_below_drewN | apply below_drew1 | refine below_set ?_ GE165.out) | exact HB.out)) hb);clear BK165;clear HB;have BK165:=n0_;have HB:=n1_;clear n0_ n1_;(try clear hb);(try clear hb2);(try clear hk);(try clear hi)))
    go_ret
    exact ⟨by first | rfl | (simp [errW_none,errW_some] <;> rfl) | (simp [*,errW_none,errW_some] <;> rfl),by repeat (first | (with_reducible first | exact HB.out | apply below_alloc | apply pw_below_drewN | apply below_drew1 | refine below_set ?_ GE165.out) | exact HB.out)⟩
   ·rw [if_neg c30] at H
    exact absurd H (by simp)
def impl_SealText.f (k:Nat) (a0_0:Int) (a0_1:Int) (l0_2:List (S25)):Option (ByteArray):=(impl_SealOk.f k a0_0 a0_1 l0_2).bind fun t176=>(if t176 = true then ((impl_sealText.f k a0_0 a0_1 l0_2).bind fun t177=>(some t177)) else (some (⟨#[]⟩:ByteArray)))
theorem impl_SealText.mono:∀ a0 a1 a2 k,LeO (impl_SealText.f k a0 a1 a2) (impl_SealText.f (k + 1) a0 a1 a2):=by
 intro a0 a1 a2 k
 unfold impl_SealText.f
 repeat' first
   | (with_reducible exact impl_SealOk.mono _ _ _ _)
   | (with_reducible exact impl_sealText.mono _ _ _ _)
   | (with_reducible exact LeO.refl _)
   | (with_reducible exact LeO.none _)
   | (with_reducible refine LeO.ite ?_ ?_)
   | (with_reducible refine LeO.bind ?_ (fun _=>?_))
   | exact impl_SealOk.mono _ _ _ _
   | exact impl_sealText.mono _ _ _ _
   | exact LeO.none _
   | refine LeO.ite ?_ ?_
   | refine LeO.bind ?_ (fun _=>?_)
set_option maxHeartbeats 8000000 in
set_option maxRecDepth 100000 in
theorem impl_SealText.calls (k:Nat) (a0_0:Int) (a0_1:Int) (A0_2:Option Addr) (c0_2:Nat) (l0_2:List (S25)) (r:ByteArray) (w:World) (hr0_2:Kd.C k25 w A0_2 l0_2.length l0_2) (hc0_2:l0_2.length ≤ c0_2) (h:impl_SealText.f k a0_0 a0_1 l0_2 = some r) :
  Calls Tryd.prog 16 #[.agg #[.int .i64 a0_0,.int .i64 a0_1,.slice A0_2 l0_2.length c0_2]] w fun e w'=>e = .returned (.string r)∧Below w.heap.size w w':=by
 have hu25:=Tryd.underlying25
 have HR0_2:=Aside0.mk hr0_2
 have HC0_2:=Aside0.mk hc0_2
 clear hr0_2 hc0_2
 have HB:=Aside0.mk (Below.refl w.heap.size w)
 have H:((impl_SealOk.f k a0_0 a0_1 l0_2).bind fun t176=>(if t176 = true then ((impl_sealText.f k a0_0 a0_1 l0_2).bind fun t177=>(some t177)) else (some (⟨#[]⟩:ByteArray)))) = some r:=h
 clear h
 replace H:=Option.bind_eq_some_iff.mp H
 obtain ⟨t176,A20,H⟩:=H
 replace H:(if t176 = true then ((impl_sealText.f k a0_0 a0_1 l0_2).bind fun t177=>(some t177)) else (some (⟨#[]⟩:ByteArray))) = some r:=H
 have A2:=Aside0.mk A20
 clear A20
 by_cases c3:t176 = true
 ·subst c3
  have H1:((impl_sealText.f k a0_0 a0_1 l0_2).bind fun t177=>(some t177)) = some r:=by rw [if_pos rfl] at H;exact H
  clear H
  have H:=H1
  clear H1
  replace H:=Option.bind_eq_some_iff.mp H
  obtain ⟨t177,A40,H⟩:=H
  replace H:(some t177) = some r:=H
  have A4:=Aside0.mk A40
  clear A40
  obtain rfl:=Option.some.inj H
  go_enter Tryd.func16,Tryd.ntmps16
  go_wp2_with (first | ((with_reducible refine gate_dst (N:=1) rfl ?_);refine box_event ?hg (N:=1) ?hd (cs:=#[.int .i64 a0_0,.int .i64 a0_1,.slice A0_2 l0_2.length c0_2]) (t:=25) ?hr ?_;(case hd=>rfl);(case hg=>rfl);(case hr=>first | (go_simp;done) | (go_simp;rfl));intro gb175 hg w5 hbox hb;have n0_:=Aside0.mk (below_step (by repeat (first | (with_reducible first | exact HB.out | apply below_alloc | apply pw_below_drewN | apply below_drew1) | exact HB.out)) hb);have n1_:=Aside0.mk (hbox);have n2_:=Aside0.mk ((by rw [hg];exact (below_size (by repeat (first | (with_reducible first | exact HB.out | apply below_alloc | apply pw_below_drewN | apply below_drew1) | exact HB.out))):w.heap.size ≤ gb175));have n3_:=Aside0.mk ((by rw [hg];exact (below_size (by repeat (first | (with_reducible first | exact HB.out | apply below_alloc | apply pw_below_drewN | apply below_drew1) | exact HB.out))):w.heap.size ≤ gb175));clear HB;have HB:=n0_;have BK175:=n1_;have GW175:=n2_;have GE175:=n3_;clear n0_ n1_ n2_ n3_;clear hb hbox hg;have hcz6_0:w5.cell? ⟨gb175,0,none⟩ = some (.int .i64 a0_0):=(blk_cell BK175.out 0).trans rfl;have hcz6_1:w5.cell? ⟨gb175,1,none⟩ = some (.int .i64 a0_1):=(blk_cell BK175.out 1).trans rfl;have hcz6_2:w5.cell? ⟨gb175,2,none⟩ = some (.slice A0_2 l0_2.length c0_2):=(blk_cell BK175.out 2).trans rfl;have hfz6_0:=blk_frozen BK175.out 0;have hfz6_1:=blk_frozen BK175.out 1;have hfz6_2:=blk_frozen BK175.out 2) | ((with_reducible refine gate_callee (f:=14) rfl ?_);refine goesL_ (some 4) rfl rfl Tryd.func14 (by kernel_rfl) rfl #[.agg #[.int .i64 a0_0,.int .i64 a0_1,.slice A0_2 l0_2.length c0_2]] rfl (by (try simp only [List.map_toArray,List.map_cons,List.map_nil]);first | done | rfl | (simp only [List.length_drop,List.length_take];rfl)) ?_;(with_reducible refine (impl_SealOk.calls k a0_0 a0_1 _ _ l0_2 true _ ?side1 ?side2 A2.out).mono ?_);(case side1=>repeat (first | exact (Kd.C_below HR0_2.out HB.out) | (with_reducible refine Kd.C_alloc ?_ _) | (with_reducible refine Kd.C_drewN ?_ _) | (with_reducible refine Kd.C_drew ?_)));(case side2=>exact HC0_2.out);rintro e w7 ⟨rfl,hb⟩;refine ⟨_,rfl,?_⟩;have n0_:=Aside0.mk (blk_below (g:=gb175) (o:=.cells #[.int .i64 a0_0,.int .i64 a0_1,.slice A0_2 l0_2.length c0_2] 25 (0,0)) (by (with_reducible repeat (first | refine blk_drewN ?_ _ | refine blk_drew ?_ | refine blk_alloc ?_ _));exact BK175.out) hb);have n1_:=Aside0.mk (below_step (by repeat (first | (with_reducible first | exact HB.out | apply below_alloc | apply pw_below_drewN | apply below_drew1 | refine below_set ?_ GE175.out) | exact HB.out)) hb);clear BK175;clear HB;have BK175:=n0_;have HB:=n1_;clear n0_ n1_;(try clear hb);(try clear hb2);(try clear hk);(try clear hi);have hcz8_0:w7.cell? ⟨gb175,0,none⟩ = some (.int .i64 a0_0):=(blk_cell BK175.out 0).trans rfl;have hcz8_1:w7.cell? ⟨gb175,1,none⟩ = some (.int .i64 a0_1):=(blk_cell BK175.out 1).trans rfl;have hcz8_2:w7.cell? ⟨gb175,2,none⟩ = some (.slice A0_2 l0_2.length c0_2):=(blk_cell BK175.out 2).trans rfl;have hfz8_0:=blk_frozen BK175.out 0;have hfz8_1:=blk_frozen BK175.out 1;have hfz8_2:=blk_frozen BK175.out 2) | ((with_reducible refine gate_callee (f:=46) rfl ?_);refine goesL_ (some 7) rfl rfl Tryd.func46 (by kernel_rfl) rfl #[.agg #[.int .i64 a0_0,.int .i64 a0_1,.slice A0_2 l0_2.length c0_2]] rfl (by (try simp only [List.map_toArray,List.map_cons,List.map_nil]);first | done | rfl | (simp only [List.length_drop,List.length_take];rfl)) ?_;(with_reducible refine (impl_sealText.calls k a0_0 a0_1 _ _ l0_2 t177 _ ?side1 ?side2 A4.out).mono ?_);(case side1=>repeat (first | exact (Kd.C_below HR0_2.out HB.out) | (with_reducible refine Kd.C_alloc ?_ _) | (with_reducible refine Kd.C_drewN ?_ _) | (with_reducible refine Kd.C_drew ?_)));(case side2=>exact HC0_2.out);rintro e w9 ⟨rfl,hb⟩;refine ⟨_,rfl,?_⟩;have n0_:=Aside0.mk (blk_below (g:=gb175) (o:=.cells #[.int .i64 a0_0,.int .i64 a0_1,.slice A0_2 l0_2.length c0_2] 25 (0,0)) (by (with_reducible repeat (first | refine blk_drewN ?_ _ | refine blk_drew ?_ | refine blk_alloc ?_ _));exact BK175.out) hb);have n1_:=Aside0.mk (below_step (by repeat (first | (with_reducible first | exact HB.out | apply below_alloc | apply pw_below_drewN | apply below_drew1 | refine below_set ?_ GE175.out) | exact HB.out)) hb);clear BK175;clear HB;have BK175:=n0_;have HB:=n1_;clear n0_ n1_;(try clear hb);(try clear hb2);(try clear hk);(try clear hi)))
  go_ret
  exact ⟨by first | rfl | (simp [errW_none,errW_some] <;> rfl) | (simp [*,errW_none,errW_some] <;> rfl),by repeat (first | (with_reducible first | exact HB.out | apply below_alloc | apply pw_below_drewN | apply below_drew1 | refine below_set ?_ GE175.out) | exact HB.out)⟩
 ·replace c3:=Bool.eq_false_iff.mpr c3
  subst c3
  have H1:(some (⟨#[]⟩:ByteArray)) = some r:=by rw [if_neg (show ¬ (false = true) by decide)] at H;exact H
  clear H
  have H:=H1
  clear H1
  obtain rfl:=Option.some.inj H
  go_enter Tryd.func16,Tryd.ntmps16
  go_wp2_with (first | ((with_reducible refine gate_dst (N:=1) rfl ?_);refine box_event ?hg (N:=1) ?hd (cs:=#[.int .i64 a0_0,.int .i64 a0_1,.slice A0_2 l0_2.length c0_2]) (t:=25) ?hr ?_;(case hd=>rfl);(case hg=>rfl);(case hr=>first | (go_simp;done) | (go_simp;rfl));intro gb175 hg w10 hbox hb;have n0_:=Aside0.mk (below_step (by repeat (first | (with_reducible first | exact HB.out | apply below_alloc | apply pw_below_drewN | apply below_drew1) | exact HB.out)) hb);have n1_:=Aside0.mk (hbox);have n2_:=Aside0.mk ((by rw [hg];exact (below_size (by repeat (first | (with_reducible first | exact HB.out | apply below_alloc | apply pw_below_drewN | apply below_drew1) | exact HB.out))):w.heap.size ≤ gb175));have n3_:=Aside0.mk ((by rw [hg];exact (below_size (by repeat (first | (with_reducible first | exact HB.out | apply below_alloc | apply pw_below_drewN | apply below_drew1) | exact HB.out))):w.heap.size ≤ gb175));clear HB;have HB:=n0_;have BK175:=n1_;have GW175:=n2_;have GE175:=n3_;clear n0_ n1_ n2_ n3_;clear hb hbox hg;have hcz11_0:w10.cell? ⟨gb175,0,none⟩ = some (.int .i64 a0_0):=(blk_cell BK175.out 0).trans rfl;have hcz11_1:w10.cell? ⟨gb175,1,none⟩ = some (.int .i64 a0_1):=(blk_cell BK175.out 1).trans rfl;have hcz11_2:w10.cell? ⟨gb175,2,none⟩ = some (.slice A0_2 l0_2.length c0_2):=(blk_cell BK175.out 2).trans rfl;have hfz11_0:=blk_frozen BK175.out 0;have hfz11_1:=blk_frozen BK175.out 1;have hfz11_2:=blk_frozen BK175.out 2) | ((with_reducible refine gate_callee (f:=14) rfl ?_);refine goesL_ (some 4) rfl rfl Tryd.func14 (by kernel_rfl) rfl #[.agg #[.int .i64 a0_0,.int .i64 a0_1,.slice A0_2 l0_2.length c0_2]] rfl (by (try simp only [List.map_toArray,List.map_cons,List.map_nil]);first | done | rfl | (simp only [List.length_drop,List.length_take];rfl)) ?_;(with_reducible refine (impl_SealOk.calls k a0_0 a0_1 _ _ l0_2 false _ ?side1 ?side2 A2.out).mono ?_);(case side1=>repeat (first | exact (Kd.C_below HR0_2.out HB.out) | (with_reducible refine Kd.C_alloc ?_ _) | (with_reducible refine Kd.C_drewN ?_ _) | (with_reducible refine Kd.C_drew ?_)));(case side2=>exact HC0_2.out);rintro e w12 ⟨rfl,hb⟩;refine ⟨_,rfl,?_⟩;have n0_:=Aside0.mk (blk_below (g:=gb175) (o:=.cells #[.int .i64 a0_0,.int .i64 a0_1,.slice A0_2 l0_2.length c0_2] 25 (0,0)) (by (with_reducible repeat (first | refine blk_drewN ?_ _ | refine blk_drew ?_ | refine blk_alloc ?_ _));exact BK175.out) hb);have n1_:=Aside0.mk (below_step (by repeat (first | (with_reducible first | exact HB.out | apply below_alloc | apply pw_below_drewN | apply below_drew1 | refine below_set ?_ GE175.out) | exact HB.out)) hb);clear BK175;clear HB;have BK175:=n0_;have HB:=n1_;clear n0_ n1_;(try clear hb);(try clear hb2);(try clear hk);(try clear hi)))
  go_ret
  exact ⟨by first | rfl | (simp [errW_none,errW_some] <;> rfl) | (simp [*,errW_none,errW_some] <;> rfl),by repeat (first | (with_reducible first | exact HB.out | apply below_alloc | apply pw_below_drewN | apply below_drew1 | refine below_set ?_ GE175.out) | exact HB.out)⟩
end Go.Proofs.YtbcjpdahdecehaaDoor.P
