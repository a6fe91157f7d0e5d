/- What the Go functions that the laws reach compute, and that their calls come to just that: told by a program of this session (aprint.py). No condition. -/
import Derived.Test.YtbcjpdahdecehaaDoorP0
import Derived.Test.YtbcjpdahdecehaaDoorP1
import Derived.Test.YtbcjpdahdecehaaDoorP3
import Derived.Test.YtbcjpdahdecehaaDoorHUnder
namespace Go.Proofs.YtbcjpdahdecehaaDoor.P
open Go.RowKit Go.Proofs.YtbcjpdahdecehaaDoorW.PrintWords Go.Proofs.YtbcjpdahdecehaaDoorW.PrintLast Go.Proofs.YtbcjpdahdecehaaDoorW.PrintMore
attribute [local go_sem] max2_int min2_int max_two min_two max_three min_three max_four min_four
set_option linter.unusedVariables false
set_option linter.unusedSimpArgs false
def impl_SealUnder.f (k:Nat) (a0_0:Int) (a0_1:Int) (l0_2:List (S25)) (a1_0:Int) (a1_1:Int) (l1_2:List (S25)):Option (Bool):=(impl_SealOk.f k a0_0 a0_1 l0_2).bind fun t180=>(if t180 = true then ((impl_SealOk.f k a1_0 a1_1 l1_2).bind fun t181=>(if t181 = true then ((impl_under.f k a0_0 a0_1 l0_2 a1_0 a1_1 l1_2).bind fun t182=>(some t182)) else (some false))) else (some false))
theorem impl_SealUnder.mono:∀ a0 a1 a2 a3 a4 a5 k,LeO (impl_SealUnder.f k a0 a1 a2 a3 a4 a5) (impl_SealUnder.f (k + 1) a0 a1 a2 a3 a4 a5):=by
 intro a0 a1 a2 a3 a4 a5 k
 unfold impl_SealUnder.f
 repeat' first
   | (with_reducible exact impl_SealOk.mono _ _ _ _)
   | (with_reducible exact impl_under.mono _ _ _ _ _ _ _)
   | (with_reducible exact LeO.refl _)
   | (with_reducible exact LeO.none _)
   | (with_reducible refine LeO.ite ?_ ?_)
   | (with_reducible refine LeO.bind ?_ (fun _=>?_))
   | exact impl_SealOk.mono _ _ _ _
   | exact impl_under.mono _ _ _ _ _ _ _
   | exact LeO.none _
   | refine LeO.ite ?_ ?_
   | refine LeO.bind ?_ (fun _=>?_)
set_option maxHeartbeats 8000000 in
set_option maxRecDepth 100000 in
theorem impl_SealUnder.calls (k:Nat) (a0_0:Int) (a0_1:Int) (A0_2:Option Addr) (c0_2:Nat) (l0_2:List (S25)) (a1_0:Int) (a1_1:Int) (A1_2:Option Addr) (c1_2:Nat) (l1_2:List (S25)) (r:Bool) (w:World) (hr0_2:Kd.C k25 w A0_2 l0_2.length l0_2) (hc0_2:l0_2.length ≤ c0_2) (hr1_2:Kd.C k25 w A1_2 l1_2.length l1_2) (hc1_2:l1_2.length ≤ c1_2) (h:impl_SealUnder.f k a0_0 a0_1 l0_2 a1_0 a1_1 l1_2 = some r) :
  Calls Tryd.prog 17 #[.agg #[.int .i64 a0_0,.int .i64 a0_1,.slice A0_2 l0_2.length c0_2],.agg #[.int .i64 a1_0,.int .i64 a1_1,.slice A1_2 l1_2.length c1_2]] w fun e w'=>e = .returned (.bool r)∧Below w.heap.size w w':=by
 have hu25:=Tryd.underlying25
 have HR0_2:=Aside0.mk hr0_2
 have HC0_2:=Aside0.mk hc0_2
 clear hr0_2 hc0_2
 have HR1_2:=Aside0.mk hr1_2
 have HC1_2:=Aside0.mk hc1_2
 clear hr1_2 hc1_2
 have HB:=Aside0.mk (Below.refl w.heap.size w)
 have H:((impl_SealOk.f k a0_0 a0_1 l0_2).bind fun t180=>(if t180 = true then ((impl_SealOk.f k a1_0 a1_1 l1_2).bind fun t181=>(if t181 = true then ((impl_under.f k a0_0 a0_1 l0_2 a1_0 a1_1 l1_2).bind fun t182=>(some t182)) else (some false))) else (some false))) = some r:=h
 clear h
 replace H:=Option.bind_eq_some_iff.mp H
 obtain ⟨t180,A30,H⟩:=H
 replace H:(if t180 = true then ((impl_SealOk.f k a1_0 a1_1 l1_2).bind fun t181=>(if t181 = true then ((impl_under.f k a0_0 a0_1 l0_2 a1_0 a1_1 l1_2).bind fun t182=>(some t182)) else (some false))) else (some false)) = some r:=H
 have A3:=Aside0.mk A30
 clear A30
 by_cases c4:t180 = true
 ·subst c4
  have H1:((impl_SealOk.f k a1_0 a1_1 l1_2).bind fun t181=>(if t181 = true then ((impl_under.f k a0_0 a0_1 l0_2 a1_0 a1_1 l1_2).bind fun t182=>(some t182)) else (some false))) = some r:=by rw [if_pos rfl] at H;exact H
  clear H
  have H:=H1
  clear H1
  replace H:=Option.bind_eq_some_iff.mp H
  obtain ⟨t181,A50,H⟩:=H
  replace H:(if t181 = true then ((impl_under.f k a0_0 a0_1 l0_2 a1_0 a1_1 l1_2).bind fun t182=>(some t182)) else (some false)) = some r:=H
  have A5:=Aside0.mk A50
  clear A50
  by_cases c6:t181 = true
  ·subst c6
   have H1:((impl_under.f k a0_0 a0_1 l0_2 a1_0 a1_1 l1_2).bind fun t182=>(some t182)) = some r:=by rw [if_pos rfl] at H;exact H
   clear H
   have H:=H1
   clear H1
   replace H:=Option.bind_eq_some_iff.mp H
   obtain ⟨t182,A70,H⟩:=H
   replace H:(some t182) = some r:=H
   have A7:=Aside0.mk A70
   clear A70
   obtain rfl:=Option.some.inj H
   go_enter Tryd.func17,Tryd.ntmps17
   go_wp2_with (first | ((with_reducible refine gate_dst (N:=2) rfl ?_);refine box_event ?hg (N:=2) ?hd (cs:=#[.int .i64 a0_0,.int .i64 a0_1,.slice A0_2 l0_2.length c0_2]) (t:=25) ?hr ?_;(case hd=>rfl);(case hg=>rfl);(case hr=>first | (go_simp;done) | (go_simp;rfl));intro gb178 hg w8 hbox hb;have n0_:=Aside0.mk (below_step (by repeat (first | (with_reducible first | exact HB.out | apply below_alloc | apply pw_below_drewN | apply below_drew1) | exact HB.out)) hb);have n1_:=Aside0.mk (hbox);have n2_:=Aside0.mk ((by rw [hg];exact (below_size (by repeat (first | (with_reducible first | exact HB.out | apply below_alloc | apply pw_below_drewN | apply below_drew1) | exact HB.out))):w.heap.size ≤ gb178));have n3_:=Aside0.mk ((by rw [hg];exact (below_size (by repeat (first | (with_reducible first | exact HB.out | apply below_alloc | apply pw_below_drewN | apply below_drew1) | exact HB.out))):w.heap.size ≤ gb178));clear HB;have HB:=n0_;have BK178:=n1_;have GW178:=n2_;have GE178:=n3_;clear n0_ n1_ n2_ n3_;clear hb hbox hg) | ((with_reducible refine gate_dst (N:=3) rfl ?_);refine box_event ?hg (N:=3) ?hd (cs:=#[.int .i64 a1_0,.int .i64 a1_1,.slice A1_2 l1_2.length c1_2]) (t:=25) ?hr ?_;(case hd=>rfl);(case hg=>rfl);(case hr=>first | (go_simp;done) | (go_simp;rfl));intro gb179 hg w9 hbox hb;have n0_:=Aside0.mk (blk_below (g:=gb178) (o:=.cells #[.int .i64 a0_0,.int .i64 a0_1,.slice A0_2 l0_2.length c0_2] 25 (0,0)) (by (with_reducible repeat (first | refine blk_drewN ?_ _ | refine blk_drew ?_ | refine blk_alloc ?_ _));exact BK178.out) hb);have n1_:=Aside0.mk (below_step (by repeat (first | (with_reducible first | exact HB.out | apply below_alloc | apply pw_below_drewN | apply below_drew1 | refine below_set ?_ GE178.out) | exact HB.out)) hb);have n2_:=Aside0.mk (hbox);have n3_:=Aside0.mk ((by rw [hg];exact (below_size (by repeat (first | (with_reducible first | exact HB.out | apply below_alloc | apply pw_below_drewN | apply below_drew1 | refine below_set ?_ GE178.out) | exact HB.out))):w.heap.size ≤ gb179));have n4_:=Aside0.mk ((by rw [hg];exact (below_size (by repeat (first | (with_reducible first | exact HB.out | apply below_alloc | apply pw_below_drewN | apply below_drew1 | refine below_set ?_ GE178.out) | exact HB.out))):w.heap.size ≤ gb179));have n5_:=Aside0.mk ((by rw [hg];exact Nat.ne_of_lt (blk_lt (g:=gb178) (o:=.cells #[.int .i64 a0_0,.int .i64 a0_1,.slice A0_2 l0_2.length c0_2] 25 (0,0)) (by (with_reducible repeat (first | refine blk_drewN ?_ _ | refine blk_drew ?_ | refine blk_alloc ?_ _));exact BK178.out)):gb178 ≠ gb179));have n6_:=Aside0.mk ((by rw [hg];exact Nat.ne_of_gt (blk_lt (g:=gb178) (o:=.cells #[.int .i64 a0_0,.int .i64 a0_1,.slice A0_2 l0_2.length c0_2] 25 (0,0)) (by (with_reducible repeat (first | refine blk_drewN ?_ _ | refine blk_drew ?_ | refine blk_alloc ?_ _));exact BK178.out)):gb179 ≠ gb178));clear BK178;clear HB;have BK178:=n0_;have HB:=n1_;have BK179:=n2_;have GW179:=n3_;have GE179:=n4_;have NB178_179:=n5_;have NB179_178:=n6_;clear n0_ n1_ n2_ n3_ n4_ n5_ n6_;clear hb hbox hg;have hnb10:=NB178_179.out;have hnc10:=NB179_178.out;have hcz11_0:w9.cell? ⟨gb178,0,none⟩ = some (.int .i64 a0_0):=(blk_cell BK178.out 0).trans rfl;have hcz11_1:w9.cell? ⟨gb178,1,none⟩ = some (.int .i64 a0_1):=(blk_cell BK178.out 1).trans rfl;have hcz11_2:w9.cell? ⟨gb178,2,none⟩ = some (.slice A0_2 l0_2.length c0_2):=(blk_cell BK178.out 2).trans rfl;have hfz11_0:=blk_frozen BK178.out 0;have hfz11_1:=blk_frozen BK178.out 1;have hfz11_2:=blk_frozen BK178.out 2) | ((with_reducible refine gate_callee (f:=14) rfl ?_);refine goesL_ (some 6) rfl rfl Tryd.func14 (by kernel_rfl) rfl #[.agg #[.int .i64 a0_0,.int .i64 a0_1,.slice A0_2 l0_2.length c0_2]] rfl (by (try simp only [List.map_toArray,List.map_cons,List.map_nil]);first | done | rfl | (simp only [List.length_drop,List.length_take];rfl)) ?_;(with_reducible refine (impl_SealOk.calls k a0_0 a0_1 _ _ l0_2 true _ ?side1 ?side2 A3.out).mono ?_);(case side1=>repeat (first | exact (Kd.C_below HR0_2.out HB.out) | (with_reducible refine Kd.C_alloc ?_ _) | (with_reducible refine Kd.C_drewN ?_ _) | (with_reducible refine Kd.C_drew ?_)));(case side2=>exact HC0_2.out);rintro e w12 ⟨rfl,hb⟩;refine ⟨_,rfl,?_⟩;have n0_:=Aside0.mk (blk_below (g:=gb178) (o:=.cells #[.int .i64 a0_0,.int .i64 a0_1,.slice A0_2 l0_2.length c0_2] 25 (0,0)) (by (with_reducible repeat (first | refine blk_drewN ?_ _ | refine blk_drew ?_ | refine blk_alloc ?_ _));exact BK178.out) hb);have n1_:=Aside0.mk (blk_below (g:=gb179) (o:=.cells #[.int .i64 a1_0,.int .i64 a1_1,.slice A1_2 l1_2.length c1_2] 25 (0,0)) (by (with_reducible repeat (first | refine blk_drewN ?_ _ | refine blk_drew ?_ | refine blk_alloc ?_ _));exact BK179.out) hb);have n2_:=Aside0.mk (below_step (by repeat (first | (with_reducible first | exact HB.out | apply below_alloc | apply pw_below_drewN | apply below_drew1 | refine below_set ?_ GE178.out | refine below_set ?_ GE179.out) | exact HB.out)) hb);clear BK178;clear BK179;clear HB;have BK178:=n0_;have BK179:=n1_;have HB:=n2_;clear n0_ n1_ n2_;(try clear hb);(try clear hb2);(try clear hk);(try clear hi);have hcz13_0:w12.cell? ⟨gb179,0,none⟩ = some (.int .i64 a1_0):=(blk_cell BK179.out 0).trans rfl;have hcz13_1:w12.cell? ⟨gb179,1,none⟩ = some (.int .i64 a1_1):=(blk_cell BK179.out 1).trans rfl;have hcz13_2:w12.cell? ⟨gb179,2,none⟩ = some (.slice A1_2 l1_2.length c1_2):=(blk_cell BK179.out 2).trans rfl;have hfz13_0:=blk_frozen BK179.out 0;have hfz13_1:=blk_frozen BK179.out 1;have hfz13_2:=blk_frozen BK179.out 2) | (go_at_call 14;(with_reducible refine (impl_SealOk.calls k a1_0 a1_1 _ _ l1_2 true _ ?side1 ?side2 A5.out).mono ?_);(case side1=>repeat (first | exact (Kd.C_below HR1_2.out HB.out) | (with_reducible refine Kd.C_alloc ?_ _) | (with_reducible refine Kd.C_drewN ?_ _) | (with_reducible refine Kd.C_drew ?_)));(case side2=>exact HC1_2.out);rintro e w14 ⟨rfl,hb⟩;have n0_:=Aside0.mk (blk_below (g:=gb178) (o:=.cells #[.int .i64 a0_0,.int .i64 a0_1,.slice A0_2 l0_2.length c0_2] 25 (0,0)) (by (with_reducible repeat (first | refine blk_drewN ?_ _ | refine blk_drew ?_ | refine blk_alloc ?_ _));exact BK178.out) hb);have n1_:=Aside0.mk (blk_below (g:=gb179) (o:=.cells #[.int .i64 a1_0,.int .i64 a1_1,.slice A1_2 l1_2.length c1_2] 25 (0,0)) (by (with_reducible repeat (first | refine blk_drewN ?_ _ | refine blk_drew ?_ | refine blk_alloc ?_ _));exact BK179.out) hb);have n2_:=Aside0.mk (below_step (by repeat (first | (with_reducible first | exact HB.out | apply below_alloc | apply pw_below_drewN | apply below_drew1 | refine below_set ?_ GE178.out | refine below_set ?_ GE179.out) | exact HB.out)) hb);clear BK178;clear BK179;clear HB;have BK178:=n0_;have BK179:=n1_;have HB:=n2_;clear n0_ n1_ n2_;(try clear hb);(try clear hb2);(try clear hk);(try clear hi);have hcz15_0:w14.cell? ⟨gb178,0,none⟩ = some (.int .i64 a0_0):=(blk_cell BK178.out 0).trans rfl;have hcz15_1:w14.cell? ⟨gb178,1,none⟩ = some (.int .i64 a0_1):=(blk_cell BK178.out 1).trans rfl;have hcz15_2:w14.cell? ⟨gb178,2,none⟩ = some (.slice A0_2 l0_2.length c0_2):=(blk_cell BK178.out 2).trans rfl;have hfz15_0:=blk_frozen BK178.out 0;have hfz15_1:=blk_frozen BK178.out 1;have hfz15_2:=blk_frozen BK178.out 2;have hcz16_0:w14.cell? ⟨gb179,0,none⟩ = some (.int .i64 a1_0):=(blk_cell BK179.out 0).trans rfl;have hcz16_1:w14.cell? ⟨gb179,1,none⟩ = some (.int .i64 a1_1):=(blk_cell BK179.out 1).trans rfl;have hcz16_2:w14.cell? ⟨gb179,2,none⟩ = some (.slice A1_2 l1_2.length c1_2):=(blk_cell BK179.out 2).trans rfl;have hfz16_0:=blk_frozen BK179.out 0;have hfz16_1:=blk_frozen BK179.out 1;have hfz16_2:=blk_frozen BK179.out 2) | (go_at_call 47;(with_reducible refine (impl_under.calls k a0_0 a0_1 _ _ l0_2 a1_0 a1_1 _ _ l1_2 t182 _ ?side1 ?side2 ?side3 ?side4 A7.out).mono ?_);(case side1=>repeat (first | exact (Kd.C_below HR0_2.out HB.out) | (with_reducible refine Kd.C_alloc ?_ _) | (with_reducible refine Kd.C_drewN ?_ _) | (with_reducible refine Kd.C_drew ?_)));(case side2=>exact HC0_2.out);(case side3=>repeat (first | exact (Kd.C_below HR1_2.out HB.out) | (with_reducible refine Kd.C_alloc ?_ _) | (with_reducible refine Kd.C_drewN ?_ _) | (with_reducible refine Kd.C_drew ?_)));(case side4=>exact HC1_2.out);rintro e w17 ⟨rfl,hb⟩;have n0_:=Aside0.mk (blk_below (g:=gb178) (o:=.cells #[.int .i64 a0_0,.int .i64 a0_1,.slice A0_2 l0_2.length c0_2] 25 (0,0)) (by (with_reducible repeat (first | refine blk_drewN ?_ _ | refine blk_drew ?_ | refine blk_alloc ?_ _));exact BK178.out) hb);have n1_:=Aside0.mk (blk_below (g:=gb179) (o:=.cells #[.int .i64 a1_0,.int .i64 a1_1,.slice A1_2 l1_2.length c1_2] 25 (0,0)) (by (with_reducible repeat (first | refine blk_drewN ?_ _ | refine blk_drew ?_ | refine blk_alloc ?_ _));exact BK179.out) hb);have n2_:=Aside0.mk (below_step (by repeat (first | (with_reducible first | exact HB.out | apply below_alloc | apply pw_below_drewN | apply below_drew1 | refine below_set ?_ GE178.out | refine below_set ?_ GE179.out) | exact HB.out)) hb);clear BK178;clear BK179;clear HB;have BK178:=n0_;have BK179:=n1_;have HB:=n2_;clear n0_ n1_ n2_;(try clear hb);(try clear hb2);(try clear hk);(try clear hi)))
   go_ret
   exact ⟨by first | rfl | (simp [errW_none,errW_some] <;> rfl) | (simp [*,errW_none,errW_some] <;> rfl),by repeat (first | (with_reducible first | exact HB.out | apply below_alloc | apply pw_below_drewN | apply below_drew1 | refine below_set ?_ GE178.out | refine below_set ?_ GE179.out) | exact HB.out)⟩
  ·replace c6:=Bool.eq_false_iff.mpr c6
   subst c6
   have H1:(some false) = some r:=by rw [if_neg (show ¬ (false = true) by decide)] at H;exact H
   clear H
   have H:=H1
   clear H1
   obtain rfl:=Option.some.inj H
   go_enter Tryd.func17,Tryd.ntmps17
   go_wp2_with (first | ((with_reducible refine gate_dst (N:=2) rfl ?_);refine box_event ?hg (N:=2) ?hd (cs:=#[.int .i64 a0_0,.int .i64 a0_1,.slice A0_2 l0_2.length c0_2]) (t:=25) ?hr ?_;(case hd=>rfl);(case hg=>rfl);(case hr=>first | (go_simp;done) | (go_simp;rfl));intro gb178 hg w18 hbox hb;have n0_:=Aside0.mk (below_step (by repeat (first | (with_reducible first | exact HB.out | apply below_alloc | apply pw_below_drewN | apply below_drew1) | exact HB.out)) hb);have n1_:=Aside0.mk (hbox);have n2_:=Aside0.mk ((by rw [hg];exact (below_size (by repeat (first | (with_reducible first | exact HB.out | apply below_alloc | apply pw_below_drewN | apply below_drew1) | exact HB.out))):w.heap.size ≤ gb178));have n3_:=Aside0.mk ((by rw [hg];exact (below_size (by repeat (first | (with_reducible first | exact HB.out | apply below_alloc | apply pw_below_drewN | apply below_drew1) | exact HB.out))):w.heap.size ≤ gb178));clear HB;have HB:=n0_;have BK178:=n1_;have GW178:=n2_;have GE178:=n3_;clear n0_ n1_ n2_ n3_;clear hb hbox hg) | ((with_reducible refine gate_dst (N:=3) rfl ?_);refine box_event ?hg (N:=3) ?hd (cs:=#[.int .i64 a1_0,.int .i64 a1_1,.slice A1_2 l1_2.length c1_2]) (t:=25) ?hr ?_;(case hd=>rfl);(case hg=>rfl);(case hr=>first | (go_simp;done) | (go_simp;rfl));intro gb179 hg w19 hbox hb;have n0_:=Aside0.mk (blk_below (g:=gb178) (o:=.cells #[.int .i64 a0_0,.int .i64 a0_1,.slice A0_2 l0_2.length c0_2] 25 (0,0)) (by (with_reducible repeat (first | refine blk_drewN ?_ _ | refine blk_drew ?_ | refine blk_alloc ?_ _));exact BK178.out) hb);have n1_:=Aside0.mk (below_step (by repeat (first | (with_reducible first | exact HB.out | apply below_alloc | apply pw_below_drewN | apply below_drew1 | refine below_set ?_ GE178.out) | exact HB.out)) hb);have n2_:=Aside0.mk (hbox);have n3_:=Aside0.mk ((by rw [hg];exact (below_size (by repeat (first | (with_reducible first | exact HB.out | apply below_alloc | apply pw_below_drewN | apply below_drew1 | refine below_set ?_ GE178.out) | exact HB.out))):w.heap.size ≤ gb179));have n4_:=Aside0.mk ((by rw [hg];exact (below_size (by repeat (first | (with_reducible first | exact HB.out | apply below_alloc | apply pw_below_drewN | apply below_drew1 | refine below_set ?_ GE178.out) | exact HB.out))):w.heap.size ≤ gb179));have n5_:=Aside0.mk ((by rw [hg];exact Nat.ne_of_lt (blk_lt (g:=gb178) (o:=.cells #[.int .i64 a0_0,.int .i64 a0_1,.slice A0_2 l0_2.length c0_2] 25 (0,0)) (by (with_reducible repeat (first | refine blk_drewN ?_ _ | refine blk_drew ?_ | refine blk_alloc ?_ _));exact BK178.out)):gb178 ≠ gb179));have n6_:=Aside0.mk ((by rw [hg];exact Nat.ne_of_gt (blk_lt (g:=gb178) (o:=.cells #[.int .i64 a0_0,.int .i64 a0_1,.slice A0_2 l0_2.length c0_2] 25 (0,0)) (by (with_reducible repeat (first | refine blk_drewN ?_ _ | refine blk_drew ?_ | refine blk_alloc ?_ _));exact BK178.out)):gb179 ≠ gb178));clear BK178;clear HB;have BK178:=n0_;have HB:=n1_;have BK179:=n2_;have GW179:=n3_;have GE179:=n4_;have NB178_179:=n5_;have NB179_178:=n6_;clear n0_ n1_ n2_ n3_ n4_ n5_ n6_;clear hb hbox hg;have hnb20:=NB178_179.out;have hnc20:=NB179_178.out;have hcz21_0:w19.cell? ⟨gb178,0,none⟩ = some (.int .i64 a0_0):=(blk_cell BK178.out 0).trans rfl;have hcz21_1:w19.cell? ⟨gb178,1,none⟩ = some (.int .i64 a0_1):=(blk_cell BK178.out 1).trans rfl;have hcz21_2:w19.cell? ⟨gb178,2,none⟩ = some (.slice A0_2 l0_2.length c0_2):=(blk_cell BK178.out 2).trans rfl;have hfz21_0:=blk_frozen BK178.out 0;have hfz21_1:=blk_frozen BK178.out 1;have hfz21_2:=blk_frozen BK178.out 2) | ((with_reducible refine gate_callee (f:=14) rfl ?_);refine goesL_ (some 6) rfl rfl Tryd.func14 (by kernel_rfl) rfl #[.agg #[.int .i64 a0_0,.int .i64 a0_1,.slice A0_2 l0_2.length c0_2]] rfl (by (try simp only [List.map_toArray,List.map_cons,List.map_nil]);first | done | rfl | (simp only [List.length_drop,List.length_take];rfl)) ?_;(with_reducible refine (impl_SealOk.calls k a0_0 a0_1 _ _ l0_2 true _ ?side1 ?side2 A3.out).mono ?_);(case side1=>repeat (first | exact (Kd.C_below HR0_2.out HB.out) | (with_reducible refine Kd.C_alloc ?_ _) | (with_reducible refine Kd.C_drewN ?_ _) | (with_reducible refine Kd.C_drew ?_)));(case side2=>exact HC0_2.out);rintro e w22 ⟨rfl,hb⟩;refine ⟨_,rfl,?_⟩;have n0_:=Aside0.mk (blk_below (g:=gb178) (o:=.cells #[.int .i64 a0_0,.int .i64 a0_1,.slice A0_2 l0_2.length c0_2] 25 (0,0)) (by (with_reducible repeat (first | refine blk_drewN ?_ _ | refine blk_drew ?_ | refine blk_alloc ?_ _));exact BK178.out) hb);have n1_:=Aside0.mk (blk_below (g:=gb179) (o:=.cells #[.int .i64 a1_0,.int .i64 a1_1,.slice A1_2 l1_2.length c1_2] 25 (0,0)) (by (with_reducible repeat (first | refine blk_drewN ?_ _ | refine blk_drew ?_ | refine blk_alloc ?_ _));exact BK179.out) hb);have n2_:=Aside0.mk (below_step (by repeat (first | (with_reducible first | exact HB.out | apply below_alloc | apply pw_below_drewN | apply below_drew1 | refine below_set ?_ GE178.out | refine below_set ?_ GE179.out) | exact HB.out)) hb);clear BK178;clear BK179;clear HB;have BK178:=n0_;have BK179:=n1_;have HB:=n2_;clear n0_ n1_ n2_;(try clear hb);(try clear hb2);(try clear hk);(try clear hi);have hcz23_0:w22.cell? ⟨gb179,0,none⟩ = some (.int .i64 a1_0):=(blk_cell BK179.out 0).trans rfl;have hcz23_1:w22.cell? ⟨gb179,1,none⟩ = some (.int .i64 a1_1):=(blk_cell BK179.out 1).trans rfl;have hcz23_2:w22.cell? ⟨gb179,2,none⟩ = some (.slice A1_2 l1_2.length c1_2):=(blk_cell BK179.out 2).trans rfl;have hfz23_0:=blk_frozen BK179.out 0;have hfz23_1:=blk_frozen BK179.out 1;have hfz23_2:=blk_frozen BK179.out 2) | (go_at_call 14;(with_reducible refine (impl_SealOk.calls k a1_0 a1_1 _ _ l1_2 false _ ?side1 ?side2 A5.out).mono ?_);(case side1=>repeat (first | exact (Kd.C_below HR1_2.out HB.out) | (with_reducible refine Kd.C_alloc ?_ _) | (with_reducible refine Kd.C_drewN ?_ _) | (with_reducible refine Kd.C_drew ?_)));(case side2=>exact HC1_2.out);rintro e w24 ⟨rfl,hb⟩;have n0_:=Aside0.mk (blk_below (g:=gb178) (o:=.cells #[.int .i64 a0_0,.int .i64 a0_1,.slice A0_2 l0_2.length c0_2] 25 (0,0)) (by (with_reducible repeat (first | refine blk_drewN ?_ _ | refine blk_drew ?_ | refine blk_alloc ?_ _));exact BK178.out) hb);have n1_:=Aside0.mk (blk_below (g:=gb179) (o:=.cells #[.int .i64 a1_0,.int .i64 a1_1,.slice A1_2 l1_2.length c1_2] 25 (0,0)) (by (with_reducible repeat (first | refine blk_drewN ?_ _ | refine blk_drew ?_ | refine blk_alloc ?_ _));exact BK179.out) hb);have n2_:=Aside0.mk (below_step (by repeat (first | (with_reducible first | exact HB.out | apply below_alloc | apply pw_below_drewN | apply below_drew1 | refine below_set ?_ GE178.out | refine below_set ?_ GE179.out) | exact HB.out)) hb);clear BK178;clear BK179;clear HB;have BK178:=n0_;have BK179:=n1_;have HB:=n2_;clear n0_ n1_ n2_;(try clear hb);(try clear hb2);(try clear hk);(try clear hi)))
   go_ret
   exact ⟨by first | rfl | (simp [errW_none,errW_some] <;> rfl) | (simp [*,errW_none,errW_some] <;> rfl),by repeat (first | (with_reducible first | exact HB.out | apply below_alloc | apply pw_below_drewN | apply below_drew1 | refine below_set ?_ GE178.out | refine below_set ?_ GE179.out) | exact HB.out)⟩
 ·replace c4:=Bool.eq_false_iff.mpr c4
  subst c4
  have H1:(some false) = some r:=by rw [if_neg (show ¬ (false = true) by decide)] at H;exact H
  clear H
  have H:=H1
  clear H1
  obtain rfl:=Option.some.inj H
  go_enter Tryd.func17,Tryd.ntmps17
  go_wp2_with (first | ((with_reducible refine gate_dst (N:=2) rfl ?_);refine box_event ?hg (N:=2) ?hd (cs:=#[.int .i64 a0_0,.int .i64 a0_1,.slice A0_2 l0_2.length c0_2]) (t:=25) ?hr ?_;(case hd=>rfl);(case hg=>rfl);(case hr=>first | (go_simp;done) | (go_simp;rfl));intro gb178 hg w25 hbox hb;have n0_:=Aside0.mk (below_step (by repeat (first | (with_reducible first | exact HB.out | apply below_alloc | apply pw_below_drewN | apply below_drew1) | exact HB.out)) hb);have n1_:=Aside0.mk (hbox);have n2_:=Aside0.mk ((by rw [hg];exact (below_size (by repeat (first | (with_reducible first | exact HB.out | apply below_alloc | apply pw_below_drewN | apply below_drew1) | exact HB.out))):w.heap.size ≤ gb178));have n3_:=Aside0.mk ((by rw [hg];exact (below_size (by repeat (first | (with_reducible first | exact HB.out | apply below_alloc | apply pw_below_drewN | apply below_drew1) | exact HB.out))):w.heap.size ≤ gb178));clear HB;have HB:=n0_;have BK178:=n1_;have GW178:=n2_;have GE178:=n3_;clear n0_ n1_ n2_ n3_;clear hb hbox hg) | ((with_reducible refine gate_dst (N:=3) rfl ?_);refine box_event ?hg (N:=3) ?hd (cs:=#[.int .i64 a1_0,.int .i64 a1_1,.slice A1_2 l1_2.length c1_2]) (t:=25) ?hr ?_;(case hd=>rfl);(case hg=>rfl);(case hr=>first | (go_simp;done) | (go_simp;rfl));intro gb179 hg w26 hbox hb;have n0_:=Aside0.mk (blk_below (g:=gb178) (o:=.cells #[.int .i64 a0_0,.int .i64 a0_1,.slice A0_2 l0_2.length c0_2] 25 (0,0)) (by (with_reducible repeat (first | refine blk_drewN ?_ _ | refine blk_drew ?_ | refine blk_alloc ?_ _));exact BK178.out) hb);have n1_:=Aside0.mk (below_step (by repeat (first | (with_reducible first | exact HB.out | apply below_alloc | apply pw_below_drewN | apply below_drew1 | refine below_set ?_ GE178.out) | exact HB.out)) hb);have n2_:=Aside0.mk (hbox);have n3_:=Aside0.mk ((by rw [hg];exact (below_size (by repeat (first | (with_reducible first | exact HB.out | apply below_alloc | apply pw_below_drewN | apply below_drew1 | refine below_set ?_ GE178.out) | exact HB.out))):w.heap.size ≤ gb179));have n4_:=Aside0.mk ((by rw [hg];exact (below_size (by repeat (first | (with_reducible first | exact HB.out | apply below_alloc | apply pw_below_drewN | apply below_drew1 | refine below_set ?_ GE178.out) | exact HB.out))):w.heap.size ≤ gb179));have n5_:=Aside0.mk ((by rw [hg];exact Nat.ne_of_lt (blk_lt (g:=gb178) (o:=.cells #[.int .i64 a0_0,.int .i64 a0_1,.slice A0_2 l0_2.length c0_2] 25 (0,0)) (by (with_reducible repeat (first | refine blk_drewN ?_ _ | refine blk_drew ?_ | refine blk_alloc ?_ _));exact BK178.out)):gb178 ≠ gb179));have n6_:=Aside0.mk ((by rw [hg];exact Nat.ne_of_gt (blk_lt (g:=gb178) (o:=.cells #[.int .i64 a0_0,.int .i64 a0_1,.slice A0_2 l0_2.length c0_2] 25 (0,0)) (by (with_reducible repeat (first | refine blk_drewN ?_ _ | refine blk_drew ?_ | refine blk_alloc ?_ _));exact BK178.out)):gb179 ≠ gb178));clear BK178;clear HB;have BK178:=n0_;have HB:=n1_;have BK179:=n2_;have GW179:=n3_;have GE179:=n4_;have NB178_179:=n5_;have NB179_178:=n6_;clear n0_ n1_ n2_ n3_ n4_ n5_ n6_;clear hb hbox hg;have hnb27:=NB178_179.out;have hnc27:=NB179_178.out;have hcz28_0:w26.cell? ⟨gb178,0,none⟩ = some (.int .i64 a0_0):=(blk_cell BK178.out 0).trans rfl;have hcz28_1:w26.cell? ⟨gb178,1,none⟩ = some (.int .i64 a0_1):=(blk_cell BK178.out 1).trans rfl;have hcz28_2:w26.cell? ⟨gb178,2,none⟩ = some (.slice A0_2 l0_2.length c0_2):=(blk_cell BK178.out 2).trans rfl;have hfz28_0:=blk_frozen BK178.out 0;have hfz28_1:=blk_frozen BK178.out 1;have hfz28_2:=blk_frozen BK178.out 2) | ((with_reducible refine gate_callee (f:=14) rfl ?_);refine goesL_ (some 6) rfl rfl Tryd.func14 (by kernel_rfl) rfl #[.agg #[.int .i64 a0_0,.int .i64 a0_1,.slice A0_2 l0_2.length c0_2]] rfl (by (try simp only [List.map_toArray,List.map_cons,List.map_nil]);first | done | rfl | (simp only [List.length_drop,List.length_take];rfl)) ?_;(with_reducible refine (impl_SealOk.calls k a0_0 a0_1 _ _ l0_2 false _ ?side1 ?side2 A3.out).mono ?_);(case side1=>repeat (first | exact (Kd.C_below HR0_2.out HB.out) | (with_reducible refine Kd.C_alloc ?_ _) | (with_reducible refine Kd.C_drewN ?_ _) | (with_reducible refine Kd.C_drew ?_)));(case side2=>exact HC0_2.out);rintro e w29 ⟨rfl,hb⟩;refine ⟨_,rfl,?_⟩;have n0_:=Aside0.mk (blk_below (g:=gb178) (o:=.cells #[.int .i64 a0_0,.int .i64 a0_1,.slice A0_2 l0_2.length c0_2] 25 (0,0)) (by (with_reducible repeat (first | refine blk_drewN ?_ _ | refine blk_drew ?_ | refine blk_alloc ?_ _));exact BK178.out) hb);have n1_:=Aside0.mk (blk_below (g:=gb179) (o:=.cells #[.int .i64 a1_0,.int .i64 a1_1,.slice A1_2 l1_2.length c1_2] 25 (0,0)) (by (with_reducible repeat (first | refine blk_drewN ?_ _ | refine blk_drew ?_ | refine blk_alloc ?_ _));exact BK179.out) hb);have n2_:=Aside0.mk (below_step (by repeat (first | (with_reducible first | exact HB.out | apply below_alloc | apply pw_below_drewN | apply below_drew1 | refine below_set ?_ GE178.out | refine below_set ?_ GE179.out) | exact HB.out)) hb);clear BK178;clear BK179;clear HB;have BK178:=n0_;have BK179:=n1_;have HB:=n2_;clear n0_ n1_ n2_;(try clear hb);(try clear hb2);(try clear hk);(try clear hi)))
  go_ret
  exact ⟨by first | rfl | (simp [errW_none,errW_some] <;> rfl) | (simp [*,errW_none,errW_some] <;> rfl),by repeat (first | (with_reducible first | exact HB.out | apply below_alloc | apply pw_below_drewN | apply below_drew1 | refine below_set ?_ GE178.out | refine below_set ?_ GE179.out) | exact HB.out)⟩
mutual
def laws_FnSealUnder.j0:Nat → Bool → Bool → Int → Int → List (S25) → Int → Int → List (S25) → Option (Bool)
 | 0,_,_,_,_,_,_,_,_=>none
 | k + 1,x5,x33,x443000,x443001,x443002,x444000,x444001,x444002=>if x33 = true then (some (!x5)) else ((impl_SealText.f k x443000 x443001 x443002).bind fun t448=>((impl_SealText.f k x444000 x444001 x444002).bind fun t449=>(laws_FnSealUnder.l0 k x5 (t448.toList == t449.toList) 0 x443000 x443001 x443002 x444000 x444001 x444002)))
def laws_FnSealUnder.l0:Nat → Bool → Bool → Int → Int → Int → List (S25) → Int → Int → List (S25) → Option (Bool)
 | 0,_,_,_,_,_,_,_,_,_=>none
 | k + 1,x5,x7,x8,x443000,x443001,x443002,x444000,x444001,x444002=>if x8 < (x444002.length:Int) then (if x7 = true then (laws_FnSealUnder.l0 k x5 true (wrap64 (x8 + 1)) x443000 x443001 x443002 x444000 x444001 x444002) else (if 0 ≤ x8 then ((impl_SealUnder.f k x443000 x443001 x443002 ((rd_T25 x444002 x8).f0) ((rd_T25 x444002 x8).f1) ((rd_T25 x444002 x8).f2)).bind fun t451=>(laws_FnSealUnder.l0 k x5 t451 (wrap64 (x8 + 1)) x443000 x443001 x443002 x444000 x444001 x444002)) else (none))) else (some (x5 == x7))
end
def laws_FnSealUnder.f (k:Nat) (l0:List Int):Option (Bool):=if (l0.length:Int) > 1048576 then (some true) else ((spec_DrawSealUnder.f k l0).bind fun bt432=>((impl_SealUnder.f k bt432.1 bt432.2.1 bt432.2.2.1 bt432.2.2.2.1 bt432.2.2.2.2.1 bt432.2.2.2.2.2).bind fun t444=>((spec_SealUnder.f k bt432.1 bt432.2.1 bt432.2.2.1 bt432.2.2.2.1 bt432.2.2.2.2.1 bt432.2.2.2.2.2).bind fun t445=>(if (t444 != t445) = true then (some false) else ((impl_SealOk.f k bt432.1 bt432.2.1 bt432.2.2.1).bind fun t446=>(if t446 = true then ((impl_SealOk.f k bt432.2.2.2.1 bt432.2.2.2.2.1 bt432.2.2.2.2.2).bind fun t447=>(laws_FnSealUnder.j0 k t444 (!t447) bt432.1 bt432.2.1 bt432.2.2.1 bt432.2.2.2.1 bt432.2.2.2.2.1 bt432.2.2.2.2.2)) else (laws_FnSealUnder.j0 k t444 true bt432.1 bt432.2.1 bt432.2.2.1 bt432.2.2.2.1 bt432.2.2.2.2.1 bt432.2.2.2.2.2)))))))
theorem laws_FnSealUnder.mono_l:∀ k,(∀ y0 y1 y2 y3 y4 y5 y6 y7,LeO (laws_FnSealUnder.j0 k y0 y1 y2 y3 y4 y5 y6 y7) (laws_FnSealUnder.j0 (k + 1) y0 y1 y2 y3 y4 y5 y6 y7))∧(∀ y0 y1 y2 y3 y4 y5 y6 y7 y8,LeO (laws_FnSealUnder.l0 k y0 y1 y2 y3 y4 y5 y6 y7 y8) (laws_FnSealUnder.l0 (k + 1) y0 y1 y2 y3 y4 y5 y6 y7 y8))
 | 0=>⟨fun _ _ _ _ _ _ _ _ r h=>by simp [laws_FnSealUnder.j0] at h,fun _ _ _ _ _ _ _ _ _ r h=>by simp [laws_FnSealUnder.l0] at h⟩
 | k + 1=>by
  obtain ⟨ih0,ih1⟩:=laws_FnSealUnder.mono_l k
  refine ⟨?_,?_⟩
  ·intro y0 y1 y2 y3 y4 y5 y6 y7
   unfold laws_FnSealUnder.j0
   repeat' first
   | (with_reducible exact ih0 _ _ _ _ _ _ _ _)
   | (with_reducible exact ih1 _ _ _ _ _ _ _ _ _)
   | (with_reducible exact impl_SealOk.mono _ _ _ _)
   | (with_reducible exact impl_SealText.mono _ _ _ _)
   | (with_reducible exact impl_SealUnder.mono _ _ _ _ _ _ _)
   | (with_reducible exact spec_DrawSealUnder.mono _ _)
   | (with_reducible exact spec_SealUnder.mono _ _ _ _ _ _ _)
   | (with_reducible exact LeO.refl _)
   | (with_reducible exact LeO.none _)
   | (with_reducible refine LeO.ite ?_ ?_)
   | (with_reducible refine LeO.bind ?_ (fun _=>?_))
   | exact ih0 _ _ _ _ _ _ _ _
   | exact ih1 _ _ _ _ _ _ _ _ _
   | exact impl_SealOk.mono _ _ _ _
   | exact impl_SealText.mono _ _ _ _
   | exact impl_SealUnder.mono _ _ _ _ _ _ _
   | exact spec_DrawSealUnder.mono _ _
   | exact spec_SealUnder.mono _ _ _ _ _ _ _
   | exact LeO.none _
   | refine LeO.ite ?_ ?_
   | refine LeO.bind ?_ (fun _=>?_)
  ·intro y0 y1 y2 y3 y4 y5 y6 y7 y8
   unfold laws_FnSealUnder.l0
   repeat' first
   | (with_reducible exact ih0 _ _ _ _ _ _ _ _)
   | (with_reducible exact ih1 _ _ _ _ _ _ _ _ _)
   | (with_reducible exact impl_SealOk.mono _ _ _ _)
   | (with_reducible exact impl_SealText.mono _ _ _ _)
   | (with_reducible exact impl_SealUnder.mono _ _ _ _ _ _ _)
   | (with_reducible exact spec_DrawSealUnder.mono _ _)
   | (with_reducible exact spec_SealUnder.mono _ _ _ _ _ _ _)
   | (with_reducible exact LeO.refl _)
   | (with_reducible exact LeO.none _)
   | (with_reducible refine LeO.ite ?_ ?_)
   | (with_reducible refine LeO.bind ?_ (fun _=>?_))
   | exact ih0 _ _ _ _ _ _ _ _
   | exact ih1 _ _ _ _ _ _ _ _ _
   | exact impl_SealOk.mono _ _ _ _
   | exact impl_SealText.mono _ _ _ _
   | exact impl_SealUnder.mono _ _ _ _ _ _ _
   | exact spec_DrawSealUnder.mono _ _
   | exact spec_SealUnder.mono _ _ _ _ _ _ _
   | exact LeO.none _
   | refine LeO.ite ?_ ?_
   | refine LeO.bind ?_ (fun _=>?_)
theorem laws_FnSealUnder.mono:∀ a0 k,LeO (laws_FnSealUnder.f k a0) (laws_FnSealUnder.f (k + 1) a0):=by
 intro a0 k
 obtain ⟨ih0,ih1⟩:=laws_FnSealUnder.mono_l k
 unfold laws_FnSealUnder.f
 repeat' first
   | (with_reducible exact ih0 _ _ _ _ _ _ _ _)
   | (with_reducible exact ih1 _ _ _ _ _ _ _ _ _)
   | (with_reducible exact impl_SealOk.mono _ _ _ _)
   | (with_reducible exact impl_SealText.mono _ _ _ _)
   | (with_reducible exact impl_SealUnder.mono _ _ _ _ _ _ _)
   | (with_reducible exact spec_DrawSealUnder.mono _ _)
   | (with_reducible exact spec_SealUnder.mono _ _ _ _ _ _ _)
   | (with_reducible exact LeO.refl _)
   | (with_reducible exact LeO.none _)
   | (with_reducible refine LeO.ite ?_ ?_)
   | (with_reducible refine LeO.bind ?_ (fun _=>?_))
   | exact ih0 _ _ _ _ _ _ _ _
   | exact ih1 _ _ _ _ _ _ _ _ _
   | exact impl_SealOk.mono _ _ _ _
   | exact impl_SealText.mono _ _ _ _
   | exact impl_SealUnder.mono _ _ _ _ _ _ _
   | exact spec_DrawSealUnder.mono _ _
   | exact spec_SealUnder.mono _ _ _ _ _ _ _
   | exact LeO.none _
   | refine LeO.ite ?_ ?_
   | refine LeO.bind ?_ (fun _=>?_)
def laws_FnSealUnder.T14:Bool × List (List Nat × List Nat):=(true,[([],[]),([0],[0]),([1],[1]),([1],[1]),([3,1],[1,3]),([1],[1]),([4,5,1],[1,4,5]),([6,1],[1,6]),([2,7,1,1],[1,2,7]),([1,8],[1,8]),([9,8,0,1,2,3,4,5,6,7,8,9],[0,9])])
def laws_FnSealUnder.B14:List Nat:=[0,1,3,3,11,3,59,123,255,511,1023]
theorem laws_FnSealUnder.tab14:rtab .any (opsOf Tryd.f7 14) = laws_FnSealUnder.T14:=by kernel_rfl
theorem laws_FnSealUnder.bits14:waitsOk laws_FnSealUnder.T14.2 laws_FnSealUnder.B14 = true:=by kernel_rfl
set_option maxHeartbeats 8000000 in
set_option maxRecDepth 100000 in
theorem laws_FnSealUnder.calls (k:Nat) (A0:Option Addr) (c0:Nat) (l0:List Int) (r:Bool) (w:World) (hr0:Kd.C (Kd.int .u8) w A0 l0.length l0) (hc0:l0.length ≤ c0) (h:laws_FnSealUnder.f k l0 = some r) :
  Calls Tryd.prog 7 #[.slice A0 l0.length c0] w fun e w'=>e = .returned (.bool r)∧Below w.heap.size w w':=by
 have hu25:=Tryd.underlying25
 have HR0:=Aside0.mk hr0
 have HC0:=Aside0.mk hc0
 clear hr0 hc0
 have HB:=Aside0.mk (Below.refl w.heap.size w)
 have H:(if (l0.length:Int) > 1048576 then (some true) else ((spec_DrawSealUnder.f k l0).bind fun bt432=>((impl_SealUnder.f k bt432.1 bt432.2.1 bt432.2.2.1 bt432.2.2.2.1 bt432.2.2.2.2.1 bt432.2.2.2.2.2).bind fun t444=>((spec_SealUnder.f k bt432.1 bt432.2.1 bt432.2.2.1 bt432.2.2.2.1 bt432.2.2.2.2.1 bt432.2.2.2.2.2).bind fun t445=>(if (t444 != t445) = true then (some false) else ((impl_SealOk.f k bt432.1 bt432.2.1 bt432.2.2.1).bind fun t446=>(if t446 = true then ((impl_SealOk.f k bt432.2.2.2.1 bt432.2.2.2.2.1 bt432.2.2.2.2.2).bind fun t447=>(laws_FnSealUnder.j0 k t444 (!t447) bt432.1 bt432.2.1 bt432.2.2.1 bt432.2.2.2.1 bt432.2.2.2.2.1 bt432.2.2.2.2.2)) else (laws_FnSealUnder.j0 k t444 true bt432.1 bt432.2.1 bt432.2.2.1 bt432.2.2.2.1 bt432.2.2.2.2.1 bt432.2.2.2.2.2)))))))) = some r:=h
 clear h
 by_cases c2:(l0.length:Int) > 1048576
 ·rw [if_pos c2] at H
  have c2b0:decide (1048576 < (l0.length:Int)) = true:=decide_eq_true c2
  have c2b1:decide (1048576 < l0.length) = true:=decide_eq_true (by omega)
  clear c2
  obtain rfl:=Option.some.inj H
  go_enter Tryd.func7,Tryd.ntmps7
  go_wp2
  go_ret
  exact ⟨by first | rfl | (simp [errW_none,errW_some] <;> rfl) | (simp [*,errW_none,errW_some] <;> rfl),by repeat (first | (with_reducible first | exact HB.out | apply below_alloc | apply pw_below_drewN | apply below_drew1) | exact HB.out)⟩
 ·rw [if_neg c2] at H
  have c2b0:decide (1048576 < (l0.length:Int)) = false:=decide_eq_false c2
  have c2b1:decide (1048576 < l0.length) = false:=decide_eq_false (by omega)
  clear c2
  replace H:=Option.bind_eq_some_iff.mp H
  obtain ⟨⟨t432,t433,t434,t437,t438,t439⟩,A30,H⟩:=H
  replace H:((impl_SealUnder.f k t432 t433 t434 t437 t438 t439).bind fun t444=>((spec_SealUnder.f k t432 t433 t434 t437 t438 t439).bind fun t445=>(if (t444 != t445) = true then (some false) else ((impl_SealOk.f k t432 t433 t434).bind fun t446=>(if t446 = true then ((impl_SealOk.f k t437 t438 t439).bind fun t447=>(laws_FnSealUnder.j0 k t444 (!t447) t432 t433 t434 t437 t438 t439)) else (laws_FnSealUnder.j0 k t444 true t432 t433 t434 t437 t438 t439)))))) = some r:=H
  have A3:=Aside0.mk A30
  clear A30
  replace H:=Option.bind_eq_some_iff.mp H
  obtain ⟨t444,A40,H⟩:=H
  replace H:((spec_SealUnder.f k t432 t433 t434 t437 t438 t439).bind fun t445=>(if (t444 != t445) = true then (some false) else ((impl_SealOk.f k t432 t433 t434).bind fun t446=>(if t446 = true then ((impl_SealOk.f k t437 t438 t439).bind fun t447=>(laws_FnSealUnder.j0 k t444 (!t447) t432 t433 t434 t437 t438 t439)) else (laws_FnSealUnder.j0 k t444 true t432 t433 t434 t437 t438 t439))))) = some r:=H
  have A4:=Aside0.mk A40
  clear A40
  replace H:=Option.bind_eq_some_iff.mp H
  obtain ⟨t445,A50,H⟩:=H
  replace H:(if (t444 != t445) = true then (some false) else ((impl_SealOk.f k t432 t433 t434).bind fun t446=>(if t446 = true then ((impl_SealOk.f k t437 t438 t439).bind fun t447=>(laws_FnSealUnder.j0 k t444 (!t447) t432 t433 t434 t437 t438 t439)) else (laws_FnSealUnder.j0 k t444 true t432 t433 t434 t437 t438 t439)))) = some r:=H
  have A5:=Aside0.mk A50
  clear A50
  by_cases c6:(t444 != t445) = true
  ·rw [if_pos c6] at H
   have c6b0:(t444 != t445) = true:=c6
   (try (have c6b1:decide (t444 = t445) = false:=by simpa using c6))
   (try (have c6b2:(t444 == t445) = false:=by simpa using c6))
   (try (have c6b3:¬ (t444 = t445):=by simpa using c6))
   clear c6
   obtain rfl:=Option.some.inj H
   go_enter Tryd.func7,Tryd.ntmps7
   go_wp2_with (first | ((with_reducible refine gate_callee (f:=24) rfl ?_);refine goesL_ (some 14) rfl rfl Tryd.func24 (by kernel_rfl) rfl #[.slice A0 l0.length c0] rfl (by (try simp only [List.map_toArray,List.map_cons,List.map_nil]);first | done | rfl | (simp only [List.length_drop,List.length_take];rfl)) ?_;(with_reducible refine (spec_DrawSealUnder.calls k _ _ l0 t432 t433 t434 t437 t438 t439 _ ?side1 ?side2 A3.out).mono ?_);(case side1=>repeat (first | exact HR0.out | (with_reducible refine Kd.C_alloc ?_ _) | (with_reducible refine Kd.C_drewN ?_ _) | (with_reducible refine Kd.C_drew ?_)));(case side2=>exact HC0.out);rintro e w7 ⟨v435,v440,rfl,ho0,ho1,hb⟩;refine ⟨_,rfl,?_⟩;have n0_:=Aside0.mk (Kd.V_lower (Kd.V_mono (ok':=fun k_=>True) ho0 (fun k_ hk_=>trivial)) (below_size (by repeat (first | (with_reducible first | exact HB.out | apply below_alloc | apply pw_below_drewN | apply below_drew1) | exact HB.out))));have n1_:=Aside0.mk (Kd.V_lower (Kd.V_mono (ok':=fun k_=>True) ho1 (fun k_ hk_=>trivial)) (below_size (by repeat (first | (with_reducible first | exact HB.out | apply below_alloc | apply pw_below_drewN | apply below_drew1) | exact HB.out))));have n2_:=Aside0.mk (below_step (by repeat (first | (with_reducible first | exact HB.out | apply below_alloc | apply pw_below_drewN | apply below_drew1) | exact HB.out)) hb);clear HB;have HO436:=n0_;have HO441:=n1_;have HB:=n2_;clear n0_ n1_ n2_;(try clear hb);(try clear hb2);(try clear hk);(try clear hi);(try clear ho0);(try clear ho1)) | ((with_reducible refine gate_dst (N:=3) rfl ?_);refine box_event ?hg (N:=3) ?hd (cs:=#[.int .i64 0,.int .i64 0,.slice none 0 0]) (t:=25) ?hr ?_;(case hd=>rfl);(case hg=>rfl);(case hr=>first | (go_simp;done) | (go_simp;rfl));intro gb442 hg w8 hbox hb;have n0_:=Aside0.mk (Kd.V_below (Kd.V_elderB (by (with_reducible repeat (first | apply Kd.V_alloc | apply Kd.V_drewN | apply Kd.V_drew));exact HO436.out) gb442 (Nat.le_of_eq hg.symm)) hb);have n1_:=Aside0.mk (Kd.V_below (Kd.V_elderB (by (with_reducible repeat (first | apply Kd.V_alloc | apply Kd.V_drewN | apply Kd.V_drew));exact HO441.out) gb442 (Nat.le_of_eq hg.symm)) hb);have n2_:=Aside0.mk (below_step (by repeat (first | (with_reducible first | exact HB.out | apply below_alloc | apply pw_below_drewN | apply below_drew1) | exact HB.out)) hb);have n3_:=Aside0.mk (hbox);have n4_:=Aside0.mk ((by rw [hg];exact (below_size (by repeat (first | (with_reducible first | exact HB.out | apply below_alloc | apply pw_below_drewN | apply below_drew1) | exact HB.out))):w.heap.size ≤ gb442));have n5_:=Aside0.mk ((by rw [hg];exact (below_size (by repeat (first | (with_reducible first | exact HB.out | apply below_alloc | apply pw_below_drewN | apply below_drew1) | exact HB.out))):w.heap.size ≤ gb442));clear HO436;clear HO441;clear HB;have HO436:=n0_;have HO441:=n1_;have HB:=n2_;have BK442:=n3_;have GW442:=n4_;have GE442:=n5_;clear n0_ n1_ n2_ n3_ n4_ n5_;clear hb hbox hg) | ((with_reducible refine gate_dst (N:=4) rfl ?_);refine box_event ?hg (N:=4) ?hd (cs:=#[.int .i64 0,.int .i64 0,.slice none 0 0]) (t:=25) ?hr ?_;(case hd=>rfl);(case hg=>rfl);(case hr=>first | (go_simp;done) | (go_simp;rfl));intro gb443 hg w9 hbox hb;have n0_:=Aside0.mk (Kd.V_below (Kd.V_elderB (by (with_reducible repeat (first | apply Kd.V_alloc | apply Kd.V_drewN | apply Kd.V_drew));exact HO436.out) gb443 (Nat.le_of_eq hg.symm)) hb);have n1_:=Aside0.mk (Kd.V_below (Kd.V_elderB (by (with_reducible repeat (first | apply Kd.V_alloc | apply Kd.V_drewN | apply Kd.V_drew));exact HO441.out) gb443 (Nat.le_of_eq hg.symm)) hb);have n2_:=Aside0.mk (blk_below (g:=gb442) (o:=.cells #[.int .i64 0,.int .i64 0,.slice none 0 0] 25 (0,0)) (by (with_reducible repeat (first | refine blk_drewN ?_ _ | refine blk_drew ?_ | refine blk_alloc ?_ _));exact BK442.out) hb);have n3_:=Aside0.mk (below_step (by repeat (first | (with_reducible first | exact HB.out | apply below_alloc | apply pw_below_drewN | apply below_drew1 | refine below_set ?_ GE442.out) | exact HB.out)) hb);have n4_:=Aside0.mk (hbox);have n5_:=Aside0.mk ((by rw [hg];exact (below_size (by repeat (first | (with_reducible first | exact HB.out | apply below_alloc | apply pw_below_drewN | apply below_drew1 | refine below_set ?_ GE442.out) | exact HB.out))):w.heap.size ≤ gb443));have n6_:=Aside0.mk ((by rw [hg];exact (below_size (by repeat (first | (with_reducible first | exact HB.out | apply below_alloc | apply pw_below_drewN | apply below_drew1 | refine below_set ?_ GE442.out) | exact HB.out))):w.heap.size ≤ gb443));have n7_:=Aside0.mk ((by rw [hg];exact Nat.ne_of_lt (blk_lt (g:=gb442) (o:=.cells #[.int .i64 0,.int .i64 0,.slice none 0 0] 25 (0,0)) (by (with_reducible repeat (first | refine blk_drewN ?_ _ | refine blk_drew ?_ | refine blk_alloc ?_ _));exact BK442.out)):gb442 ≠ gb443));have n8_:=Aside0.mk ((by rw [hg];exact Nat.ne_of_gt (blk_lt (g:=gb442) (o:=.cells #[.int .i64 0,.int .i64 0,.slice none 0 0] 25 (0,0)) (by (with_reducible repeat (first | refine blk_drewN ?_ _ | refine blk_drew ?_ | refine blk_alloc ?_ _));exact BK442.out)):gb443 ≠ gb442));clear HO436;clear HO441;clear BK442;clear HB;have HO436:=n0_;have HO441:=n1_;have BK442:=n2_;have HB:=n3_;have BK443:=n4_;have GW443:=n5_;have GE443:=n6_;have NB442_443:=n7_;have NB443_442:=n8_;clear n0_ n1_ n2_ n3_ n4_ n5_ n6_ n7_ n8_;clear hb hbox hg;have hnb10:=NB442_443.out;have hnc10:=NB443_442.out;have hcz11_0:w9.cell? ⟨gb442,0,none⟩ = some (.int .i64 0):=(blk_cell BK442.out 0).trans rfl;have hcz11_1:w9.cell? ⟨gb442,1,none⟩ = some (.int .i64 0):=(blk_cell BK442.out 1).trans rfl;have hcz11_2:w9.cell? ⟨gb442,2,none⟩ = some (.slice none 0 0):=(blk_cell BK442.out 2).trans rfl;have hfz11_0:=blk_frozen BK442.out 0;have hfz11_1:=blk_frozen BK442.out 1;have hfz11_2:=blk_frozen BK442.out 2;obtain ⟨Ao12,co12,eo12⟩:=Kd.V_slice HO436.out;subst eo12;have hcz13_0:w9.cell? ⟨gb443,0,none⟩ = some (.int .i64 0):=(blk_cell BK443.out 0).trans rfl;have hcz13_1:w9.cell? ⟨gb443,1,none⟩ = some (.int .i64 0):=(blk_cell BK443.out 1).trans rfl;have hcz13_2:w9.cell? ⟨gb443,2,none⟩ = some (.slice none 0 0):=(blk_cell BK443.out 2).trans rfl;have hfz13_0:=blk_frozen BK443.out 0;have hfz13_1:=blk_frozen BK443.out 1;have hfz13_2:=blk_frozen BK443.out 2;obtain ⟨Ao14,co14,eo14⟩:=Kd.V_slice HO441.out;subst eo14) | ((with_reducible refine gate_callee (f:=17) rfl ?_);refine goesL_ (some 19) rfl rfl Tryd.func17 (by kernel_rfl) rfl #[.agg #[.int .i64 t432,.int .i64 t433,.slice Ao12 t434.length co12],.agg #[.int .i64 t437,.int .i64 t438,.slice Ao14 t439.length co14]] rfl (by (try simp only [List.map_toArray,List.map_cons,List.map_nil]);first | done | rfl | (simp only [List.length_drop,List.length_take];rfl)) ?_;(with_reducible refine (impl_SealUnder.calls k t432 t433 _ _ t434 t437 t438 _ _ t439 t444 _ ?side1 ?side2 ?side3 ?side4 A4.out).mono ?_);(case side1=>refine (Kd.V_reads' (e:=25) (base:=w.heap.size) (ok:=fun k_=>((True∧k_ ≠ gb442)∧k_ ≠ gb443)) (n:=t434.length) (c:=co12) ?_).2.2;exact (by (with_reducible repeat (first | apply Kd.V_alloc | apply Kd.V_drewN | apply Kd.V_drew));exact (Kd.V_mono (Kd.V_mono (Kd.V_far (p:=⟨gb443,2,none⟩) (Kd.V_far (p:=⟨gb443,1,none⟩) (Kd.V_far (p:=⟨gb443,0,none⟩) (Kd.V_far (p:=⟨gb442,2,none⟩) (Kd.V_far (p:=⟨gb442,1,none⟩) (Kd.V_far (p:=⟨gb442,0,none⟩) (Kd.V_mono (Kd.V_mono HO436.out (fun k_ hk=>(⟨hk,hk.1.2⟩:_∧k_ ≠ gb442))) (fun k_ hk=>(⟨hk,hk.1.2⟩:_∧k_ ≠ gb443))) (fun _ hk=>hk.1.2) (.int .i64 t432)) (fun _ hk=>hk.1.2) (.int .i64 t433)) (fun _ hk=>hk.1.2) (.slice Ao12 t434.length co12)) (fun _ hk=>hk.2) (.int .i64 t437)) (fun _ hk=>hk.2) (.int .i64 t438)) (fun _ hk=>hk.2) (.slice Ao14 t439.length co14)) (fun _ h_=>h_.1)) (fun _ h_=>h_.1))));(case side2=>exact (Kd.V_reads' HO436.out).2.1);(case side3=>refine (Kd.V_reads' (e:=25) (base:=w.heap.size) (ok:=fun k_=>((True∧k_ ≠ gb442)∧k_ ≠ gb443)) (n:=t439.length) (c:=co14) ?_).2.2;exact (by (with_reducible repeat (first | apply Kd.V_alloc | apply Kd.V_drewN | apply Kd.V_drew));exact (Kd.V_mono (Kd.V_mono (Kd.V_far (p:=⟨gb443,2,none⟩) (Kd.V_far (p:=⟨gb443,1,none⟩) (Kd.V_far (p:=⟨gb443,0,none⟩) (Kd.V_far (p:=⟨gb442,2,none⟩) (Kd.V_far (p:=⟨gb442,1,none⟩) (Kd.V_far (p:=⟨gb442,0,none⟩) (Kd.V_mono (Kd.V_mono HO441.out (fun k_ hk=>(⟨hk,hk.1.2⟩:_∧k_ ≠ gb442))) (fun k_ hk=>(⟨hk,hk.1.2⟩:_∧k_ ≠ gb443))) (fun _ hk=>hk.1.2) (.int .i64 t432)) (fun _ hk=>hk.1.2) (.int .i64 t433)) (fun _ hk=>hk.1.2) (.slice Ao12 t434.length co12)) (fun _ hk=>hk.2) (.int .i64 t437)) (fun _ hk=>hk.2) (.int .i64 t438)) (fun _ hk=>hk.2) (.slice Ao14 t439.length co14)) (fun _ h_=>h_.1)) (fun _ h_=>h_.1))));(case side4=>exact (Kd.V_reads' HO441.out).2.1);rintro e w15 ⟨rfl,hb⟩;refine ⟨_,rfl,?_⟩;have n0_:=Aside0.mk (Kd.V_below (by (with_reducible repeat (first | apply Kd.V_alloc | apply Kd.V_drewN | apply Kd.V_drew));exact (Kd.V_mono (Kd.V_mono (Kd.V_far (p:=⟨gb443,2,none⟩) (Kd.V_far (p:=⟨gb443,1,none⟩) (Kd.V_far (p:=⟨gb443,0,none⟩) (Kd.V_far (p:=⟨gb442,2,none⟩) (Kd.V_far (p:=⟨gb442,1,none⟩) (Kd.V_far (p:=⟨gb442,0,none⟩) (Kd.V_mono (Kd.V_mono HO436.out (fun k_ hk=>(⟨hk,hk.1.2⟩:_∧k_ ≠ gb442))) (fun k_ hk=>(⟨hk,hk.1.2⟩:_∧k_ ≠ gb443))) (fun _ hk=>hk.1.2) (.int .i64 t432)) (fun _ hk=>hk.1.2) (.int .i64 t433)) (fun _ hk=>hk.1.2) (.slice Ao12 t434.length co12)) (fun _ hk=>hk.2) (.int .i64 t437)) (fun _ hk=>hk.2) (.int .i64 t438)) (fun _ hk=>hk.2) (.slice Ao14 t439.length co14)) (fun _ h_=>h_.1)) (fun _ h_=>h_.1))) hb);have n1_:=Aside0.mk (Kd.V_below (by (with_reducible repeat (first | apply Kd.V_alloc | apply Kd.V_drewN | apply Kd.V_drew));exact (Kd.V_mono (Kd.V_mono (Kd.V_far (p:=⟨gb443,2,none⟩) (Kd.V_far (p:=⟨gb443,1,none⟩) (Kd.V_far (p:=⟨gb443,0,none⟩) (Kd.V_far (p:=⟨gb442,2,none⟩) (Kd.V_far (p:=⟨gb442,1,none⟩) (Kd.V_far (p:=⟨gb442,0,none⟩) (Kd.V_mono (Kd.V_mono HO441.out (fun k_ hk=>(⟨hk,hk.1.2⟩:_∧k_ ≠ gb442))) (fun k_ hk=>(⟨hk,hk.1.2⟩:_∧k_ ≠ gb443))) (fun _ hk=>hk.1.2) (.int .i64 t432)) (fun _ hk=>hk.1.2) (.int .i64 t433)) (fun _ hk=>hk.1.2) (.slice Ao12 t434.length co12)) (fun _ hk=>hk.2) (.int .i64 t437)) (fun _ hk=>hk.2) (.int .i64 t438)) (fun _ hk=>hk.2) (.slice Ao14 t439.length co14)) (fun _ h_=>h_.1)) (fun _ h_=>h_.1))) hb);have n2_:=Aside0.mk (blk_below (g:=gb442) (o:=.cells #[.int .i64 t432,.int .i64 t433,.slice Ao12 t434.length co12] 25 (0,0)) (by (with_reducible repeat (first | refine blk_drewN ?_ _ | refine blk_drew ?_ | refine blk_alloc ?_ _));refine blk_far ?_ NB442_443.out _;(with_reducible repeat (first | refine blk_drewN ?_ _ | refine blk_drew ?_ | refine blk_alloc ?_ _));refine blk_far ?_ NB442_443.out _;(with_reducible repeat (first | refine blk_drewN ?_ _ | refine blk_drew ?_ | refine blk_alloc ?_ _));refine blk_far ?_ NB442_443.out _;(with_reducible repeat (first | refine blk_drewN ?_ _ | refine blk_drew ?_ | refine blk_alloc ?_ _));refine blk_put (cs:=#[.int .i64 t432,.int .i64 t433,.slice none 0 0]) ?_ 2 _ rfl;(with_reducible repeat (first | refine blk_drewN ?_ _ | refine blk_drew ?_ | refine blk_alloc ?_ _));refine blk_put (cs:=#[.int .i64 t432,.int .i64 0,.slice none 0 0]) ?_ 1 _ rfl;(with_reducible repeat (first | refine blk_drewN ?_ _ | refine blk_drew ?_ | refine blk_alloc ?_ _));refine blk_put (cs:=#[.int .i64 0,.int .i64 0,.slice none 0 0]) ?_ 0 _ rfl;(with_reducible repeat (first | refine blk_drewN ?_ _ | refine blk_drew ?_ | refine blk_alloc ?_ _));exact BK442.out) hb);have n3_:=Aside0.mk (blk_below (g:=gb443) (o:=.cells #[.int .i64 t437,.int .i64 t438,.slice Ao14 t439.length co14] 25 (0,0)) (by (with_reducible repeat (first | refine blk_drewN ?_ _ | refine blk_drew ?_ | refine blk_alloc ?_ _));refine blk_put (cs:=#[.int .i64 t437,.int .i64 t438,.slice none 0 0]) ?_ 2 _ rfl;(with_reducible repeat (first | refine blk_drewN ?_ _ | refine blk_drew ?_ | refine blk_alloc ?_ _));refine blk_put (cs:=#[.int .i64 t437,.int .i64 0,.slice none 0 0]) ?_ 1 _ rfl;(with_reducible repeat (first | refine blk_drewN ?_ _ | refine blk_drew ?_ | refine blk_alloc ?_ _));refine blk_put (cs:=#[.int .i64 0,.int .i64 0,.slice none 0 0]) ?_ 0 _ rfl;(with_reducible repeat (first | refine blk_drewN ?_ _ | refine blk_drew ?_ | refine blk_alloc ?_ _));refine blk_far ?_ NB443_442.out _;(with_reducible repeat (first | refine blk_drewN ?_ _ | refine blk_drew ?_ | refine blk_alloc ?_ _));refine blk_far ?_ NB443_442.out _;(with_reducible repeat (first | refine blk_drewN ?_ _ | refine blk_drew ?_ | refine blk_alloc ?_ _));refine blk_far ?_ NB443_442.out _;(with_reducible repeat (first | refine blk_drewN ?_ _ | refine blk_drew ?_ | refine blk_alloc ?_ _));exact BK443.out) hb);have n4_:=Aside0.mk (below_step (by repeat (first | (with_reducible first | exact HB.out | apply below_alloc | apply pw_below_drewN | apply below_drew1 | refine below_set ?_ GE442.out | refine below_set ?_ GE443.out) | exact HB.out)) hb);clear HO436;clear HO441;clear BK442;clear BK443;clear HB;have HO436:=n0_;have HO441:=n1_;have BK442:=n2_;have BK443:=n3_;have HB:=n4_;clear n0_ n1_ n2_ n3_ n4_;(try clear hb);(try clear hb2);(try clear hk);(try clear hi);have hcz16_0:w15.cell? ⟨gb442,0,none⟩ = some (.int .i64 t432):=(blk_cell BK442.out 0).trans rfl;have hcz16_1:w15.cell? ⟨gb442,1,none⟩ = some (.int .i64 t433):=(blk_cell BK442.out 1).trans rfl;have hcz16_2:w15.cell? ⟨gb442,2,none⟩ = some (.slice Ao12 t434.length co12):=(blk_cell BK442.out 2).trans rfl;have hfz16_0:=blk_frozen BK442.out 0;have hfz16_1:=blk_frozen BK442.out 1;have hfz16_2:=blk_frozen BK442.out 2;have hcz17_0:w15.cell? ⟨gb443,0,none⟩ = some (.int .i64 t437):=(blk_cell BK443.out 0).trans rfl;have hcz17_1:w15.cell? ⟨gb443,1,none⟩ = some (.int .i64 t438):=(blk_cell BK443.out 1).trans rfl;have hcz17_2:w15.cell? ⟨gb443,2,none⟩ = some (.slice Ao14 t439.length co14):=(blk_cell BK443.out 2).trans rfl;have hfz17_0:=blk_frozen BK443.out 0;have hfz17_1:=blk_frozen BK443.out 1;have hfz17_2:=blk_frozen BK443.out 2) | ((with_reducible refine gate_callee (f:=23) rfl ?_);refine goesL_ (some 22) rfl rfl Tryd.func23 (by kernel_rfl) rfl #[.agg #[.int .i64 t432,.int .i64 t433,.slice Ao12 t434.length co12],.agg #[.int .i64 t437,.int .i64 t438,.slice Ao14 t439.length co14]] rfl (by (try simp only [List.map_toArray,List.map_cons,List.map_nil]);first | done | rfl | (simp only [List.length_drop,List.length_take];rfl)) ?_;(with_reducible refine (spec_SealUnder.calls k t432 t433 _ _ t434 t437 t438 _ _ t439 t445 _ ?side1 ?side2 ?side3 ?side4 A5.out).mono ?_);(case side1=>repeat (first | exact (Kd.V_reads' HO436.out).2.2 | (with_reducible refine Kd.C_alloc ?_ _) | (with_reducible refine Kd.C_drewN ?_ _) | (with_reducible refine Kd.C_drew ?_)));(case side2=>exact (Kd.V_reads' HO436.out).2.1);(case side3=>repeat (first | exact (Kd.V_reads' HO441.out).2.2 | (with_reducible refine Kd.C_alloc ?_ _) | (with_reducible refine Kd.C_drewN ?_ _) | (with_reducible refine Kd.C_drew ?_)));(case side4=>exact (Kd.V_reads' HO441.out).2.1);rintro e w18 ⟨rfl,hb⟩;refine ⟨_,rfl,?_⟩;have n0_:=Aside0.mk (Kd.V_below (by (with_reducible repeat (first | apply Kd.V_alloc | apply Kd.V_drewN | apply Kd.V_drew));exact HO436.out) hb);have n1_:=Aside0.mk (Kd.V_below (by (with_reducible repeat (first | apply Kd.V_alloc | apply Kd.V_drewN | apply Kd.V_drew));exact HO441.out) hb);have n2_:=Aside0.mk (blk_below (g:=gb442) (o:=.cells #[.int .i64 t432,.int .i64 t433,.slice Ao12 t434.length co12] 25 (0,0)) (by (with_reducible repeat (first | refine blk_drewN ?_ _ | refine blk_drew ?_ | refine blk_alloc ?_ _));exact BK442.out) hb);have n3_:=Aside0.mk (blk_below (g:=gb443) (o:=.cells #[.int .i64 t437,.int .i64 t438,.slice Ao14 t439.length co14] 25 (0,0)) (by (with_reducible repeat (first | refine blk_drewN ?_ _ | refine blk_drew ?_ | refine blk_alloc ?_ _));exact BK443.out) hb);have n4_:=Aside0.mk (below_step (by repeat (first | (with_reducible first | exact HB.out | apply below_alloc | apply pw_below_drewN | apply below_drew1 | refine below_set ?_ GE442.out | refine below_set ?_ GE443.out) | exact HB.out)) hb);clear HO436;clear HO441;clear BK442;clear BK443;clear HB;have HO436:=n0_;have HO441:=n1_;have BK442:=n2_;have BK443:=n3_;have HB:=n4_;clear n0_ n1_ n2_ n3_ n4_;(try clear hb);(try clear hb2);(try clear hk);(try clear hi)))
   go_ret
   exact ⟨by first | rfl | (simp [errW_none,errW_some] <;> rfl) | (simp [*,errW_none,errW_some] <;> rfl),by repeat (first | (with_reducible first | exact HB.out | apply below_alloc | apply pw_below_drewN | apply below_drew1 | refine below_set ?_ GE442.out | refine below_set ?_ GE443.out) | exact HB.out)⟩
  ·rw [if_neg c6] at H
   have c6b0:(t444 != t445) = false:=by simpa using c6
   (try (have c6b1:decide (t444 = t445) = true:=by simpa using c6))
   (try (have c6b2:(t444 == t445) = true:=by simpa using c6))
   clear c6
   have HC19:=Aside0.mk H
   clear H
   go_enter Tryd.func7,Tryd.ntmps7
   go_upto_region 8 with (first | ((with_reducible refine gate_callee (f:=24) rfl ?_);refine goesL_ (some 14) rfl rfl Tryd.func24 (by kernel_rfl) rfl #[.slice A0 l0.length c0] rfl (by (try simp only [List.map_toArray,List.map_cons,List.map_nil]);first | done | rfl | (simp only [List.length_drop,List.length_take];rfl)) ?_;(with_reducible refine (spec_DrawSealUnder.calls k _ _ l0 t432 t433 t434 t437 t438 t439 _ ?side1 ?side2 A3.out).mono ?_);(case side1=>repeat (first | exact HR0.out | (with_reducible refine Kd.C_alloc ?_ _) | (with_reducible refine Kd.C_drewN ?_ _) | (with_reducible refine Kd.C_drew ?_)));(case side2=>exact HC0.out);rintro e w20 ⟨v435,v440,rfl,ho0,ho1,hb⟩;refine ⟨_,rfl,?_⟩;have n0_:=Aside0.mk (Kd.V_lower (Kd.V_mono (ok':=fun k_=>True) ho0 (fun k_ hk_=>trivial)) (below_size (by repeat (first | (with_reducible first | exact HB.out | apply below_alloc | apply pw_below_drewN | apply below_drew1) | exact HB.out))));have n1_:=Aside0.mk (Kd.V_lower (Kd.V_mono (ok':=fun k_=>True) ho1 (fun k_ hk_=>trivial)) (below_size (by repeat (first | (with_reducible first | exact HB.out | apply below_alloc | apply pw_below_drewN | apply below_drew1) | exact HB.out))));have n2_:=Aside0.mk (below_step (by repeat (first | (with_reducible first | exact HB.out | apply below_alloc | apply pw_below_drewN | apply below_drew1) | exact HB.out)) hb);clear HB;have HO436:=n0_;have HO441:=n1_;have HB:=n2_;clear n0_ n1_ n2_;(try clear hb);(try clear hb2);(try clear hk);(try clear hi);(try clear ho0);(try clear ho1)) | ((with_reducible refine gate_dst (N:=3) rfl ?_);refine box_event ?hg (N:=3) ?hd (cs:=#[.int .i64 0,.int .i64 0,.slice none 0 0]) (t:=25) ?hr ?_;(case hd=>rfl);(case hg=>rfl);(case hr=>first | (go_simp;done) | (go_simp;rfl));intro gb442 hg w21 hbox hb;have n0_:=Aside0.mk (Kd.V_below (Kd.V_elderB (by (with_reducible repeat (first | apply Kd.V_alloc | apply Kd.V_drewN | apply Kd.V_drew));exact HO436.out) gb442 (Nat.le_of_eq hg.symm)) hb);have n1_:=Aside0.mk (Kd.V_below (Kd.V_elderB (by (with_reducible repeat (first | apply Kd.V_alloc | apply Kd.V_drewN | apply Kd.V_drew));exact HO441.out) gb442 (Nat.le_of_eq hg.symm)) hb);have n2_:=Aside0.mk (below_step (by repeat (first | (with_reducible first | exact HB.out | apply below_alloc | apply pw_below_drewN | apply below_drew1) | exact HB.out)) hb);have n3_:=Aside0.mk (hbox);have n4_:=Aside0.mk ((by rw [hg];exact (below_size (by repeat (first | (with_reducible first | exact HB.out | apply below_alloc | apply pw_below_drewN | apply below_drew1) | exact HB.out))):w.heap.size ≤ gb442));have n5_:=Aside0.mk ((by rw [hg];exact (below_size (by repeat (first | (with_reducible first | exact HB.out | apply below_alloc | apply pw_below_drewN | apply below_drew1) | exact HB.out))):w.heap.size ≤ gb442));clear HO436;clear HO441;clear HB;have HO436:=n0_;have HO441:=n1_;have HB:=n2_;have BK442:=n3_;have GW442:=n4_;have GE442:=n5_;clear n0_ n1_ n2_ n3_ n4_ n5_;clear hb hbox hg) | ((with_reducible refine gate_dst (N:=4) rfl ?_);refine box_event ?hg (N:=4) ?hd (cs:=#[.int .i64 0,.int .i64 0,.slice none 0 0]) (t:=25) ?hr ?_;(case hd=>rfl);(case hg=>rfl);(case hr=>first | (go_simp;done) | (go_simp;rfl));intro gb443 hg w22 hbox hb;have n0_:=Aside0.mk (Kd.V_below (Kd.V_elderB (by (with_reducible repeat (first | apply Kd.V_alloc | apply Kd.V_drewN | apply Kd.V_drew));exact HO436.out) gb443 (Nat.le_of_eq hg.symm)) hb);have n1_:=Aside0.mk (Kd.V_below (Kd.V_elderB (by (with_reducible repeat (first | apply Kd.V_alloc | apply Kd.V_drewN | apply Kd.V_drew));exact HO441.out) gb443 (Nat.le_of_eq hg.symm)) hb);have n2_:=Aside0.mk (blk_below (g:=gb442) (o:=.cells #[.int .i64 0,.int .i64 0,.slice none 0 0] 25 (0,0)) (by (with_reducible repeat (first | refine blk_drewN ?_ _ | refine blk_drew ?_ | refine blk_alloc ?_ _));exact BK442.out) hb);have n3_:=Aside0.mk (below_step (by repeat (first | (with_reducible first | exact HB.out | apply below_alloc | apply pw_below_drewN | apply below_drew1 | refine below_set ?_ GE442.out) | exact HB.out)) hb);have n4_:=Aside0.mk (hbox);have n5_:=Aside0.mk ((by rw [hg];exact (below_size (by repeat (first | (with_reducible first | exact HB.out | apply below_alloc | apply pw_below_drewN | apply below_drew1 | refine below_set ?_ GE442.out) | exact HB.out))):w.heap.size ≤ gb443));have n6_:=Aside0.mk ((by rw [hg];exact (below_size (by repeat (first | (with_reducible first | exact HB.out | apply below_alloc | apply pw_below_drewN | apply below_drew1 | refine below_set ?_ GE442.out) | exact HB.out))):w.heap.size ≤ gb443));have n7_:=Aside0.mk ((by rw [hg];exact Nat.ne_of_lt (blk_lt (g:=gb442) (o:=.cells #[.int .i64 0,.int .i64 0,.slice none 0 0] 25 (0,0)) (by (with_reducible repeat (first | refine blk_drewN ?_ _ | refine blk_drew ?_ | refine blk_alloc ?_ _));exact BK442.out)):gb442 ≠ gb443));have n8_:=Aside0.mk ((by rw [hg];exact Nat.ne_of_gt (blk_lt (g:=gb442) (o:=.cells #[.int .i64 0,.int .i64 0,.slice none 0 0] 25 (0,0)) (by (with_reducible repeat (first | refine blk_drewN ?_ _ | refine blk_drew ?_ | refine blk_alloc ?_ _));exact BK442.out)):gb443 ≠ gb442));clear HO436;clear HO441;clear BK442;clear HB;have HO436:=n0_;have HO441:=n1_;have BK442:=n2_;have HB:=n3_;have BK443:=n4_;have GW443:=n5_;have GE443:=n6_;have NB442_443:=n7_;have NB443_442:=n8_;clear n0_ n1_ n2_ n3_ n4_ n5_ n6_ n7_ n8_;clear hb hbox hg;have hnb23:=NB442_443.out;have hnc23:=NB443_442.out;have hcz24_0:w22.cell? ⟨gb442,0,none⟩ = some (.int .i64 0):=(blk_cell BK442.out 0).trans rfl;have hcz24_1:w22.cell? ⟨gb442,1,none⟩ = some (.int .i64 0):=(blk_cell BK442.out 1).trans rfl;have hcz24_2:w22.cell? ⟨gb442,2,none⟩ = some (.slice none 0 0):=(blk_cell BK442.out 2).trans rfl;have hfz24_0:=blk_frozen BK442.out 0;have hfz24_1:=blk_frozen BK442.out 1;have hfz24_2:=blk_frozen BK442.out 2;obtain ⟨Ao25,co25,eo25⟩:=Kd.V_slice HO436.out;subst eo25;have hcz26_0:w22.cell? ⟨gb443,0,none⟩ = some (.int .i64 0):=(blk_cell BK443.out 0).trans rfl;have hcz26_1:w22.cell? ⟨gb443,1,none⟩ = some (.int .i64 0):=(blk_cell BK443.out 1).trans rfl;have hcz26_2:w22.cell? ⟨gb443,2,none⟩ = some (.slice none 0 0):=(blk_cell BK443.out 2).trans rfl;have hfz26_0:=blk_frozen BK443.out 0;have hfz26_1:=blk_frozen BK443.out 1;have hfz26_2:=blk_frozen BK443.out 2;obtain ⟨Ao27,co27,eo27⟩:=Kd.V_slice HO441.out;subst eo27) | ((with_reducible refine gate_callee (f:=17) rfl ?_);refine goesL_ (some 19) rfl rfl Tryd.func17 (by kernel_rfl) rfl #[.agg #[.int .i64 t432,.int .i64 t433,.slice Ao25 t434.length co25],.agg #[.int .i64 t437,.int .i64 t438,.slice Ao27 t439.length co27]] rfl (by (try simp only [List.map_toArray,List.map_cons,List.map_nil]);first | done | rfl | (simp only [List.length_drop,List.length_take];rfl)) ?_;(with_reducible refine (impl_SealUnder.calls k t432 t433 _ _ t434 t437 t438 _ _ t439 t444 _ ?side1 ?side2 ?side3 ?side4 A4.out).mono ?_);(case side1=>refine (Kd.V_reads' (e:=25) (base:=w.heap.size) (ok:=fun k_=>((True∧k_ ≠ gb442)∧k_ ≠ gb443)) (n:=t434.length) (c:=co25) ?_).2.2;exact (by (with_reducible repeat (first | apply Kd.V_alloc | apply Kd.V_drewN | apply Kd.V_drew));exact (Kd.V_mono (Kd.V_mono (Kd.V_far (p:=⟨gb443,2,none⟩) (Kd.V_far (p:=⟨gb443,1,none⟩) (Kd.V_far (p:=⟨gb443,0,none⟩) (Kd.V_far (p:=⟨gb442,2,none⟩) (Kd.V_far (p:=⟨gb442,1,none⟩) (Kd.V_far (p:=⟨gb442,0,none⟩) (Kd.V_mono (Kd.V_mono HO436.out (fun k_ hk=>(⟨hk,hk.1.2⟩:_∧k_ ≠ gb442))) (fun k_ hk=>(⟨hk,hk.1.2⟩:_∧k_ ≠ gb443))) (fun _ hk=>hk.1.2) (.int .i64 t432)) (fun _ hk=>hk.1.2) (.int .i64 t433)) (fun _ hk=>hk.1.2) (.slice Ao25 t434.length co25)) (fun _ hk=>hk.2) (.int .i64 t437)) (fun _ hk=>hk.2) (.int .i64 t438)) (fun _ hk=>hk.2) (.slice Ao27 t439.length co27)) (fun _ h_=>h_.1)) (fun _ h_=>h_.1))));(case side2=>exact (Kd.V_reads' HO436.out).2.1);(case side3=>refine (Kd.V_reads' (e:=25) (base:=w.heap.size) (ok:=fun k_=>((True∧k_ ≠ gb442)∧k_ ≠ gb443)) (n:=t439.length) (c:=co27) ?_).2.2;exact (by (with_reducible repeat (first | apply Kd.V_alloc | apply Kd.V_drewN | apply Kd.V_drew));exact (Kd.V_mono (Kd.V_mono (Kd.V_far (p:=⟨gb443,2,none⟩) (Kd.V_far (p:=⟨gb443,1,none⟩) (Kd.V_far (p:=⟨gb443,0,none⟩) (Kd.V_far (p:=⟨gb442,2,none⟩) (Kd.V_far (p:=⟨gb442,1,none⟩) (Kd.V_far (p:=⟨gb442,0,none⟩) (Kd.V_mono (Kd.V_mono HO441.out (fun k_ hk=>(⟨hk,hk.1.2⟩:_∧k_ ≠ gb442))) (fun k_ hk=>(⟨hk,hk.1.2⟩:_∧k_ ≠ gb443))) (fun _ hk=>hk.1.2) (.int .i64 t432)) (fun _ hk=>hk.1.2) (.int .i64 t433)) (fun _ hk=>hk.1.2) (.slice Ao25 t434.length co25)) (fun _ hk=>hk.2) (.int .i64 t437)) (fun _ hk=>hk.2) (.int .i64 t438)) (fun _ hk=>hk.2) (.slice Ao27 t439.length co27)) (fun _ h_=>h_.1)) (fun _ h_=>h_.1))));(case side4=>exact (Kd.V_reads' HO441.out).2.1);rintro e w28 ⟨rfl,hb⟩;refine ⟨_,rfl,?_⟩;have n0_:=Aside0.mk (Kd.V_below (by (with_reducible repeat (first | apply Kd.V_alloc | apply Kd.V_drewN | apply Kd.V_drew));exact (Kd.V_mono (Kd.V_mono (Kd.V_far (p:=⟨gb443,2,none⟩) (Kd.V_far (p:=⟨gb443,1,none⟩) (Kd.V_far (p:=⟨gb443,0,none⟩) (Kd.V_far (p:=⟨gb442,2,none⟩) (Kd.V_far (p:=⟨gb442,1,none⟩) (Kd.V_far (p:=⟨gb442,0,none⟩) (Kd.V_mono (Kd.V_mono HO436.out (fun k_ hk=>(⟨hk,hk.1.2⟩:_∧k_ ≠ gb442))) (fun k_ hk=>(⟨hk,hk.1.2⟩:_∧k_ ≠ gb443))) (fun _ hk=>hk.1.2) (.int .i64 t432)) (fun _ hk=>hk.1.2) (.int .i64 t433)) (fun _ hk=>hk.1.2) (.slice Ao25 t434.length co25)) (fun _ hk=>hk.2) (.int .i64 t437)) (fun _ hk=>hk.2) (.int .i64 t438)) (fun _ hk=>hk.2) (.slice Ao27 t439.length co27)) (fun _ h_=>h_.1)) (fun _ h_=>h_.1))) hb);have n1_:=Aside0.mk (Kd.V_below (by (with_reducible repeat (first | apply Kd.V_alloc | apply Kd.V_drewN | apply Kd.V_drew));exact (Kd.V_mono (Kd.V_mono (Kd.V_far (p:=⟨gb443,2,none⟩) (Kd.V_far (p:=⟨gb443,1,none⟩) (Kd.V_far (p:=⟨gb443,0,none⟩) (Kd.V_far (p:=⟨gb442,2,none⟩) (Kd.V_far (p:=⟨gb442,1,none⟩) (Kd.V_far (p:=⟨gb442,0,none⟩) (Kd.V_mono (Kd.V_mono HO441.out (fun k_ hk=>(⟨hk,hk.1.2⟩:_∧k_ ≠ gb442))) (fun k_ hk=>(⟨hk,hk.1.2⟩:_∧k_ ≠ gb443))) (fun _ hk=>hk.1.2) (.int .i64 t432)) (fun _ hk=>hk.1.2) (.int .i64 t433)) (fun _ hk=>hk.1.2) (.slice Ao25 t434.length co25)) (fun _ hk=>hk.2) (.int .i64 t437)) (fun _ hk=>hk.2) (.int .i64 t438)) (fun _ hk=>hk.2) (.slice Ao27 t439.length co27)) (fun _ h_=>h_.1)) (fun _ h_=>h_.1))) hb);have n2_:=Aside0.mk (blk_below (g:=gb442) (o:=.cells #[.int .i64 t432,.int .i64 t433,.slice Ao25 t434.length co25] 25 (0,0)) (by (with_reducible repeat (first | refine blk_drewN ?_ _ | refine blk_drew ?_ | refine blk_alloc ?_ _));refine blk_far ?_ NB442_443.out _;(with_reducible repeat (first | refine blk_drewN ?_ _ | refine blk_drew ?_ | refine blk_alloc ?_ _));refine blk_far ?_ NB442_443.out _;(with_reducible repeat (first | refine blk_drewN ?_ _ | refine blk_drew ?_ | refine blk_alloc ?_ _));refine blk_far ?_ NB442_443.out _;(with_reducible repeat (first | refine blk_drewN ?_ _ | refine blk_drew ?_ | refine blk_alloc ?_ _));refine blk_put (cs:=#[.int .i64 t432,.int .i64 t433,.slice none 0 0]) ?_ 2 _ rfl;(with_reducible repeat (first | refine blk_drewN ?_ _ | refine blk_drew ?_ | refine blk_alloc ?_ _));refine blk_put (cs:=#[.int .i64 t432,.int .i64 0,.slice none 0 0]) ?_ 1 _ rfl;(with_reducible repeat (first | refine blk_drewN ?_ _ | refine blk_drew ?_ | refine blk_alloc ?_ _));refine blk_put (cs:=#[.int .i64 0,.int .i64 0,.slice none 0 0]) ?_ 0 _ rfl;(with_reducible repeat (first | refine blk_drewN ?_ _ | refine blk_drew ?_ | refine blk_alloc ?_ _));exact BK442.out) hb);have n3_:=Aside0.mk (blk_below (g:=gb443) (o:=.cells #[.int .i64 t437,.int .i64 t438,.slice Ao27 t439.length co27] 25 (0,0)) (by (with_reducible repeat (first | refine blk_drewN ?_ _ | refine blk_drew ?_ | refine blk_alloc ?_ _));refine blk_put (cs:=#[.int .i64 t437,.int .i64 t438,.slice none 0 0]) ?_ 2 _ rfl;(with_reducible repeat (first | refine blk_drewN ?_ _ | refine blk_drew ?_ | refine blk_alloc ?_ _));refine blk_put (cs:=#[.int .i64 t437,.int .i64 0,.slice none 0 0]) ?_ 1 _ rfl;(with_reducible repeat (first | refine blk_drewN ?_ _ | refine blk_drew ?_ | refine blk_alloc ?_ _));refine blk_put (cs:=#[.int .i64 0,.int .i64 0,.slice none 0 0]) ?_ 0 _ rfl;(with_reducible repeat (first | refine blk_drewN ?_ _ | refine blk_drew ?_ | refine blk_alloc ?_ _));refine blk_far ?_ NB443_442.out _;(with_reducible repeat (first | refine blk_drewN ?_ _ | refine blk_drew ?_ | refine blk_alloc ?_ _));refine blk_far ?_ NB443_442.out _;(with_reducible repeat (first | refine blk_drewN ?_ _ | refine blk_drew ?_ | refine blk_alloc ?_ _));refine blk_far ?_ NB443_442.out _;(with_reducible repeat (first | refine blk_drewN ?_ _ | refine blk_drew ?_ | refine blk_alloc ?_ _));exact BK443.out) hb);have n4_:=Aside0.mk (below_step (by repeat (first | (with_reducible first | exact HB.out | apply below_alloc | apply pw_below_drewN | apply below_drew1 | refine below_set ?_ GE442.out | refine below_set ?_ GE443.out) | exact HB.out)) hb);clear HO436;clear HO441;clear BK442;clear BK443;clear HB;have HO436:=n0_;have HO441:=n1_;have BK442:=n2_;have BK443:=n3_;have HB:=n4_;clear n0_ n1_ n2_ n3_ n4_;(try clear hb);(try clear hb2);(try clear hk);(try clear hi);have hcz29_0:w28.cell? ⟨gb442,0,none⟩ = some (.int .i64 t432):=(blk_cell BK442.out 0).trans rfl;have hcz29_1:w28.cell? ⟨gb442,1,none⟩ = some (.int .i64 t433):=(blk_cell BK442.out 1).trans rfl;have hcz29_2:w28.cell? ⟨gb442,2,none⟩ = some (.slice Ao25 t434.length co25):=(blk_cell BK442.out 2).trans rfl;have hfz29_0:=blk_frozen BK442.out 0;have hfz29_1:=blk_frozen BK442.out 1;have hfz29_2:=blk_frozen BK442.out 2;have hcz30_0:w28.cell? ⟨gb443,0,none⟩ = some (.int .i64 t437):=(blk_cell BK443.out 0).trans rfl;have hcz30_1:w28.cell? ⟨gb443,1,none⟩ = some (.int .i64 t438):=(blk_cell BK443.out 1).trans rfl;have hcz30_2:w28.cell? ⟨gb443,2,none⟩ = some (.slice Ao27 t439.length co27):=(blk_cell BK443.out 2).trans rfl;have hfz30_0:=blk_frozen BK443.out 0;have hfz30_1:=blk_frozen BK443.out 1;have hfz30_2:=blk_frozen BK443.out 2) | ((with_reducible refine gate_callee (f:=23) rfl ?_);refine goesL_ (some 22) rfl rfl Tryd.func23 (by kernel_rfl) rfl #[.agg #[.int .i64 t432,.int .i64 t433,.slice Ao25 t434.length co25],.agg #[.int .i64 t437,.int .i64 t438,.slice Ao27 t439.length co27]] rfl (by (try simp only [List.map_toArray,List.map_cons,List.map_nil]);first | done | rfl | (simp only [List.length_drop,List.length_take];rfl)) ?_;(with_reducible refine (spec_SealUnder.calls k t432 t433 _ _ t434 t437 t438 _ _ t439 t445 _ ?side1 ?side2 ?side3 ?side4 A5.out).mono ?_);(case side1=>repeat (first | exact (Kd.V_reads' HO436.out).2.2 | (with_reducible refine Kd.C_alloc ?_ _) | (with_reducible refine Kd.C_drewN ?_ _) | (with_reducible refine Kd.C_drew ?_)));(case side2=>exact (Kd.V_reads' HO436.out).2.1);(case side3=>repeat (first | exact (Kd.V_reads' HO441.out).2.2 | (with_reducible refine Kd.C_alloc ?_ _) | (with_reducible refine Kd.C_drewN ?_ _) | (with_reducible refine Kd.C_drew ?_)));(case side4=>exact (Kd.V_reads' HO441.out).2.1);rintro e w31 ⟨rfl,hb⟩;refine ⟨_,rfl,?_⟩;have n0_:=Aside0.mk (Kd.V_below (by (with_reducible repeat (first | apply Kd.V_alloc | apply Kd.V_drewN | apply Kd.V_drew));exact HO436.out) hb);have n1_:=Aside0.mk (Kd.V_below (by (with_reducible repeat (first | apply Kd.V_alloc | apply Kd.V_drewN | apply Kd.V_drew));exact HO441.out) hb);have n2_:=Aside0.mk (blk_below (g:=gb442) (o:=.cells #[.int .i64 t432,.int .i64 t433,.slice Ao25 t434.length co25] 25 (0,0)) (by (with_reducible repeat (first | refine blk_drewN ?_ _ | refine blk_drew ?_ | refine blk_alloc ?_ _));exact BK442.out) hb);have n3_:=Aside0.mk (blk_below (g:=gb443) (o:=.cells #[.int .i64 t437,.int .i64 t438,.slice Ao27 t439.length co27] 25 (0,0)) (by (with_reducible repeat (first | refine blk_drewN ?_ _ | refine blk_drew ?_ | refine blk_alloc ?_ _));exact BK443.out) hb);have n4_:=Aside0.mk (below_step (by repeat (first | (with_reducible first | exact HB.out | apply below_alloc | apply pw_below_drewN | apply below_drew1 | refine below_set ?_ GE442.out | refine below_set ?_ GE443.out) | exact HB.out)) hb);clear HO436;clear HO441;clear BK442;clear BK443;clear HB;have HO436:=n0_;have HO441:=n1_;have BK442:=n2_;have BK443:=n3_;have HB:=n4_;clear n0_ n1_ n2_ n3_ n4_;(try clear hb);(try clear hb2);(try clear hk);(try clear hi)))
   (try simp only [Act.put,List.setIfInBounds_toArray,List.set_cons_zero,List.set_cons_succ])
   go_cut [33] (fun v33 wc=>∃ (kq:Nat) (x33_18:Bool),v33 = .bool x33_18∧Aside0 (laws_FnSealUnder.j0 kq t444 x33_18 t432 t433 t434 t437 t438 t439 = some r)∧Aside0 (kq ≤ k)∧Aside0 (Kd.V k25 25 wc w.heap.size (fun k_=>k_ ≠ gb442∧k_ ≠ gb443) (.slice Ao25 t434.length co25) t434)∧Aside0 (Kd.V k25 25 wc w.heap.size (fun k_=>k_ ≠ gb442∧k_ ≠ gb443) (.slice Ao27 t439.length co27) t439)∧Aside0 (wc.heap[gb442]? = some (.cells #[.int .i64 t432,.int .i64 t433,(.slice Ao25 t434.length co25)] 25 (0,0)))∧Aside0 (wc.heap[gb443]? = some (.cells #[.int .i64 t437,.int .i64 t438,(.slice Ao27 t439.length co27)] 25 (0,0)))∧Aside0 (Below w.heap.size w wc))
   case first =>
    have H:=HC19.out
    clear HC19
    replace H:=Option.bind_eq_some_iff.mp H
    obtain ⟨t446,A320,H⟩:=H
    replace H:(if t446 = true then ((impl_SealOk.f k t437 t438 t439).bind fun t447=>(laws_FnSealUnder.j0 k t444 (!t447) t432 t433 t434 t437 t438 t439)) else (laws_FnSealUnder.j0 k t444 true t432 t433 t434 t437 t438 t439)) = some r:=H
    have A32:=Aside0.mk A320
    clear A320
    by_cases c33:t446 = true
    ·subst c33
     have H1:((impl_SealOk.f k t437 t438 t439).bind fun t447=>(laws_FnSealUnder.j0 k t444 (!t447) t432 t433 t434 t437 t438 t439)) = some r:=by rw [if_pos rfl] at H;exact H
     clear H
     have H:=H1
     clear H1
     replace H:=Option.bind_eq_some_iff.mp H
     obtain ⟨t447,A340,H⟩:=H
     replace H:(laws_FnSealUnder.j0 k t444 (!t447) t432 t433 t434 t437 t438 t439) = some r:=H
     have A34:=Aside0.mk A340
     clear A340
     have H':=Aside0.mk H
     clear H
     have hnb35:=NB442_443.out
     have hnc35:=NB443_442.out
     have hcz36_0:w31.cell? ⟨gb442,0,none⟩ = some (.int .i64 t432):=(blk_cell BK442.out 0).trans rfl
     have hcz36_1:w31.cell? ⟨gb442,1,none⟩ = some (.int .i64 t433):=(blk_cell BK442.out 1).trans rfl
     have hcz36_2:w31.cell? ⟨gb442,2,none⟩ = some (.slice Ao25 t434.length co25):=(blk_cell BK442.out 2).trans rfl
     have hfz36_0:=blk_frozen BK442.out 0
     have hfz36_1:=blk_frozen BK442.out 1
     have hfz36_2:=blk_frozen BK442.out 2
     go_wp2_with (first | ((with_reducible refine gate_callee (f:=14) rfl ?_);refine goesL_ (some 27) rfl rfl Tryd.func14 (by kernel_rfl) rfl #[.agg #[.int .i64 t432,.int .i64 t433,.slice Ao25 t434.length co25]] rfl (by (try simp only [List.map_toArray,List.map_cons,List.map_nil]);first | done | rfl | (simp only [List.length_drop,List.length_take];rfl)) ?_;(with_reducible refine (impl_SealOk.calls k t432 t433 _ _ t434 true _ ?side1 ?side2 A32.out).mono ?_);(case side1=>repeat (first | exact (Kd.V_reads' HO436.out).2.2 | (with_reducible refine Kd.C_alloc ?_ _) | (with_reducible refine Kd.C_drewN ?_ _) | (with_reducible refine Kd.C_drew ?_)));(case side2=>exact (Kd.V_reads' HO436.out).2.1);rintro e w37 ⟨rfl,hb⟩;refine ⟨_,rfl,?_⟩;have n0_:=Aside0.mk (Kd.V_below (by (with_reducible repeat (first | apply Kd.V_alloc | apply Kd.V_drewN | apply Kd.V_drew));exact HO436.out) hb);have n1_:=Aside0.mk (Kd.V_below (by (with_reducible repeat (first | apply Kd.V_alloc | apply Kd.V_drewN | apply Kd.V_drew));exact HO441.out) hb);have n2_:=Aside0.mk (blk_below (g:=gb442) (o:=.cells #[.int .i64 t432,.int .i64 t433,.slice Ao25 t434.length co25] 25 (0,0)) (by (with_reducible repeat (first | refine blk_drewN ?_ _ | refine blk_drew ?_ | refine blk_alloc ?_ _));exact BK442.out) hb);have n3_:=Aside0.mk (blk_below (g:=gb443) (o:=.cells #[.int .i64 t437,.int .i64 t438,.slice Ao27 t439.length co27] 25 (0,0)) (by (with_reducible repeat (first | refine blk_drewN ?_ _ | refine blk_drew ?_ | refine blk_alloc ?_ _));exact BK443.out) hb);have n4_:=Aside0.mk (below_step (by repeat (first | (with_reducible first | exact HB.out | apply below_alloc | apply pw_below_drewN | apply below_drew1 | refine below_set ?_ GE442.out | refine below_set ?_ GE443.out) | exact HB.out)) hb);clear HO436;clear HO441;clear BK442;clear BK443;clear HB;have HO436:=n0_;have HO441:=n1_;have BK442:=n2_;have BK443:=n3_;have HB:=n4_;clear n0_ n1_ n2_ n3_ n4_;(try clear hb);(try clear hb2);(try clear hk);(try clear hi);have hcz38_0:w37.cell? ⟨gb443,0,none⟩ = some (.int .i64 t437):=(blk_cell BK443.out 0).trans rfl;have hcz38_1:w37.cell? ⟨gb443,1,none⟩ = some (.int .i64 t438):=(blk_cell BK443.out 1).trans rfl;have hcz38_2:w37.cell? ⟨gb443,2,none⟩ = some (.slice Ao27 t439.length co27):=(blk_cell BK443.out 2).trans rfl;have hfz38_0:=blk_frozen BK443.out 0;have hfz38_1:=blk_frozen BK443.out 1;have hfz38_2:=blk_frozen BK443.out 2) | (go_at_call 14;(with_reducible refine (impl_SealOk.calls k t437 t438 _ _ t439 t447 _ ?side1 ?side2 A34.out).mono ?_);(case side1=>repeat (first | exact (Kd.V_reads' HO441.out).2.2 | (with_reducible refine Kd.C_alloc ?_ _) | (with_reducible refine Kd.C_drewN ?_ _) | (with_reducible refine Kd.C_drew ?_)));(case side2=>exact (Kd.V_reads' HO441.out).2.1);rintro e w39 ⟨rfl,hb⟩;have n0_:=Aside0.mk (Kd.V_below (by (with_reducible repeat (first | apply Kd.V_alloc | apply Kd.V_drewN | apply Kd.V_drew));exact HO436.out) hb);have n1_:=Aside0.mk (Kd.V_below (by (with_reducible repeat (first | apply Kd.V_alloc | apply Kd.V_drewN | apply Kd.V_drew));exact HO441.out) hb);have n2_:=Aside0.mk (blk_below (g:=gb442) (o:=.cells #[.int .i64 t432,.int .i64 t433,.slice Ao25 t434.length co25] 25 (0,0)) (by (with_reducible repeat (first | refine blk_drewN ?_ _ | refine blk_drew ?_ | refine blk_alloc ?_ _));exact BK442.out) hb);have n3_:=Aside0.mk (blk_below (g:=gb443) (o:=.cells #[.int .i64 t437,.int .i64 t438,.slice Ao27 t439.length co27] 25 (0,0)) (by (with_reducible repeat (first | refine blk_drewN ?_ _ | refine blk_drew ?_ | refine blk_alloc ?_ _));exact BK443.out) hb);have n4_:=Aside0.mk (below_step (by repeat (first | (with_reducible first | exact HB.out | apply below_alloc | apply pw_below_drewN | apply below_drew1 | refine below_set ?_ GE442.out | refine below_set ?_ GE443.out) | exact HB.out)) hb);clear HO436;clear HO441;clear BK442;clear BK443;clear HB;have HO436:=n0_;have HO441:=n1_;have BK442:=n2_;have BK443:=n3_;have HB:=n4_;clear n0_ n1_ n2_ n3_ n4_;(try clear hb);(try clear hb2);(try clear hk);(try clear hi)))
     go_meet
     case rel=>exact ⟨_,(!t447),(by first | rfl | (simp;done) | (simp [*];done)),H',⟨by first | omega | exact Nat.le_refl _⟩,⟨by (with_reducible repeat (first | apply Kd.V_alloc | apply Kd.V_drewN | apply Kd.V_drew));exact Kd.V_mono HO436.out (fun _ hk=>⟨hk.1.2,hk.2⟩)⟩,⟨by (with_reducible repeat (first | apply Kd.V_alloc | apply Kd.V_drewN | apply Kd.V_drew));exact Kd.V_mono HO441.out (fun _ hk=>⟨hk.1.2,hk.2⟩)⟩,⟨by (with_reducible repeat (first | refine blk_drewN ?_ _ | refine blk_drew ?_ | refine blk_alloc ?_ _));exact BK442.out⟩,⟨by (with_reducible repeat (first | refine blk_drewN ?_ _ | refine blk_drew ?_ | refine blk_alloc ?_ _));exact BK443.out⟩,⟨by repeat (first | (with_reducible first | exact HB.out | apply below_alloc | apply pw_below_drewN | apply below_drew1 | refine below_set ?_ GE442.out | refine below_set ?_ GE443.out) | exact HB.out)⟩⟩
    ·replace c33:=Bool.eq_false_iff.mpr c33
     subst c33
     have H1:(laws_FnSealUnder.j0 k t444 true t432 t433 t434 t437 t438 t439) = some r:=by rw [if_neg (show ¬ (false = true) by decide)] at H;exact H
     clear H
     have H:=H1
     clear H1
     have H':=Aside0.mk H
     clear H
     have hnb40:=NB442_443.out
     have hnc40:=NB443_442.out
     have hcz41_0:w31.cell? ⟨gb442,0,none⟩ = some (.int .i64 t432):=(blk_cell BK442.out 0).trans rfl
     have hcz41_1:w31.cell? ⟨gb442,1,none⟩ = some (.int .i64 t433):=(blk_cell BK442.out 1).trans rfl
     have hcz41_2:w31.cell? ⟨gb442,2,none⟩ = some (.slice Ao25 t434.length co25):=(blk_cell BK442.out 2).trans rfl
     have hfz41_0:=blk_frozen BK442.out 0
     have hfz41_1:=blk_frozen BK442.out 1
     have hfz41_2:=blk_frozen BK442.out 2
     go_wp2_with (first | ((with_reducible refine gate_callee (f:=14) rfl ?_);refine goesL_ (some 27) rfl rfl Tryd.func14 (by kernel_rfl) rfl #[.agg #[.int .i64 t432,.int .i64 t433,.slice Ao25 t434.length co25]] rfl (by (try simp only [List.map_toArray,List.map_cons,List.map_nil]);first | done | rfl | (simp only [List.length_drop,List.length_take];rfl)) ?_;(with_reducible refine (impl_SealOk.calls k t432 t433 _ _ t434 false _ ?side1 ?side2 A32.out).mono ?_);(case side1=>repeat (first | exact (Kd.V_reads' HO436.out).2.2 | (with_reducible refine Kd.C_alloc ?_ _) | (with_reducible refine Kd.C_drewN ?_ _) | (with_reducible refine Kd.C_drew ?_)));(case side2=>exact (Kd.V_reads' HO436.out).2.1);rintro e w42 ⟨rfl,hb⟩;refine ⟨_,rfl,?_⟩;have n0_:=Aside0.mk (Kd.V_below (by (with_reducible repeat (first | apply Kd.V_alloc | apply Kd.V_drewN | apply Kd.V_drew));exact HO436.out) hb);have n1_:=Aside0.mk (Kd.V_below (by (with_reducible repeat (first | apply Kd.V_alloc | apply Kd.V_drewN | apply Kd.V_drew));exact HO441.out) hb);have n2_:=Aside0.mk (blk_below (g:=gb442) (o:=.cells #[.int .i64 t432,.int .i64 t433,.slice Ao25 t434.length co25] 25 (0,0)) (by (with_reducible repeat (first | refine blk_drewN ?_ _ | refine blk_drew ?_ | refine blk_alloc ?_ _));exact BK442.out) hb);have n3_:=Aside0.mk (blk_below (g:=gb443) (o:=.cells #[.int .i64 t437,.int .i64 t438,.slice Ao27 t439.length co27] 25 (0,0)) (by (with_reducible repeat (first | refine blk_drewN ?_ _ | refine blk_drew ?_ | refine blk_alloc ?_ _));exact BK443.out) hb);have n4_:=Aside0.mk (below_step (by repeat (first | (with_reducible first | exact HB.out | apply below_alloc | apply pw_below_drewN | apply below_drew1 | refine below_set ?_ GE442.out | refine below_set ?_ GE443.out) | exact HB.out)) hb);clear HO436;clear HO441;clear BK442;clear BK443;clear HB;have HO436:=n0_;have HO441:=n1_;have BK442:=n2_;have BK443:=n3_;have HB:=n4_;clear n0_ n1_ n2_ n3_ n4_;(try clear hb);(try clear hb2);(try clear hk);(try clear hi)))
     go_meet
     case rel=>exact ⟨_,(true),(by first | rfl | (simp;done) | (simp [*];done)),H',⟨by first | omega | exact Nat.le_refl _⟩,⟨by (with_reducible repeat (first | apply Kd.V_alloc | apply Kd.V_drewN | apply Kd.V_drew));exact Kd.V_mono HO436.out (fun _ hk=>⟨hk.1.2,hk.2⟩)⟩,⟨by (with_reducible repeat (first | apply Kd.V_alloc | apply Kd.V_drewN | apply Kd.V_drew));exact Kd.V_mono HO441.out (fun _ hk=>⟨hk.1.2,hk.2⟩)⟩,⟨by (with_reducible repeat (first | refine blk_drewN ?_ _ | refine blk_drew ?_ | refine blk_alloc ?_ _));exact BK442.out⟩,⟨by (with_reducible repeat (first | refine blk_drewN ?_ _ | refine blk_drew ?_ | refine blk_alloc ?_ _));exact BK443.out⟩,⟨by repeat (first | (with_reducible first | exact HB.out | apply below_alloc | apply pw_below_drewN | apply below_drew1 | refine below_set ?_ GE442.out | refine below_set ?_ GE443.out) | exact HB.out)⟩⟩
   case rest =>
    clear HC19
    try clear c1
    try clear c2
    try clear c2b0
    try clear c2b1
    try clear p2
    try clear c3
    try clear c4
    try clear c6
    try clear c6b0
    try clear c6b1
    try clear c6b2
    try clear c7
    try clear c10
    try clear c14
    try clear c17
    try clear c23
    try clear c24
    try clear c33
    try clear c35
    try clear c40
    try clear hcz11_0
    try clear hcz11_1
    try clear hcz11_2
    try clear hcz13_0
    try clear hcz13_1
    try clear hcz13_2
    try clear hcz16_0
    try clear hcz16_1
    try clear hcz16_2
    try clear hcz17_0
    try clear hcz17_1
    try clear hcz17_2
    try clear hcz24_0
    try clear hcz24_1
    try clear hcz24_2
    try clear hcz26_0
    try clear hcz26_1
    try clear hcz26_2
    try clear hcz29_0
    try clear hcz29_1
    try clear hcz29_2
    try clear hcz30_0
    try clear hcz30_1
    try clear hcz30_2
    try clear hcz36_0
    try clear hcz36_1
    try clear hcz36_2
    try clear hcz38_0
    try clear hcz38_1
    try clear hcz38_2
    try clear hcz41_0
    try clear hcz41_1
    try clear hcz41_2
    try clear hfz11_0
    try clear hfz11_1
    try clear hfz11_2
    try clear hfz13_0
    try clear hfz13_1
    try clear hfz13_2
    try clear hfz16_0
    try clear hfz16_1
    try clear hfz16_2
    try clear hfz17_0
    try clear hfz17_1
    try clear hfz17_2
    try clear hfz24_0
    try clear hfz24_1
    try clear hfz24_2
    try clear hfz26_0
    try clear hfz26_1
    try clear hfz26_2
    try clear hfz29_0
    try clear hfz29_1
    try clear hfz29_2
    try clear hfz30_0
    try clear hfz30_1
    try clear hfz30_2
    try clear hfz36_0
    try clear hfz36_1
    try clear hfz36_2
    try clear hfz38_0
    try clear hfz38_1
    try clear hfz38_2
    try clear hfz41_0
    try clear hfz41_1
    try clear hfz41_2
    obtain ⟨kq,x33_18,rfl,HA,HJ18,HO_443002,HO_444002,BK442,BK443,HB⟩:=hcut
    cases kq with
    | zero=>exact absurd HA.out (by simp [laws_FnSealUnder.j0])
    | succ kj18 =>
     have H:=HA.out
     clear HA
     simp only [laws_FnSealUnder.j0] at H
     by_cases c43:x33_18 = true
     ·subst c43
      have H1:(some (!t444)) = some r:=by rw [if_pos rfl] at H;exact H
      clear H
      have H:=H1
      clear H1
      obtain rfl:=Option.some.inj H
      go_wp2
      go_ret
      exact ⟨by first | rfl | (simp [errW_none,errW_some] <;> rfl) | (simp [*,errW_none,errW_some] <;> rfl),by repeat (first | (with_reducible first | exact HB.out | apply below_alloc | apply pw_below_drewN | apply below_drew1 | refine below_set ?_ GE442.out | refine below_set ?_ GE443.out) | exact HB.out)⟩
     ·replace c43:=Bool.eq_false_iff.mpr c43
      subst c43
      have H1:((impl_SealText.f kj18 t432 t433 t434).bind fun t448=>((impl_SealText.f kj18 t437 t438 t439).bind fun t449=>(laws_FnSealUnder.l0 kj18 t444 (t448.toList == t449.toList) 0 t432 t433 t434 t437 t438 t439))) = some r:=by rw [if_neg (show ¬ (false = true) by decide)] at H;exact H
      clear H
      have H:=H1
      clear H1
      replace H:=Option.bind_eq_some_iff.mp H
      obtain ⟨t448,A440,H⟩:=H
      replace H:((impl_SealText.f kj18 t437 t438 t439).bind fun t449=>(laws_FnSealUnder.l0 kj18 t444 (t448.toList == t449.toList) 0 t432 t433 t434 t437 t438 t439)) = some r:=H
      have A44:=Aside0.mk A440
      clear A440
      replace H:=Option.bind_eq_some_iff.mp H
      obtain ⟨t449,A450,H⟩:=H
      replace H:(laws_FnSealUnder.l0 kj18 t444 (t448.toList == t449.toList) 0 t432 t433 t434 t437 t438 t439) = some r:=H
      have A45:=Aside0.mk A450
      clear A450
      have H':=Aside0.mk H
      clear H
      try go_wp2
      have n0_:=Aside0.mk (Kd.V_drew HO_443002.out)
      have n1_:=Aside0.mk (Kd.V_drew HO_444002.out)
      have n2_:=Aside0.mk (blk_drew BK442.out)
      have n3_:=Aside0.mk (blk_drew BK443.out)
      have n4_:=Aside0.mk (below_drew1 HB.out)
      clear HO_443002
      clear HO_444002
      clear BK442
      clear BK443
      clear HB
      have HO_443002:=n0_
      have HO_444002:=n1_
      have BK442:=n2_
      have BK443:=n3_
      have HB:=n4_
      clear n0_ n1_ n2_ n3_ n4_
      refine start_ (n:=6) (S:=fun w'=>w'.cell? ⟨gb442,0,none⟩ = some (.int .i64 t432)∧w'.cell? ⟨gb442,1,none⟩ = some (.int .i64 t433)∧w'.cell? ⟨gb442,2,none⟩ = some (.slice Ao25 t434.length co25)∧w'.cell? ⟨gb443,0,none⟩ = some (.int .i64 t437)∧w'.cell? ⟨gb443,1,none⟩ = some (.int .i64 t438)∧w'.cell? ⟨gb443,2,none⟩ = some (.slice Ao27 t439.length co27)) (ds:=[]) #[false,false,false,false,false,false] (by kernel_rfl) rfl rfl ⟨(blk_cell BK442.out 0).trans rfl,(blk_cell BK442.out 1).trans rfl,(blk_cell BK442.out 2).trans rfl,(blk_cell BK443.out 0).trans rfl,(blk_cell BK443.out 1).trans rfl,(blk_cell BK443.out 2).trans rfl⟩ (fun hHeld=>?_)
      generalize wc.drew = w46 at HO_443002 HO_444002 BK442 BK443 HB hHeld ⊢
      refine take_ (i:=0) (N:=some 36) (v:=?_) (a':=?_) #[true,false,false,false,false,false] rfl rfl (by kernel_rfl) (fun _ _ _ h=>h) (Or.inl ⟨by rfl,?_⟩) hHeld ?_ ?_
      rotate_left;·rintro w' ⟨s0,s1,s2,s3,s4,s5⟩;go_simp;with_reducible rfl
      rotate_left;·simp only [Act.put,List.setIfInBounds_toArray,List.set_cons_zero,List.set_cons_succ,i64_w,i32_w];rfl
      refine take_ (i:=2) (N:=some 38) (v:=?_) (a':=?_) #[true,false,true,false,false,false] rfl rfl (by kernel_rfl) (fun _ _ _ h=>h) (Or.inl ⟨by rfl,?_⟩) hHeld ?_ ?_
      rotate_left;·rintro w' ⟨s0,s1,s2,s3,s4,s5⟩;go_simp;with_reducible rfl
      rotate_left;·simp only [Act.put,List.setIfInBounds_toArray,List.set_cons_zero,List.set_cons_succ,i64_w,i32_w];rfl
      refine one_ (i:=1) (N:=some 37) #[true,true,true,false,false,false] rfl rfl (by kernel_rfl) (by decide) (fun K hK=>?_)
      refine goes_ Tryd.func16 (by kernel_rfl) rfl #[.agg #[.int .i64 t432,.int .i64 t433,.slice Ao25 t434.length co25]] (by rfl) rfl rfl (by (try simp only [List.map_toArray,List.map_cons,List.map_nil]);first | done | rfl | (simp only [List.length_drop,List.length_take];rfl)) ?_
      with_reducible refine (impl_SealText.calls kj18 t432 t433 _ _ t434 t448 _ ?side1 ?side2 A44.out).mono ?_
      (case side1=>repeat (first | exact (Kd.V_reads' HO_443002.out).2.2 | (with_reducible refine Kd.C_alloc ?_ _) | (with_reducible refine Kd.C_drewN ?_ _) | (with_reducible refine Kd.C_drew ?_)))
      (case side2=>exact (Kd.V_reads' HO_443002.out).2.1)
      rintro e w47 ⟨rfl,hb⟩
      refine ⟨_,rfl,?_⟩
      have n0_:=Aside0.mk (Kd.V_below (by (with_reducible repeat (first | apply Kd.V_alloc | apply Kd.V_drewN | apply Kd.V_drew));exact HO_443002.out) hb)
      have n1_:=Aside0.mk (Kd.V_below (by (with_reducible repeat (first | apply Kd.V_alloc | apply Kd.V_drewN | apply Kd.V_drew));exact HO_444002.out) hb)
      have n2_:=Aside0.mk (blk_below (g:=gb442) (o:=.cells #[.int .i64 t432,.int .i64 t433,.slice Ao25 t434.length co25] 25 (0,0)) (by (with_reducible repeat (first | refine blk_drewN ?_ _ | refine blk_drew ?_ | refine blk_alloc ?_ _));exact BK442.out) hb)
      have n3_:=Aside0.mk (blk_below (g:=gb443) (o:=.cells #[.int .i64 t437,.int .i64 t438,.slice Ao27 t439.length co27] 25 (0,0)) (by (with_reducible repeat (first | refine blk_drewN ?_ _ | refine blk_drew ?_ | refine blk_alloc ?_ _));exact BK443.out) hb)
      have n4_:=Aside0.mk (below_step (by repeat (first | (with_reducible first | exact HB.out | apply below_alloc | apply pw_below_drewN | apply below_drew1 | refine below_set ?_ GE442.out | refine below_set ?_ GE443.out) | exact HB.out)) hb)
      clear HO_443002
      clear HO_444002
      clear BK442
      clear BK443
      clear HB
      have HO_443002:=n0_
      have HO_444002:=n1_
      have BK442:=n2_
      have BK443:=n3_
      have HB:=n4_
      clear n0_ n1_ n2_ n3_ n4_
      (try clear hb)
      (try clear hb2)
      (try clear hk)
      (try clear hi)
      refine hK.out _ _ ⟨(blk_cell BK442.out 0).trans rfl,(blk_cell BK442.out 1).trans rfl,(blk_cell BK442.out 2).trans rfl,(blk_cell BK443.out 0).trans rfl,(blk_cell BK443.out 1).trans rfl,(blk_cell BK443.out 2).trans rfl⟩ (fun hHeld=>?_)
      clear hK K
      refine norm_ (a':=?_) ?_ ?_
      rotate_left
      ·show Act.put _ (some 37) _ = _
       simp only [Act.put,List.setIfInBounds_toArray,List.set_cons_zero,List.set_cons_succ,i64_w,i32_w]
       rfl
      refine one_ (i:=3) (N:=some 39) #[true,true,true,true,false,false] rfl rfl (by kernel_rfl) (by decide) (fun K hK=>?_)
      refine goes_ Tryd.func16 (by kernel_rfl) rfl #[.agg #[.int .i64 t437,.int .i64 t438,.slice Ao27 t439.length co27]] (by rfl) rfl rfl (by (try simp only [List.map_toArray,List.map_cons,List.map_nil]);first | done | rfl | (simp only [List.length_drop,List.length_take];rfl)) ?_
      with_reducible refine (impl_SealText.calls kj18 t437 t438 _ _ t439 t449 _ ?side1 ?side2 A45.out).mono ?_
      (case side1=>repeat (first | exact (Kd.V_reads' HO_444002.out).2.2 | (with_reducible refine Kd.C_alloc ?_ _) | (with_reducible refine Kd.C_drewN ?_ _) | (with_reducible refine Kd.C_drew ?_)))
      (case side2=>exact (Kd.V_reads' HO_444002.out).2.1)
      rintro e w48 ⟨rfl,hb⟩
      refine ⟨_,rfl,?_⟩
      have n0_:=Aside0.mk (Kd.V_below (by (with_reducible repeat (first | apply Kd.V_alloc | apply Kd.V_drewN | apply Kd.V_drew));exact HO_443002.out) hb)
      have n1_:=Aside0.mk (Kd.V_below (by (with_reducible repeat (first | apply Kd.V_alloc | apply Kd.V_drewN | apply Kd.V_drew));exact HO_444002.out) hb)
      have n2_:=Aside0.mk (blk_below (g:=gb442) (o:=.cells #[.int .i64 t432,.int .i64 t433,.slice Ao25 t434.length co25] 25 (0,0)) (by (with_reducible repeat (first | refine blk_drewN ?_ _ | refine blk_drew ?_ | refine blk_alloc ?_ _));exact BK442.out) hb)
      have n3_:=Aside0.mk (blk_below (g:=gb443) (o:=.cells #[.int .i64 t437,.int .i64 t438,.slice Ao27 t439.length co27] 25 (0,0)) (by (with_reducible repeat (first | refine blk_drewN ?_ _ | refine blk_drew ?_ | refine blk_alloc ?_ _));exact BK443.out) hb)
      have n4_:=Aside0.mk (below_step (by repeat (first | (with_reducible first | exact HB.out | apply below_alloc | apply pw_below_drewN | apply below_drew1 | refine below_set ?_ GE442.out | refine below_set ?_ GE443.out) | exact HB.out)) hb)
      clear HO_443002
      clear HO_444002
      clear BK442
      clear BK443
      clear HB
      have HO_443002:=n0_
      have HO_444002:=n1_
      have BK442:=n2_
      have BK443:=n3_
      have HB:=n4_
      clear n0_ n1_ n2_ n3_ n4_
      (try clear hb)
      (try clear hb2)
      (try clear hk)
      (try clear hi)
      refine hK.out _ _ ⟨(blk_cell BK442.out 0).trans rfl,(blk_cell BK442.out 1).trans rfl,(blk_cell BK442.out 2).trans rfl,(blk_cell BK443.out 0).trans rfl,(blk_cell BK443.out 1).trans rfl,(blk_cell BK443.out 2).trans rfl⟩ (fun hHeld=>?_)
      clear hK K
      refine norm_ (a':=?_) ?_ ?_
      rotate_left
      ·show Act.put _ (some 39) _ = _
       simp only [Act.put,List.setIfInBounds_toArray,List.set_cons_zero,List.set_cons_succ,i64_w,i32_w]
       rfl
      refine pure_ (i:=4) (N:=some 40) (v:=?_) (a':=?_) #[true,true,true,true,true,false] rfl rfl (by kernel_rfl) (fun _ _ _ h=>h) (Or.inl ⟨by rfl,?_⟩) ?_ ?_
      rotate_left;·intro w';go_simp;with_reducible rfl
      rotate_left;·simp only [Act.put,List.setIfInBounds_toArray,List.set_cons_zero,List.set_cons_succ,i64_w,i32_w];rfl
      refine pure_ (i:=5) (N:=some 7) (v:=?_) (a':=?_) #[true,true,true,true,true,true] rfl rfl (by kernel_rfl) (fun _ _ _ h=>h) (Or.inl ⟨by rfl,?_⟩) ?_ ?_
      rotate_left;·intro w';go_simp;with_reducible rfl
      rotate_left;·simp only [Act.put,List.setIfInBounds_toArray,List.set_cons_zero,List.set_cons_succ,i64_w,i32_w];rfl
      refine done_ (by kernel_rfl) ?_
      try go_wp2
      go_loopg [7,8] kj18 (fun kq v7 v8 w'=>∃ (x7_2:Bool) (x8_2:Int),v7 = .bool x7_2∧v8 = .int .i64 x8_2∧Aside0 (laws_FnSealUnder.l0 kq t444 x7_2 x8_2 t432 t433 t434 t437 t438 t439 = some r)∧Aside0 (kq ≤ kj18)∧Aside0 (Kd.V k25 25 w' w.heap.size (fun k_=>k_ ≠ gb442∧k_ ≠ gb443) (.slice Ao25 t434.length co25) t434)∧Aside0 (Kd.V k25 25 w' w.heap.size (fun k_=>k_ ≠ gb442∧k_ ≠ gb443) (.slice Ao27 t439.length co27) t439)∧Aside0 (w'.heap[gb442]? = some (.cells #[.int .i64 t432,.int .i64 t433,(.slice Ao25 t434.length co25)] 25 (0,0)))∧Aside0 (w'.heap[gb443]? = some (.cells #[.int .i64 t437,.int .i64 t438,(.slice Ao27 t439.length co27)] 25 (0,0)))∧Aside0 (Below w.heap.size w w'))
      case atStart=>exact ⟨((t448.toList == t449.toList)),(0),(by first | rfl | (simp;done) | (simp [*];done)),(by first | rfl | (simp;done) | (simp [*];done)),H',⟨Nat.le_refl _⟩,⟨by (with_reducible repeat (first | apply Kd.V_alloc | apply Kd.V_drewN | apply Kd.V_drew));exact HO_443002.out⟩,⟨by (with_reducible repeat (first | apply Kd.V_alloc | apply Kd.V_drewN | apply Kd.V_drew));exact HO_444002.out⟩,⟨by (with_reducible repeat (first | refine blk_drewN ?_ _ | refine blk_drew ?_ | refine blk_alloc ?_ _));exact BK442.out⟩,⟨by (with_reducible repeat (first | refine blk_drewN ?_ _ | refine blk_drew ?_ | refine blk_alloc ?_ _));exact BK443.out⟩,⟨by repeat (first | (with_reducible first | exact HB.out | apply below_alloc | apply pw_below_drewN | apply below_drew1 | refine below_set ?_ GE442.out | refine below_set ?_ GE443.out) | exact HB.out)⟩⟩
      case round =>
       clear H'
       try clear c1
       try clear c2
       try clear c2b0
       try clear c2b1
       try clear p2
       try clear c3
       try clear c4
       try clear c6
       try clear c6b0
       try clear c6b1
       try clear c6b2
       try clear c7
       try clear c10
       try clear c14
       try clear c16
       try clear c17
       try clear c23
       try clear c24
       try clear c33
       try clear c35
       try clear c40
       try clear c43
       try clear hcz11_0
       try clear hcz11_1
       try clear hcz11_2
       try clear hcz13_0
       try clear hcz13_1
       try clear hcz13_2
       try clear hcz16_0
       try clear hcz16_1
       try clear hcz16_2
       try clear hcz17_0
       try clear hcz17_1
       try clear hcz17_2
       try clear hcz24_0
       try clear hcz24_1
       try clear hcz24_2
       try clear hcz26_0
       try clear hcz26_1
       try clear hcz26_2
       try clear hcz29_0
       try clear hcz29_1
       try clear hcz29_2
       try clear hcz30_0
       try clear hcz30_1
       try clear hcz30_2
       try clear hcz36_0
       try clear hcz36_1
       try clear hcz36_2
       try clear hcz38_0
       try clear hcz38_1
       try clear hcz38_2
       try clear hcz41_0
       try clear hcz41_1
       try clear hcz41_2
       try clear hfz11_0
       try clear hfz11_1
       try clear hfz11_2
       try clear hfz13_0
       try clear hfz13_1
       try clear hfz13_2
       try clear hfz16_0
       try clear hfz16_1
       try clear hfz16_2
       try clear hfz17_0
       try clear hfz17_1
       try clear hfz17_2
       try clear hfz24_0
       try clear hfz24_1
       try clear hfz24_2
       try clear hfz26_0
       try clear hfz26_1
       try clear hfz26_2
       try clear hfz29_0
       try clear hfz29_1
       try clear hfz29_2
       try clear hfz30_0
       try clear hfz30_1
       try clear hfz30_2
       try clear hfz36_0
       try clear hfz36_1
       try clear hfz36_2
       try clear hfz38_0
       try clear hfz38_1
       try clear hfz38_2
       try clear hfz41_0
       try clear hfz41_1
       try clear hfz41_2
       try clear p2
       obtain ⟨x7_2,x8_2,rfl,rfl,HA,HK2,HO_443002,HO_444002,BK442,BK443,HB⟩:=hrel
       cases gk with
       | zero=>exact absurd HA.out (by simp [laws_FnSealUnder.l0])
       | succ k2 =>
        have H:=HA.out
        clear HA
        simp only [laws_FnSealUnder.l0] at H
        by_cases c49:x8_2 < (t439.length:Int)
        ·rw [if_pos c49] at H
         have c49b0:decide (x8_2 < (t439.length:Int)) = true:=decide_eq_true c49
         clear c49
         by_cases c50:x7_2 = true
         ·subst c50
          have H1:(laws_FnSealUnder.l0 k2 t444 true (wrap64 (x8_2 + 1)) t432 t433 t434 t437 t438 t439) = some r:=by rw [if_pos rfl] at H;exact H
          clear H
          have H:=H1
          clear H1
          have H':=Aside0.mk H
          clear H
          have hnb51:=NB443_442.out
          have hnc51:=NB442_443.out
          have hcz52_0:wr.cell? ⟨gb443,0,none⟩ = some (.int .i64 t437):=(blk_cell BK443.out 0).trans rfl
          have hcz52_1:wr.cell? ⟨gb443,1,none⟩ = some (.int .i64 t438):=(blk_cell BK443.out 1).trans rfl
          have hcz52_2:wr.cell? ⟨gb443,2,none⟩ = some (.slice Ao27 t439.length co27):=(blk_cell BK443.out 2).trans rfl
          have hfz52_0:=blk_frozen BK443.out 0
          have hfz52_1:=blk_frozen BK443.out 1
          have hfz52_2:=blk_frozen BK443.out 2
          try go_wp2
          have n0_:=Aside0.mk (Kd.V_drew HO_443002.out)
          have n1_:=Aside0.mk (Kd.V_drew HO_444002.out)
          have n2_:=Aside0.mk (blk_drew BK442.out)
          have n3_:=Aside0.mk (blk_drew BK443.out)
          have n4_:=Aside0.mk (below_drew1 HB.out)
          clear HO_443002
          clear HO_444002
          clear BK442
          clear BK443
          clear HB
          have HO_443002:=n0_
          have HO_444002:=n1_
          have BK442:=n2_
          have BK443:=n3_
          have HB:=n4_
          clear n0_ n1_ n2_ n3_ n4_
          refine start_ (n:=11) (S:=fun w'=>True) (ds:=[]) #[false,false,false,false,false,false,false,false,false,false,false] (by kernel_rfl) rfl rfl trivial (fun hHeld=>?_);refine with_tabW laws_FnSealUnder.tab14 laws_FnSealUnder.bits14 (fun HT_ HW_=>?_)
          generalize wr.drew = w53 at HO_443002 HO_444002 BK442 BK443 HB hHeld ⊢
          refine pure_ (i:=0) (N:=some 48) (v:=?_) (a':=?_) #[true,false,false,false,false,false,false,false,false,false,false] rfl rfl (any_of HT_.out (by kernel_rfl)) (fun _ _ _ h=>h) (Or.inl ⟨by rfl,?_⟩) ?_ ?_
          rotate_left;·intro w';go_simp;with_reducible rfl
          rotate_left;·simp only [Act.put,List.setIfInBounds_toArray,List.set_cons_zero,List.set_cons_succ,i64_w,i32_w];rfl
          refine pure_ (i:=1) (N:=some 49) (v:=?_) (a':=?_) #[true,true,false,false,false,false,false,false,false,false,false] rfl rfl (any_of HT_.out (by kernel_rfl)) (fun _ _ _ h=>h) (Or.inl ⟨by rfl,?_⟩) ?_ ?_
          rotate_left;·intro w';go_simp;with_reducible rfl
          rotate_left;·simp only [Act.put,List.setIfInBounds_toArray,List.set_cons_zero,List.set_cons_succ,i64_w,i32_w];rfl
          refine pure_ (i:=2) (N:=some 50) (v:=undef) (a':=?_) #[true,true,true,false,false,false,false,false,false,false,false] rfl rfl (any_of HT_.out (by kernel_rfl)) (fun _ _ _ h=>h) (Or.inr ⟨by rfl,rfl⟩) ?_ ?_
          rotate_left;·simp only [Act.put,List.setIfInBounds_toArray,List.set_cons_zero,List.set_cons_succ,i64_w,i32_w];rfl
          refine pure_ (i:=3) (N:=some 51) (v:=undef) (a':=?_) #[true,true,true,true,false,false,false,false,false,false,false] rfl rfl (any_of HT_.out (by kernel_rfl)) (fun _ _ _ h=>h) (Or.inr ⟨by rfl,rfl⟩) ?_ ?_
          rotate_left;·simp only [Act.put,List.setIfInBounds_toArray,List.set_cons_zero,List.set_cons_succ,i64_w,i32_w];rfl
          refine pure_ (i:=4) (N:=some 52) (v:=undef) (a':=?_) #[true,true,true,true,true,false,false,false,false,false,false] rfl rfl (any_of HT_.out (by kernel_rfl)) (fun _ _ _ h=>h) (Or.inr ⟨by rfl,rfl⟩) ?_ ?_
          rotate_left;·simp only [Act.put,List.setIfInBounds_toArray,List.set_cons_zero,List.set_cons_succ,i64_w,i32_w];rfl
          refine pure_ (i:=5) (N:=some 53) (v:=undef) (a':=?_) #[true,true,true,true,true,true,false,false,false,false,false] rfl rfl (any_of HT_.out (by kernel_rfl)) (fun _ _ _ h=>h) (Or.inr ⟨by rfl,rfl⟩) ?_ ?_
          rotate_left;·simp only [Act.put,List.setIfInBounds_toArray,List.set_cons_zero,List.set_cons_succ,i64_w,i32_w];rfl
          refine pure_ (i:=6) (N:=some 54) (v:=undef) (a':=?_) #[true,true,true,true,true,true,true,false,false,false,false] rfl rfl (any_of HT_.out (by kernel_rfl)) (fun _ _ _ h=>h) (Or.inr ⟨by rfl,rfl⟩) ?_ ?_
          rotate_left;·simp only [Act.put,List.setIfInBounds_toArray,List.set_cons_zero,List.set_cons_succ,i64_w,i32_w];rfl
          refine pure_ (i:=7) (N:=some 55) (v:=undef) (a':=?_) #[true,true,true,true,true,true,true,true,false,false,false] rfl rfl (any_of HT_.out (by kernel_rfl)) (fun _ _ _ h=>h) (Or.inr ⟨by rfl,rfl⟩) ?_ ?_
          rotate_left;·simp only [Act.put,List.setIfInBounds_toArray,List.set_cons_zero,List.set_cons_succ,i64_w,i32_w];rfl
          refine pure_ (i:=8) (N:=some 56) (v:=undef) (a':=?_) #[true,true,true,true,true,true,true,true,true,false,false] rfl rfl (any_of HT_.out (by kernel_rfl)) (fun _ _ _ h=>h) (Or.inr ⟨by rfl,rfl⟩) ?_ ?_
          rotate_left;·simp only [Act.put,List.setIfInBounds_toArray,List.set_cons_zero,List.set_cons_succ,i64_w,i32_w];rfl
          refine pure_ (i:=9) (N:=some 57) (v:=?_) (a':=?_) #[true,true,true,true,true,true,true,true,true,true,false] rfl rfl (any_of HT_.out (by kernel_rfl)) (fun _ _ _ h=>h) (Or.inl ⟨by rfl,?_⟩) ?_ ?_
          rotate_left;·intro w';go_simp;with_reducible rfl
          rotate_left;·simp only [Act.put,List.setIfInBounds_toArray,List.set_cons_zero,List.set_cons_succ,i64_w,i32_w];rfl
          refine pure_ (i:=10) (N:=some 7) (v:=?_) (a':=?_) #[true,true,true,true,true,true,true,true,true,true,true] rfl rfl (any_of HT_.out (by kernel_rfl)) (fun _ _ _ h=>h) (Or.inl ⟨by rfl,?_⟩) ?_ ?_
          rotate_left;·intro w';go_simp;with_reducible rfl
          rotate_left;·simp only [Act.put,List.setIfInBounds_toArray,List.set_cons_zero,List.set_cons_succ,i64_w,i32_w];rfl
          refine done_ (done_of HT_.out (by kernel_rfl)) ?_
          try go_wp2
          go_roundg k2
          case measure=>have:=HJ18.out;have:=HK2.out;omega
          case rel=>exact ⟨(true),(wrap64 (x8_2 + 1)),(by first | rfl | (simp;done) | (simp [*];done)),(by first | rfl | (simp;done) | (simp [*];done)),H',⟨by have:=HJ18.out;have:=HK2.out;omega⟩,⟨by (with_reducible repeat (first | apply Kd.V_alloc | apply Kd.V_drewN | apply Kd.V_drew));exact HO_443002.out⟩,⟨by (with_reducible repeat (first | apply Kd.V_alloc | apply Kd.V_drewN | apply Kd.V_drew));exact HO_444002.out⟩,⟨by (with_reducible repeat (first | refine blk_drewN ?_ _ | refine blk_drew ?_ | refine blk_alloc ?_ _));exact BK442.out⟩,⟨by (with_reducible repeat (first | refine blk_drewN ?_ _ | refine blk_drew ?_ | refine blk_alloc ?_ _));exact BK443.out⟩,⟨by repeat (first | (with_reducible first | exact HB.out | apply below_alloc | apply pw_below_drewN | apply below_drew1 | refine below_set ?_ GE442.out | refine below_set ?_ GE443.out) | exact HB.out)⟩⟩
         ·replace c50:=Bool.eq_false_iff.mpr c50
          subst c50
          have H1:(if 0 ≤ x8_2 then ((impl_SealUnder.f k2 t432 t433 t434 ((rd_T25 t439 x8_2).f0) ((rd_T25 t439 x8_2).f1) ((rd_T25 t439 x8_2).f2)).bind fun t451=>(laws_FnSealUnder.l0 k2 t444 t451 (wrap64 (x8_2 + 1)) t432 t433 t434 t437 t438 t439)) else (none)) = some r:=by rw [if_neg (show ¬ (false = true) by decide)] at H;exact H
          clear H
          have H:=H1
          clear H1
          by_cases c54:0 ≤ x8_2
          ·rw [if_pos c54] at H
           have c54b0:decide (0 ≤ x8_2) = true:=decide_eq_true c54
           clear c54
           replace H:=Option.bind_eq_some_iff.mp H
           obtain ⟨t451,A550,H⟩:=H
           replace H:(laws_FnSealUnder.l0 k2 t444 t451 (wrap64 (x8_2 + 1)) t432 t433 t434 t437 t438 t439) = some r:=H
           have A55:=Aside0.mk A550
           clear A550
           have H':=Aside0.mk H
           clear H
           have hnb56:=NB443_442.out
           have hnc56:=NB442_443.out
           have hcz57_0:wr.cell? ⟨gb443,0,none⟩ = some (.int .i64 t437):=(blk_cell BK443.out 0).trans rfl
           have hcz57_1:wr.cell? ⟨gb443,1,none⟩ = some (.int .i64 t438):=(blk_cell BK443.out 1).trans rfl
           have hcz57_2:wr.cell? ⟨gb443,2,none⟩ = some (.slice Ao27 t439.length co27):=(blk_cell BK443.out 2).trans rfl
           have hfz57_0:=blk_frozen BK443.out 0
           have hfz57_1:=blk_frozen BK443.out 1
           have hfz57_2:=blk_frozen BK443.out 2
           try go_wp2
           have n0_:=Aside0.mk (Kd.V_drew HO_443002.out)
           have n1_:=Aside0.mk (Kd.V_drew HO_444002.out)
           have n2_:=Aside0.mk (blk_drew BK442.out)
           have n3_:=Aside0.mk (blk_drew BK443.out)
           have n4_:=Aside0.mk (below_drew1 HB.out)
           clear HO_443002
           clear HO_444002
           clear BK442
           clear BK443
           clear HB
           have HO_443002:=n0_
           have HO_444002:=n1_
           have BK442:=n2_
           have BK443:=n3_
           have HB:=n4_
           clear n0_ n1_ n2_ n3_ n4_
           have p450:0 ≤ (x8_2:Int):=of_decide_eq_true (by first | (with_reducible assumption) | assumption)
           have q450:x8_2 < (t439.length:Int):=of_decide_eq_true (by first | (with_reducible assumption) | assumption)
           obtain ⟨ad450,A450_2,c450_2,e450,hx450_0,hx450_1,hx450_2,hl450_2,hi450_2⟩:=at_T25 (Kd.V_reads' HO_444002.out).2.2 x8_2 p450 q450
           cases e450
           obtain ⟨ce450,hce450,hMe450,hcc450⟩:=Kd.V_get HO_444002.out z25 x8_2 p450 (by first | exact q450 | exact of_decide_eq_true (by first | (with_reducible assumption) | assumption) | (have e_:=(Kd.V_reads' HO_444002.out).1;omega))
           obtain ⟨ua450_2,uc450_2,rfl,ul450_2,ge450_2⟩:=k25_openF hMe450
           have hv450_2:=hcc450 2 _ rfl
           rw [add_field _ _ 2 (by omega)] at hv450_2
           replace hv450_2:=Option.some.inj (hv450_2.symm.trans hx450_2)
           injection hv450_2 with hva_ hvn_ hvc_
           rw [hva_] at ge450_2
           rw [hvc_] at ul450_2
           have HL450_2:=Aside0.mk (show Kd.V k25 25 _ w.heap.size _ _ ((rd_T25 t439 x8_2).f2) from Kd.V_mk ul450_2 ge450_2)
           clear hva_ hvn_ hvc_ ge450_2 ul450_2
           clear hcc450 hce450
           have HR450_2:=Aside0.mk hi450_2
           have HC450_2:=Aside0.mk hl450_2
           clear hi450_2 hl450_2
           replace p450:=eq_true p450
           replace q450:=eq_true q450
           refine start_ (n:=11) (S:=fun w'=>w'.cell? ⟨gb442,0,none⟩ = some (.int .i64 t432)∧w'.cell? ⟨gb442,1,none⟩ = some (.int .i64 t433)∧w'.cell? ⟨gb442,2,none⟩ = some (.slice Ao25 t434.length co25)∧w'.cell? ⟨gb443,0,none⟩ = some (.int .i64 t437)∧w'.cell? ⟨gb443,1,none⟩ = some (.int .i64 t438)∧w'.cell? ⟨gb443,2,none⟩ = some (.slice (some ad450) t439.length co27)∧w'.cell? (ad450.add ((x8_2).toNat * 3)) = some (.int .i64 ((rd_T25 t439 x8_2).f0))∧w'.cell? ⟨(ad450.add ((x8_2).toNat * 3)).block,(ad450.add ((x8_2).toNat * 3)).off + 1,none⟩ = some (.int .i64 ((rd_T25 t439 x8_2).f1))∧w'.cell? ⟨(ad450.add ((x8_2).toNat * 3)).block,(ad450.add ((x8_2).toNat * 3)).off + 2,none⟩ = some (.slice A450_2 ((rd_T25 t439 x8_2).f2).length c450_2)) (ds:=[]) #[false,false,false,false,false,false,false,false,false,false,false] (by kernel_rfl) rfl rfl ⟨(blk_cell BK442.out 0).trans rfl,(blk_cell BK442.out 1).trans rfl,(blk_cell BK442.out 2).trans rfl,(blk_cell BK443.out 0).trans rfl,(blk_cell BK443.out 1).trans rfl,(blk_cell BK443.out 2).trans rfl,hx450_0,hx450_1,hx450_2⟩ (fun hHeld=>?_);refine with_tabW laws_FnSealUnder.tab14 laws_FnSealUnder.bits14 (fun HT_ HW_=>?_)
           generalize wr.drew = w58 at HO_443002 HO_444002 BK442 BK443 HB HL450_2 HR450_2 hx450_0 hx450_1 hx450_2 hHeld ⊢
           refine pure_ (i:=0) (N:=some 48) (v:=?_) (a':=?_) #[true,false,false,false,false,false,false,false,false,false,false] rfl rfl (any_of HT_.out (by kernel_rfl)) (fun _ _ _ h=>h) (Or.inl ⟨by rfl,?_⟩) ?_ ?_
           rotate_left;·intro w';go_simp;with_reducible rfl
           rotate_left;·simp only [Act.put,List.setIfInBounds_toArray,List.set_cons_zero,List.set_cons_succ,i64_w,i32_w];rfl
           refine pure_ (i:=1) (N:=some 49) (v:=?_) (a':=?_) #[true,true,false,false,false,false,false,false,false,false,false] rfl rfl (any_of HT_.out (by kernel_rfl)) (fun _ _ _ h=>h) (Or.inl ⟨by rfl,?_⟩) ?_ ?_
           rotate_left;·intro w';go_simp;with_reducible rfl
           rotate_left;·simp only [Act.put,List.setIfInBounds_toArray,List.set_cons_zero,List.set_cons_succ,i64_w,i32_w];rfl
           refine pure_ (i:=3) (N:=some 51) (v:=?_) (a':=?_) #[true,true,false,true,false,false,false,false,false,false,false] rfl rfl (any_of HT_.out (by kernel_rfl)) (fun _ _ _ h=>h) (Or.inl ⟨by rfl,?_⟩) ?_ ?_
           rotate_left;·intro w';go_simp;with_reducible rfl
           rotate_left;·simp only [Act.put,List.setIfInBounds_toArray,List.set_cons_zero,List.set_cons_succ,i64_w,i32_w];rfl
           refine pure_ (i:=5) (N:=some 53) (v:=?_) (a':=?_) #[true,true,false,true,false,true,false,false,false,false,false] rfl rfl (any_of HT_.out (by kernel_rfl)) (fun _ _ _ h=>h) (Or.inl ⟨by rfl,?_⟩) ?_ ?_
           rotate_left;·intro w';go_simp;with_reducible rfl
           rotate_left;·simp only [Act.put,List.setIfInBounds_toArray,List.set_cons_zero,List.set_cons_succ,i64_w,i32_w];rfl
           refine take_ (i:=2) (N:=some 50) (v:=?_) (a':=?_) #[true,true,true,true,false,true,false,false,false,false,false] rfl rfl (take_ofW HT_.out HW_.out (by kernel_rfl)) (fun _ _ _ h=>h) (Or.inl ⟨by rfl,?_⟩) hHeld ?_ ?_
           rotate_left;·rintro w' ⟨s0,s1,s2,s3,s4,s5,s6,s7,s8⟩;go_simp;with_reducible rfl
           rotate_left;·simp only [Act.put,List.setIfInBounds_toArray,List.set_cons_zero,List.set_cons_succ,i64_w,i32_w];rfl
           refine take_ (i:=4) (N:=some 52) (v:=?_) (a':=?_) #[true,true,true,true,true,true,false,false,false,false,false] rfl rfl (take_ofW HT_.out HW_.out (by kernel_rfl)) (fun _ _ _ h=>h) (Or.inl ⟨by rfl,?_⟩) hHeld ?_ ?_
           rotate_left;·rintro w' ⟨s0,s1,s2,s3,s4,s5,s6,s7,s8⟩;go_simp;with_reducible rfl
           rotate_left;·simp only [Act.put,List.setIfInBounds_toArray,List.set_cons_zero,List.set_cons_succ,i64_w,i32_w];rfl
           refine pure_ (i:=6) (N:=some 54) (v:=?_) (a':=?_) #[true,true,true,true,true,true,true,false,false,false,false] rfl rfl (any_of HT_.out (by kernel_rfl)) (fun _ _ _ h=>h) (Or.inl ⟨by rfl,?_⟩) ?_ ?_
           rotate_left;·intro w';go_simp;with_reducible rfl
           rotate_left;·simp only [Act.put,List.setIfInBounds_toArray,List.set_cons_zero,List.set_cons_succ,i64_w,i32_w];rfl
           refine take_ (i:=7) (N:=some 55) (v:=?_) (a':=?_) #[true,true,true,true,true,true,true,true,false,false,false] rfl rfl (take_ofW HT_.out HW_.out (by kernel_rfl)) (fun _ _ _ h=>h) (Or.inl ⟨by rfl,?_⟩) hHeld ?_ ?_
           rotate_left;·rintro w' ⟨s0,s1,s2,s3,s4,s5,s6,s7,s8⟩;go_simp;with_reducible rfl
           rotate_left;·simp only [Act.put,List.setIfInBounds_toArray,List.set_cons_zero,List.set_cons_succ,i64_w,i32_w];rfl
           refine one_ (i:=8) (N:=some 56) #[true,true,true,true,true,true,true,true,true,false,false] rfl rfl (one_of HT_.out (by kernel_rfl)) (by decide) (fun K hK=>?_)
           refine goes_ Tryd.func17 (by kernel_rfl) rfl #[.agg #[.int .i64 t432,.int .i64 t433,.slice Ao25 t434.length co25],.agg #[.int .i64 ((rd_T25 t439 x8_2).f0),.int .i64 ((rd_T25 t439 x8_2).f1),.slice A450_2 ((rd_T25 t439 x8_2).f2).length c450_2]] (by rfl) rfl rfl (by (try simp only [List.map_toArray,List.map_cons,List.map_nil]);first | done | rfl | (simp only [List.length_drop,List.length_take];rfl)) ?_
           with_reducible refine (impl_SealUnder.calls k2 t432 t433 _ _ t434 ((rd_T25 t439 x8_2).f0) ((rd_T25 t439 x8_2).f1) _ _ ((rd_T25 t439 x8_2).f2) t451 _ ?side1 ?side2 ?side3 ?side4 A55.out).mono ?_
           (case side1=>repeat (first | exact (Kd.V_reads' HO_443002.out).2.2 | (with_reducible refine Kd.C_alloc ?_ _) | (with_reducible refine Kd.C_drewN ?_ _) | (with_reducible refine Kd.C_drew ?_)))
           (case side2=>exact (Kd.V_reads' HO_443002.out).2.1)
           (case side3=>repeat (first | exact (by repeat (first | (with_reducible exact HR450_2.out) | (with_reducible refine Kd.C_alloc ?_ _) | (with_reducible refine Kd.C_drewN ?_ _) | (with_reducible refine Kd.C_drew ?_) | exact HR450_2.out)) | (with_reducible refine Kd.C_alloc ?_ _) | (with_reducible refine Kd.C_drewN ?_ _) | (with_reducible refine Kd.C_drew ?_)))
           (case side4=>exact HC450_2.out)
           rintro e w59 ⟨rfl,hb⟩
           have HS6_:=(hb.cell (World.block_lt_of_cell? _ _ (hHeld.2.2.2.2.2.2.1))).trans (hHeld.2.2.2.2.2.2.1)
           have HS7_:=(hb.cell (World.block_lt_of_cell? _ _ (hHeld.2.2.2.2.2.2.2.1))).trans (hHeld.2.2.2.2.2.2.2.1)
           have HS8_:=(hb.cell (World.block_lt_of_cell? _ _ (hHeld.2.2.2.2.2.2.2.2))).trans (hHeld.2.2.2.2.2.2.2.2)
           refine ⟨_,rfl,?_⟩
           have n0_:=Aside0.mk (Kd.V_below (by (with_reducible repeat (first | apply Kd.V_alloc | apply Kd.V_drewN | apply Kd.V_drew));exact HO_443002.out) hb)
           have n1_:=Aside0.mk (Kd.V_below (by (with_reducible repeat (first | apply Kd.V_alloc | apply Kd.V_drewN | apply Kd.V_drew));exact HO_444002.out) hb)
           have n2_:=Aside0.mk (Kd.V_below (by (with_reducible repeat (first | apply Kd.V_alloc | apply Kd.V_drewN | apply Kd.V_drew));exact HL450_2.out) hb)
           have n3_:=Aside0.mk (blk_below (g:=gb442) (o:=.cells #[.int .i64 t432,.int .i64 t433,.slice Ao25 t434.length co25] 25 (0,0)) (by (with_reducible repeat (first | refine blk_drewN ?_ _ | refine blk_drew ?_ | refine blk_alloc ?_ _));exact BK442.out) hb)
           have n4_:=Aside0.mk (blk_below (g:=gb443) (o:=.cells #[.int .i64 t437,.int .i64 t438,.slice (some ad450) t439.length co27] 25 (0,0)) (by (with_reducible repeat (first | refine blk_drewN ?_ _ | refine blk_drew ?_ | refine blk_alloc ?_ _));exact BK443.out) hb)
           have n5_:=Aside0.mk (Kd.C_below (by repeat (first | (with_reducible exact HR450_2.out) | (with_reducible refine Kd.C_alloc ?_ _) | (with_reducible refine Kd.C_drewN ?_ _) | (with_reducible refine Kd.C_drew ?_) | exact HR450_2.out)) hb)
           have n6_:=Aside0.mk (below_step (by repeat (first | (with_reducible first | exact HB.out | apply below_alloc | apply pw_below_drewN | apply below_drew1 | refine below_set ?_ GE442.out | refine below_set ?_ GE443.out) | exact HB.out)) hb)
           clear HO_443002
           clear HO_444002
           clear HL450_2
           clear BK442
           clear BK443
           clear HR450_2
           clear HB
           have HO_443002:=n0_
           have HO_444002:=n1_
           have HL450_2:=n2_
           have BK442:=n3_
           have BK443:=n4_
           have HR450_2:=n5_
           have HB:=n6_
           clear n0_ n1_ n2_ n3_ n4_ n5_ n6_
           (try clear hb)
           (try clear hb2)
           (try clear hk)
           (try clear hi)
           refine hK.out _ _ ⟨(blk_cell BK442.out 0).trans rfl,(blk_cell BK442.out 1).trans rfl,(blk_cell BK442.out 2).trans rfl,(blk_cell BK443.out 0).trans rfl,(blk_cell BK443.out 1).trans rfl,(blk_cell BK443.out 2).trans rfl,HS6_,HS7_,HS8_⟩ (fun hHeld=>?_)
           clear hK K
           refine norm_ (a':=?_) ?_ ?_
           rotate_left
           ·show Act.put _ (some 56) _ = _
            simp only [Act.put,List.setIfInBounds_toArray,List.set_cons_zero,List.set_cons_succ,i64_w,i32_w]
            rfl
           refine pure_ (i:=9) (N:=some 57) (v:=?_) (a':=?_) #[true,true,true,true,true,true,true,true,true,true,false] rfl rfl (any_of HT_.out (by kernel_rfl)) (fun _ _ _ h=>h) (Or.inl ⟨by rfl,?_⟩) ?_ ?_
           rotate_left;·intro w';go_simp;with_reducible rfl
           rotate_left;·simp only [Act.put,List.setIfInBounds_toArray,List.set_cons_zero,List.set_cons_succ,i64_w,i32_w];rfl
           refine pure_ (i:=10) (N:=some 7) (v:=?_) (a':=?_) #[true,true,true,true,true,true,true,true,true,true,true] rfl rfl (any_of HT_.out (by kernel_rfl)) (fun _ _ _ h=>h) (Or.inl ⟨by rfl,?_⟩) ?_ ?_
           rotate_left;·intro w';go_simp;with_reducible rfl
           rotate_left;·simp only [Act.put,List.setIfInBounds_toArray,List.set_cons_zero,List.set_cons_succ,i64_w,i32_w];rfl
           refine done_ (done_of HT_.out (by kernel_rfl)) ?_
           try go_wp2
           go_roundg k2
           case measure=>have:=HJ18.out;have:=HK2.out;omega
           case rel=>exact ⟨(t451),(wrap64 (x8_2 + 1)),(by first | rfl | (simp;done) | (simp [*];done)),(by first | rfl | (simp;done) | (simp [*];done)),H',⟨by have:=HJ18.out;have:=HK2.out;omega⟩,⟨by (with_reducible repeat (first | apply Kd.V_alloc | apply Kd.V_drewN | apply Kd.V_drew));exact HO_443002.out⟩,⟨by (with_reducible repeat (first | apply Kd.V_alloc | apply Kd.V_drewN | apply Kd.V_drew));exact HO_444002.out⟩,⟨by (with_reducible repeat (first | refine blk_drewN ?_ _ | refine blk_drew ?_ | refine blk_alloc ?_ _));exact BK442.out⟩,⟨by (with_reducible repeat (first | refine blk_drewN ?_ _ | refine blk_drew ?_ | refine blk_alloc ?_ _));exact BK443.out⟩,⟨by repeat (first | (with_reducible first | exact HB.out | apply below_alloc | apply pw_below_drewN | apply below_drew1 | refine below_set ?_ GE442.out | refine below_set ?_ GE443.out) | exact HB.out)⟩⟩
          ·rw [if_neg c54] at H
           exact absurd H (by simp)
        ·rw [if_neg c49] at H
         have c49b0:decide (x8_2 < (t439.length:Int)) = false:=decide_eq_false c49
         clear c49
         obtain rfl:=Option.some.inj H
         have hnb60:=NB443_442.out
         have hnc60:=NB442_443.out
         have hcz61_0:wr.cell? ⟨gb443,0,none⟩ = some (.int .i64 t437):=(blk_cell BK443.out 0).trans rfl
         have hcz61_1:wr.cell? ⟨gb443,1,none⟩ = some (.int .i64 t438):=(blk_cell BK443.out 1).trans rfl
         have hcz61_2:wr.cell? ⟨gb443,2,none⟩ = some (.slice Ao27 t439.length co27):=(blk_cell BK443.out 2).trans rfl
         have hfz61_0:=blk_frozen BK443.out 0
         have hfz61_1:=blk_frozen BK443.out 1
         have hfz61_2:=blk_frozen BK443.out 2
         go_wp2
         go_ret
         exact ⟨by first | rfl | (simp [errW_none,errW_some] <;> rfl) | (simp [*,errW_none,errW_some] <;> rfl),by repeat (first | (with_reducible first | exact HB.out | apply below_alloc | apply pw_below_drewN | apply below_drew1 | refine below_set ?_ GE442.out | refine below_set ?_ GE443.out) | exact HB.out)⟩
def laws_FnSealUnder.Pure:Prop:=∀ (l0:List Int),l0.length ≤ maxLen → l0.length * 1 ≤ 140737488351232 → (∀ x ∈ l0,(Lit.int .u8 x).wf = true) → ∃ k,laws_FnSealUnder.f k l0 = some true
theorem laws_FnSealUnder.walk (P:laws_FnSealUnder.Pure) (a0:Option Addr) (len0 cap0:Nat) (z0:List Int) (w:World) (w0:(a0 = none∧len0 = 0∧cap0 = 0∧z0 = []) ∨ ∃ x,a0 = some x∧len0 ≤ cap0∧cap0 ≤ maxLen∧z0.length = cap0∧(∀ i,i < z0.length → w.cell? (x.add i) = some (.int .u8 (z0.getD i 0)))∧∀ n ∈ z0,(Lit.int .u8 n).wf = true) (y0:len0 * 1 ≤ 140737488351232) :
  Calls Tryd.prog 7 #[.slice a0 len0 cap0] w fun e w'=>e = .returned (.bool true)∧Below w.heap.size w w':=by
 obtain ⟨l0,rfl,hr0,hm0,hw0,hc0⟩:=ReadsInt.ofRowC w0
 obtain ⟨k,h⟩:=P l0 hm0 y0 hw0
 refine (laws_FnSealUnder.calls k _ _ l0 true w (Kd.C_of_reads (d:=(0:Int)) (h1:=fun _=>rfl) hr0) hc0 h).mono ?_
 rintro e w' ⟨rfl,hd⟩
 exact ⟨rfl,hd⟩
end Go.Proofs.YtbcjpdahdecehaaDoor.P
