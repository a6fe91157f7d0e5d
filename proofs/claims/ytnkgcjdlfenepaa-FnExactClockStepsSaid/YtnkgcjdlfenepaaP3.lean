/- What the Go functions that the laws reach compute, and that their calls come to just that: told by a program of this session (aprint.py). No condition. -/
import Derived.Test.YtnkgcjdlfenepaaP0
import Derived.Test.YtnkgcjdlfenepaaP1
import Derived.Test.YtnkgcjdlfenepaaP2
import Derived.Test.YtnkgcjdlfenepaaCut
namespace Go.Proofs.Ytnkgcjdlfenepaa.P
open Go.RowKit Go.Proofs.YtnkgcjdlfenepaaW.PrintWords Go.Proofs.YtnkgcjdlfenepaaW.PrintLast Go.Proofs.YtnkgcjdlfenepaaW.PrintMore
attribute [local go_sem] max2_int min2_int max_two min_two max_three min_three max_four min_four
set_option linter.unusedVariables false
set_option linter.unusedSimpArgs false
def laws_eqTick.f (k:Nat) (a0_0:Int) (a0_1:Int) (a0_2:Int) (l0_3:List (S29)) (a1_0:Int) (a1_1:Int) (a1_2:Int) (l1_3:List (S29)):Option (Bool):=if a0_0 = a1_0 then ((laws_eqClock.f k a0_1 a0_2 l0_3 a1_1 a1_2 l1_3).bind fun t674=>(if t674 = true then (some true) else (some false))) else (some false)
theorem laws_eqTick.mono:∀ a0 a1 a2 a3 a4 a5 a6 a7 k,LeO (laws_eqTick.f k a0 a1 a2 a3 a4 a5 a6 a7) (laws_eqTick.f (k + 1) a0 a1 a2 a3 a4 a5 a6 a7):=by
 intro a0 a1 a2 a3 a4 a5 a6 a7 k
 unfold laws_eqTick.f
 repeat' first
   | (with_reducible exact laws_eqClock.mono _ _ _ _ _ _ _)
   | (with_reducible exact LeO.refl _)
   | (with_reducible exact LeO.none _)
   | (with_reducible refine LeO.ite ?_ ?_)
   | (with_reducible refine LeO.bind ?_ (fun _=>?_))
   | exact laws_eqClock.mono _ _ _ _ _ _ _
   | exact LeO.none _
   | refine LeO.ite ?_ ?_
   | refine LeO.bind ?_ (fun _=>?_)
set_option maxHeartbeats 8000000 in
set_option maxRecDepth 100000 in
theorem laws_eqTick.calls (k:Nat) (a0_0:Int) (a0_1:Int) (a0_2:Int) (A0_3:Option Addr) (c0_3:Nat) (l0_3:List (S29)) (a1_0:Int) (a1_1:Int) (a1_2:Int) (A1_3:Option Addr) (c1_3:Nat) (l1_3:List (S29)) (r:Bool) (w:World) (hr0_3:Kd.C k29 w A0_3 l0_3.length l0_3) (hc0_3:l0_3.length ≤ c0_3) (hr1_3:Kd.C k29 w A1_3 l1_3.length l1_3) (hc1_3:l1_3.length ≤ c1_3) (h:laws_eqTick.f k a0_0 a0_1 a0_2 l0_3 a1_0 a1_1 a1_2 l1_3 = some r) :
  Calls Try.prog 53 #[.agg #[.int .i64 a0_0,.int .i64 a0_1,.int .i64 a0_2,.slice A0_3 l0_3.length c0_3],.agg #[.int .i64 a1_0,.int .i64 a1_1,.int .i64 a1_2,.slice A1_3 l1_3.length c1_3]] w fun e w'=>e = .returned (.bool r)∧Below w.heap.size w w':=by
 have hu44:=Try.underlying44
 have hu29:=Try.underlying29
 have HR0_3:=Aside0.mk hr0_3
 have HC0_3:=Aside0.mk hc0_3
 clear hr0_3 hc0_3
 have HR1_3:=Aside0.mk hr1_3
 have HC1_3:=Aside0.mk hc1_3
 clear hr1_3 hc1_3
 have HB:=Aside0.mk (Below.refl w.heap.size w)
 have H:(if a0_0 = a1_0 then ((laws_eqClock.f k a0_1 a0_2 l0_3 a1_1 a1_2 l1_3).bind fun t674=>(if t674 = true then (some true) else (some false))) else (some false)) = some r:=h
 clear h
 by_cases c3:a0_0 = a1_0
 ·rw [if_pos c3] at H
  have c3b0:(a0_0 == a1_0) = true:=beq_iff_eq.mpr c3
  have c3b1:(a0_0 != a1_0) = false:=bne_eq_false_iff_eq.mpr c3
  clear c3
  replace H:=Option.bind_eq_some_iff.mp H
  obtain ⟨t674,A40,H⟩:=H
  replace H:(if t674 = true then (some true) else (some false)) = some r:=H
  have A4:=Aside0.mk A40
  clear A40
  by_cases c5:t674 = true
  ·subst c5
   have H1:(some true) = some r:=by rw [if_pos rfl] at H;exact H
   clear H
   have H:=H1
   clear H1
   obtain rfl:=Option.some.inj H
   go_enter Try.func53,Try.ntmps53
   go_wp2_with (first | ((with_reducible refine gate_dst (N:=2) rfl ?_);refine box_event ?hg (N:=2) ?hd (cs:=#[.int .i64 a0_0,.int .i64 a0_1,.int .i64 a0_2,.slice A0_3 l0_3.length c0_3]) (t:=44) ?hr ?_;(case hd=>rfl);(case hg=>rfl);(case hr=>first | (go_simp;done) | (go_simp;rfl));intro gb672 hg w6 hbox hb;have n0_:=Aside0.mk (below_step (by repeat (first | (with_reducible first | exact HB.out | apply below_alloc | apply pw_below_drewN | apply below_drew1) | exact HB.out)) hb);have n1_:=Aside0.mk (hbox);have n2_:=Aside0.mk ((by rw [hg];exact (below_size (by repeat (first | (with_reducible first | exact HB.out | apply below_alloc | apply pw_below_drewN | apply below_drew1) | exact HB.out))):w.heap.size ≤ gb672));have n3_:=Aside0.mk ((by rw [hg];exact (below_size (by repeat (first | (with_reducible first | exact HB.out | apply below_alloc | apply pw_below_drewN | apply below_drew1) | exact HB.out))):w.heap.size ≤ gb672));clear HB;have HB:=n0_;have BK672:=n1_;have GW672:=n2_;have GE672:=n3_;clear n0_ n1_ n2_ n3_;clear hb hbox hg) | ((with_reducible refine gate_dst (N:=3) rfl ?_);refine box_event ?hg (N:=3) ?hd (cs:=#[.int .i64 a1_0,.int .i64 a1_1,.int .i64 a1_2,.slice A1_3 l1_3.length c1_3]) (t:=44) ?hr ?_;(case hd=>rfl);(case hg=>rfl);(case hr=>first | (go_simp;done) | (go_simp;rfl));intro gb673 hg w7 hbox hb;have n0_:=Aside0.mk (blk_below (g:=gb672) (o:=.cells #[.int .i64 a0_0,.int .i64 a0_1,.int .i64 a0_2,.slice A0_3 l0_3.length c0_3] 44 (0,0)) (by (with_reducible repeat (first | refine blk_drewN ?_ _ | refine blk_drew ?_ | refine blk_alloc ?_ _));exact BK672.out) hb);have n1_:=Aside0.mk (below_step (by repeat (first | (with_reducible first | exact HB.out | apply below_alloc | apply pw_below_drewN | apply below_drew1 | refine below_set ?_ GE672.out) | exact HB.out)) hb);have n2_:=Aside0.mk (hbox);have n3_:=Aside0.mk ((by rw [hg];exact (below_size (by repeat (first | (with_reducible first | exact HB.out | apply below_alloc | apply pw_below_drewN | apply below_drew1 | refine below_set ?_ GE672.out) | exact HB.out))):w.heap.size ≤ gb673));have n4_:=Aside0.mk ((by rw [hg];exact (below_size (by repeat (first | (with_reducible first | exact HB.out | apply below_alloc | apply pw_below_drewN | apply below_drew1 | refine below_set ?_ GE672.out) | exact HB.out))):w.heap.size ≤ gb673));have n5_:=Aside0.mk ((by rw [hg];exact Nat.ne_of_lt (blk_lt (g:=gb672) (o:=.cells #[.int .i64 a0_0,.int .i64 a0_1,.int .i64 a0_2,.slice A0_3 l0_3.length c0_3] 44 (0,0)) (by (with_reducible repeat (first | refine blk_drewN ?_ _ | refine blk_drew ?_ | refine blk_alloc ?_ _));exact BK672.out)):gb672 ≠ gb673));have n6_:=Aside0.mk ((by rw [hg];exact Nat.ne_of_gt (blk_lt (g:=gb672) (o:=.cells #[.int .i64 a0_0,.int .i64 a0_1,.int .i64 a0_2,.slice A0_3 l0_3.length c0_3] 44 (0,0)) (by (with_reducible repeat (first | refine blk_drewN ?_ _ | refine blk_drew ?_ | refine blk_alloc ?_ _));exact BK672.out)):gb673 ≠ gb672));clear BK672;clear HB;have BK672:=n0_;have HB:=n1_;have BK673:=n2_;have GW673:=n3_;have GE673:=n4_;have NB672_673:=n5_;have NB673_672:=n6_;clear n0_ n1_ n2_ n3_ n4_ n5_ n6_;clear hb hbox hg;have hnb8:=NB672_673.out;have hnc8:=NB673_672.out;have hcz9_0:w7.cell? ⟨gb672,0,none⟩ = some (.int .i64 a0_0):=(blk_cell BK672.out 0).trans rfl;have hcz9_1:w7.cell? ⟨gb672,1,none⟩ = some (.int .i64 a0_1):=(blk_cell BK672.out 1).trans rfl;have hcz9_2:w7.cell? ⟨gb672,2,none⟩ = some (.int .i64 a0_2):=(blk_cell BK672.out 2).trans rfl;have hcz9_3:w7.cell? ⟨gb672,3,none⟩ = some (.slice A0_3 l0_3.length c0_3):=(blk_cell BK672.out 3).trans rfl;have hfz9_0:=blk_frozen BK672.out 0;have hfz9_1:=blk_frozen BK672.out 1;have hfz9_2:=blk_frozen BK672.out 2;have hfz9_3:=blk_frozen BK672.out 3;have hcz10_0:w7.cell? ⟨gb673,0,none⟩ = some (.int .i64 a1_0):=(blk_cell BK673.out 0).trans rfl;have hcz10_1:w7.cell? ⟨gb673,1,none⟩ = some (.int .i64 a1_1):=(blk_cell BK673.out 1).trans rfl;have hcz10_2:w7.cell? ⟨gb673,2,none⟩ = some (.int .i64 a1_2):=(blk_cell BK673.out 2).trans rfl;have hcz10_3:w7.cell? ⟨gb673,3,none⟩ = some (.slice A1_3 l1_3.length c1_3):=(blk_cell BK673.out 3).trans rfl;have hfz10_0:=blk_frozen BK673.out 0;have hfz10_1:=blk_frozen BK673.out 1;have hfz10_2:=blk_frozen BK673.out 2;have hfz10_3:=blk_frozen BK673.out 3) | ((with_reducible refine gate_callee (f:=17) rfl ?_);refine goesL_ (some 14) rfl rfl Try.func17 (by kernel_rfl) rfl #[.agg #[.int .i64 a0_1,.int .i64 a0_2,.slice A0_3 l0_3.length c0_3],.agg #[.int .i64 a1_1,.int .i64 a1_2,.slice A1_3 l1_3.length c1_3]] rfl (by (try simp only [List.map_toArray,List.map_cons,List.map_nil]);first | done | rfl | (simp only [List.length_drop,List.length_take];rfl)) ?_;(with_reducible refine (laws_eqClock.calls k a0_1 a0_2 _ _ l0_3 a1_1 a1_2 _ _ l1_3 true _ ?side1 ?side2 ?side3 ?side4 A4.out).mono ?_);(case side1=>repeat (first | exact (Kd.C_below HR0_3.out HB.out) | (with_reducible refine Kd.C_alloc ?_ _) | (with_reducible refine Kd.C_drewN ?_ _) | (with_reducible refine Kd.C_drew ?_)));(case side2=>exact HC0_3.out);(case side3=>repeat (first | exact (Kd.C_below HR1_3.out HB.out) | (with_reducible refine Kd.C_alloc ?_ _) | (with_reducible refine Kd.C_drewN ?_ _) | (with_reducible refine Kd.C_drew ?_)));(case side4=>exact HC1_3.out);rintro e w11 ⟨rfl,hb⟩;refine ⟨_,rfl,?_⟩;have n0_:=Aside0.mk (blk_below (g:=gb672) (o:=.cells #[.int .i64 a0_0,.int .i64 a0_1,.int .i64 a0_2,.slice A0_3 l0_3.length c0_3] 44 (0,0)) (by (with_reducible repeat (first | refine blk_drewN ?_ _ | refine blk_drew ?_ | refine blk_alloc ?_ _));exact BK672.out) hb);have n1_:=Aside0.mk (blk_below (g:=gb673) (o:=.cells #[.int .i64 a1_0,.int .i64 a1_1,.int .i64 a1_2,.slice A1_3 l1_3.length c1_3] 44 (0,0)) (by (with_reducible repeat (first | refine blk_drewN ?_ _ | refine blk_drew ?_ | refine blk_alloc ?_ _));exact BK673.out) hb);have n2_:=Aside0.mk (below_step (by repeat (first | (with_reducible first | exact HB.out | apply below_alloc | apply pw_below_drewN | apply below_drew1 | refine below_set ?_ GE672.out | refine below_set ?_ GE673.out) | exact HB.out)) hb);clear BK672;clear BK673;clear HB;have BK672:=n0_;have BK673:=n1_;have HB:=n2_;clear n0_ n1_ n2_;(try clear hb);(try clear hb2);(try clear hk);(try clear hi)))
   go_ret
   exact ⟨by first | rfl | (simp [errW_none,errW_some] <;> rfl) | (simp [*,errW_none,errW_some] <;> rfl),by repeat (first | (with_reducible first | exact HB.out | apply below_alloc | apply pw_below_drewN | apply below_drew1 | refine below_set ?_ GE672.out | refine below_set ?_ GE673.out) | exact HB.out)⟩
  ·replace c5:=Bool.eq_false_iff.mpr c5
   subst c5
   have H1:(some false) = some r:=by rw [if_neg (show ¬ (false = true) by decide)] at H;exact H
   clear H
   have H:=H1
   clear H1
   obtain rfl:=Option.some.inj H
   go_enter Try.func53,Try.ntmps53
   go_wp2_with (first | ((with_reducible refine gate_dst (N:=2) rfl ?_);refine box_event ?hg (N:=2) ?hd (cs:=#[.int .i64 a0_0,.int .i64 a0_1,.int .i64 a0_2,.slice A0_3 l0_3.length c0_3]) (t:=44) ?hr ?_;(case hd=>rfl);(case hg=>rfl);(case hr=>first | (go_simp;done) | (go_simp;rfl));intro gb672 hg w12 hbox hb;have n0_:=Aside0.mk (below_step (by repeat (first | (with_reducible first | exact HB.out | apply below_alloc | apply pw_below_drewN | apply below_drew1) | exact HB.out)) hb);have n1_:=Aside0.mk (hbox);have n2_:=Aside0.mk ((by rw [hg];exact (below_size (by repeat (first | (with_reducible first | exact HB.out | apply below_alloc | apply pw_below_drewN | apply below_drew1) | exact HB.out))):w.heap.size ≤ gb672));have n3_:=Aside0.mk ((by rw [hg];exact (below_size (by repeat (first | (with_reducible first | exact HB.out | apply below_alloc | apply pw_below_drewN | apply below_drew1) | exact HB.out))):w.heap.size ≤ gb672));clear HB;have HB:=n0_;have BK672:=n1_;have GW672:=n2_;have GE672:=n3_;clear n0_ n1_ n2_ n3_;clear hb hbox hg) | ((with_reducible refine gate_dst (N:=3) rfl ?_);refine box_event ?hg (N:=3) ?hd (cs:=#[.int .i64 a1_0,.int .i64 a1_1,.int .i64 a1_2,.slice A1_3 l1_3.length c1_3]) (t:=44) ?hr ?_;(case hd=>rfl);(case hg=>rfl);(case hr=>first | (go_simp;done) | (go_simp;rfl));intro gb673 hg w13 hbox hb;have n0_:=Aside0.mk (blk_below (g:=gb672) (o:=.cells #[.int .i64 a0_0,.int .i64 a0_1,.int .i64 a0_2,.slice A0_3 l0_3.length c0_3] 44 (0,0)) (by (with_reducible repeat (first | refine blk_drewN ?_ _ | refine blk_drew ?_ | refine blk_alloc ?_ _));exact BK672.out) hb);have n1_:=Aside0.mk (below_step (by repeat (first | (with_reducible first | exact HB.out | apply below_alloc | apply pw_below_drewN | apply below_drew1 | refine below_set ?_ GE672.out) | exact HB.out)) hb);have n2_:=Aside0.mk (hbox);have n3_:=Aside0.mk ((by rw [hg];exact (below_size (by repeat (first | (with_reducible first | exact HB.out | apply below_alloc | apply pw_below_drewN | apply below_drew1 | refine below_set ?_ GE672.out) | exact HB.out))):w.heap.size ≤ gb673));have n4_:=Aside0.mk ((by rw [hg];exact (below_size (by repeat (first | (with_reducible first | exact HB.out | apply below_alloc | apply pw_below_drewN | apply below_drew1 | refine below_set ?_ GE672.out) | exact HB.out))):w.heap.size ≤ gb673));have n5_:=Aside0.mk ((by rw [hg];exact Nat.ne_of_lt (blk_lt (g:=gb672) (o:=.cells #[.int .i64 a0_0,.int .i64 a0_1,.int .i64 a0_2,.slice A0_3 l0_3.length c0_3] 44 (0,0)) (by (with_reducible repeat (first | refine blk_drewN ?_ _ | refine blk_drew ?_ | refine blk_alloc ?_ _));exact BK672.out)):gb672 ≠ gb673));have n6_:=Aside0.mk ((by rw [hg];exact Nat.ne_of_gt (blk_lt (g:=gb672) (o:=.cells #[.int .i64 a0_0,.int .i64 a0_1,.int .i64 a0_2,.slice A0_3 l0_3.length c0_3] 44 (0,0)) (by (with_reducible repeat (first | refine blk_drewN ?_ _ | refine blk_drew ?_ | refine blk_alloc ?_ _));exact BK672.out)):gb673 ≠ gb672));clear BK672;clear HB;have BK672:=n0_;have HB:=n1_;have BK673:=n2_;have GW673:=n3_;have GE673:=n4_;have NB672_673:=n5_;have NB673_672:=n6_;clear n0_ n1_ n2_ n3_ n4_ n5_ n6_;clear hb hbox hg;have hnb14:=NB672_673.out;have hnc14:=NB673_672.out;have hcz15_0:w13.cell? ⟨gb672,0,none⟩ = some (.int .i64 a0_0):=(blk_cell BK672.out 0).trans rfl;have hcz15_1:w13.cell? ⟨gb672,1,none⟩ = some (.int .i64 a0_1):=(blk_cell BK672.out 1).trans rfl;have hcz15_2:w13.cell? ⟨gb672,2,none⟩ = some (.int .i64 a0_2):=(blk_cell BK672.out 2).trans rfl;have hcz15_3:w13.cell? ⟨gb672,3,none⟩ = some (.slice A0_3 l0_3.length c0_3):=(blk_cell BK672.out 3).trans rfl;have hfz15_0:=blk_frozen BK672.out 0;have hfz15_1:=blk_frozen BK672.out 1;have hfz15_2:=blk_frozen BK672.out 2;have hfz15_3:=blk_frozen BK672.out 3;have hcz16_0:w13.cell? ⟨gb673,0,none⟩ = some (.int .i64 a1_0):=(blk_cell BK673.out 0).trans rfl;have hcz16_1:w13.cell? ⟨gb673,1,none⟩ = some (.int .i64 a1_1):=(blk_cell BK673.out 1).trans rfl;have hcz16_2:w13.cell? ⟨gb673,2,none⟩ = some (.int .i64 a1_2):=(blk_cell BK673.out 2).trans rfl;have hcz16_3:w13.cell? ⟨gb673,3,none⟩ = some (.slice A1_3 l1_3.length c1_3):=(blk_cell BK673.out 3).trans rfl;have hfz16_0:=blk_frozen BK673.out 0;have hfz16_1:=blk_frozen BK673.out 1;have hfz16_2:=blk_frozen BK673.out 2;have hfz16_3:=blk_frozen BK673.out 3) | ((with_reducible refine gate_callee (f:=17) rfl ?_);refine goesL_ (some 14) rfl rfl Try.func17 (by kernel_rfl) rfl #[.agg #[.int .i64 a0_1,.int .i64 a0_2,.slice A0_3 l0_3.length c0_3],.agg #[.int .i64 a1_1,.int .i64 a1_2,.slice A1_3 l1_3.length c1_3]] rfl (by (try simp only [List.map_toArray,List.map_cons,List.map_nil]);first | done | rfl | (simp only [List.length_drop,List.length_take];rfl)) ?_;(with_reducible refine (laws_eqClock.calls k a0_1 a0_2 _ _ l0_3 a1_1 a1_2 _ _ l1_3 false _ ?side1 ?side2 ?side3 ?side4 A4.out).mono ?_);(case side1=>repeat (first | exact (Kd.C_below HR0_3.out HB.out) | (with_reducible refine Kd.C_alloc ?_ _) | (with_reducible refine Kd.C_drewN ?_ _) | (with_reducible refine Kd.C_drew ?_)));(case side2=>exact HC0_3.out);(case side3=>repeat (first | exact (Kd.C_below HR1_3.out HB.out) | (with_reducible refine Kd.C_alloc ?_ _) | (with_reducible refine Kd.C_drewN ?_ _) | (with_reducible refine Kd.C_drew ?_)));(case side4=>exact HC1_3.out);rintro e w17 ⟨rfl,hb⟩;refine ⟨_,rfl,?_⟩;have n0_:=Aside0.mk (blk_below (g:=gb672) (o:=.cells #[.int .i64 a0_0,.int .i64 a0_1,.int .i64 a0_2,.slice A0_3 l0_3.length c0_3] 44 (0,0)) (by (with_reducible repeat (first | refine blk_drewN ?_ _ | refine blk_drew ?_ | refine blk_alloc ?_ _));exact BK672.out) hb);have n1_:=Aside0.mk (blk_below (g:=gb673) (o:=.cells #[.int .i64 a1_0,.int .i64 a1_1,.int .i64 a1_2,.slice A1_3 l1_3.length c1_3] 44 (0,0)) (by (with_reducible repeat (first | refine blk_drewN ?_ _ | refine blk_drew ?_ | refine blk_alloc ?_ _));exact BK673.out) hb);have n2_:=Aside0.mk (below_step (by repeat (first | (with_reducible first | exact HB.out | apply below_alloc | apply pw_below_drewN | apply below_drew1 | refine below_set ?_ GE672.out | refine below_set ?_ GE673.out) | exact HB.out)) hb);clear BK672;clear BK673;clear HB;have BK672:=n0_;have BK673:=n1_;have HB:=n2_;clear n0_ n1_ n2_;(try clear hb);(try clear hb2);(try clear hk);(try clear hi)))
   go_ret
   exact ⟨by first | rfl | (simp [errW_none,errW_some] <;> rfl) | (simp [*,errW_none,errW_some] <;> rfl),by repeat (first | (with_reducible first | exact HB.out | apply below_alloc | apply pw_below_drewN | apply below_drew1 | refine below_set ?_ GE672.out | refine below_set ?_ GE673.out) | exact HB.out)⟩
 ·rw [if_neg c3] at H
  have c3b0:(a0_0 == a1_0) = false:=beq_eq_false_iff_ne.mpr c3
  have c3b1:(a0_0 != a1_0) = true:=bne_iff_ne.mpr c3
  obtain rfl:=Option.some.inj H
  go_enter Try.func53,Try.ntmps53
  go_wp2_with (first | ((with_reducible refine gate_dst (N:=2) rfl ?_);refine box_event ?hg (N:=2) ?hd (cs:=#[.int .i64 a0_0,.int .i64 a0_1,.int .i64 a0_2,.slice A0_3 l0_3.length c0_3]) (t:=44) ?hr ?_;(case hd=>rfl);(case hg=>rfl);(case hr=>first | (go_simp;done) | (go_simp;rfl));intro gb672 hg w18 hbox hb;have n0_:=Aside0.mk (below_step (by repeat (first | (with_reducible first | exact HB.out | apply below_alloc | apply pw_below_drewN | apply below_drew1) | exact HB.out)) hb);have n1_:=Aside0.mk (hbox);have n2_:=Aside0.mk ((by rw [hg];exact (below_size (by repeat (first | (with_reducible first | exact HB.out | apply below_alloc | apply pw_below_drewN | apply below_drew1) | exact HB.out))):w.heap.size ≤ gb672));have n3_:=Aside0.mk ((by rw [hg];exact (below_size (by repeat (first | (with_reducible first | exact HB.out | apply below_alloc | apply pw_below_drewN | apply below_drew1) | exact HB.out))):w.heap.size ≤ gb672));clear HB;have HB:=n0_;have BK672:=n1_;have GW672:=n2_;have GE672:=n3_;clear n0_ n1_ n2_ n3_;clear hb hbox hg) | ((with_reducible refine gate_dst (N:=3) rfl ?_);refine box_event ?hg (N:=3) ?hd (cs:=#[.int .i64 a1_0,.int .i64 a1_1,.int .i64 a1_2,.slice A1_3 l1_3.length c1_3]) (t:=44) ?hr ?_;(case hd=>rfl);(case hg=>rfl);(case hr=>first | (go_simp;done) | (go_simp;rfl));intro gb673 hg w19 hbox hb;have n0_:=Aside0.mk (blk_below (g:=gb672) (o:=.cells #[.int .i64 a0_0,.int .i64 a0_1,.int .i64 a0_2,.slice A0_3 l0_3.length c0_3] 44 (0,0)) (by (with_reducible repeat (first | refine blk_drewN ?_ _ | refine blk_drew ?_ | refine blk_alloc ?_ _));exact BK672.out) hb);have n1_:=Aside0.mk (below_step (by repeat (first | (with_reducible first | exact HB.out | apply below_alloc | apply pw_below_drewN | apply below_drew1 | refine below_set ?_ GE672.out) | exact HB.out)) hb);have n2_:=Aside0.mk (hbox);have n3_:=Aside0.mk ((by rw [hg];exact (below_size (by repeat (first | (with_reducible first | exact HB.out | apply below_alloc | apply pw_below_drewN | apply below_drew1 | refine below_set ?_ GE672.out) | exact HB.out))):w.heap.size ≤ gb673));have n4_:=Aside0.mk ((by rw [hg];exact (below_size (by repeat (first | (with_reducible first | exact HB.out | apply below_alloc | apply pw_below_drewN | apply below_drew1 | refine below_set ?_ GE672.out) | exact HB.out))):w.heap.size ≤ gb673));have n5_:=Aside0.mk ((by rw [hg];exact Nat.ne_of_lt (blk_lt (g:=gb672) (o:=.cells #[.int .i64 a0_0,.int .i64 a0_1,.int .i64 a0_2,.slice A0_3 l0_3.length c0_3] 44 (0,0)) (by (with_reducible repeat (first | refine blk_drewN ?_ _ | refine blk_drew ?_ | refine blk_alloc ?_ _));exact BK672.out)):gb672 ≠ gb673));have n6_:=Aside0.mk ((by rw [hg];exact Nat.ne_of_gt (blk_lt (g:=gb672) (o:=.cells #[.int .i64 a0_0,.int .i64 a0_1,.int .i64 a0_2,.slice A0_3 l0_3.length c0_3] 44 (0,0)) (by (with_reducible repeat (first | refine blk_drewN ?_ _ | refine blk_drew ?_ | refine blk_alloc ?_ _));exact BK672.out)):gb673 ≠ gb672));clear BK672;clear HB;have BK672:=n0_;have HB:=n1_;have BK673:=n2_;have GW673:=n3_;have GE673:=n4_;have NB672_673:=n5_;have NB673_672:=n6_;clear n0_ n1_ n2_ n3_ n4_ n5_ n6_;clear hb hbox hg;have hnb20:=NB672_673.out;have hnc20:=NB673_672.out;have hcz21_0:w19.cell? ⟨gb672,0,none⟩ = some (.int .i64 a0_0):=(blk_cell BK672.out 0).trans rfl;have hcz21_1:w19.cell? ⟨gb672,1,none⟩ = some (.int .i64 a0_1):=(blk_cell BK672.out 1).trans rfl;have hcz21_2:w19.cell? ⟨gb672,2,none⟩ = some (.int .i64 a0_2):=(blk_cell BK672.out 2).trans rfl;have hcz21_3:w19.cell? ⟨gb672,3,none⟩ = some (.slice A0_3 l0_3.length c0_3):=(blk_cell BK672.out 3).trans rfl;have hfz21_0:=blk_frozen BK672.out 0;have hfz21_1:=blk_frozen BK672.out 1;have hfz21_2:=blk_frozen BK672.out 2;have hfz21_3:=blk_frozen BK672.out 3;have hcz22_0:w19.cell? ⟨gb673,0,none⟩ = some (.int .i64 a1_0):=(blk_cell BK673.out 0).trans rfl;have hcz22_1:w19.cell? ⟨gb673,1,none⟩ = some (.int .i64 a1_1):=(blk_cell BK673.out 1).trans rfl;have hcz22_2:w19.cell? ⟨gb673,2,none⟩ = some (.int .i64 a1_2):=(blk_cell BK673.out 2).trans rfl;have hcz22_3:w19.cell? ⟨gb673,3,none⟩ = some (.slice A1_3 l1_3.length c1_3):=(blk_cell BK673.out 3).trans rfl;have hfz22_0:=blk_frozen BK673.out 0;have hfz22_1:=blk_frozen BK673.out 1;have hfz22_2:=blk_frozen BK673.out 2;have hfz22_3:=blk_frozen BK673.out 3))
  go_ret
  exact ⟨by first | rfl | (simp [errW_none,errW_some] <;> rfl) | (simp [*,errW_none,errW_some] <;> rfl),by repeat (first | (with_reducible first | exact HB.out | apply below_alloc | apply pw_below_drewN | apply below_drew1 | refine below_set ?_ GE672.out | refine below_set ?_ GE673.out) | exact HB.out)⟩
def laws_eqTickS.l0:Nat → List (S44) → List (S44) → Int → Option (Bool)
 | 0,_,_,_=>none
 | k + 1,x0,x1,x5=>if x5 < (x0.length:Int) then (if 0 ≤ x5 then (if x5 < (x1.length:Int) then ((laws_eqTick.f k ((rd_T44 x0 x5).f0) ((rd_T44 x0 x5).f1.f0) ((rd_T44 x0 x5).f1.f1) ((rd_T44 x0 x5).f1.f2) ((rd_T44 x1 x5).f0) ((rd_T44 x1 x5).f1.f0) ((rd_T44 x1 x5).f1.f1) ((rd_T44 x1 x5).f1.f2)).bind fun t677=>(if t677 = true then (laws_eqTickS.l0 k x0 x1 (wrap64 (x5 + 1))) else (some false))) else (none)) else (none)) else (some true)
def laws_eqTickS.f (k:Nat) (l0:List (S44)) (l1:List (S44)):Option (Bool):=if (l0.length:Int) = (l1.length:Int) then (laws_eqTickS.l0 k l0 l1 0) else (some false)
theorem laws_eqTickS.mono_l:∀ k,(∀ y0 y1 y2,LeO (laws_eqTickS.l0 k y0 y1 y2) (laws_eqTickS.l0 (k + 1) y0 y1 y2))
 | 0=>fun _ _ _ r h=>by simp [laws_eqTickS.l0] at h
 | k + 1=>by
  have ih0:=laws_eqTickS.mono_l k
  ·intro y0 y1 y2
   unfold laws_eqTickS.l0
   repeat' first
   | (with_reducible exact ih0 _ _ _)
   | (with_reducible exact laws_eqTick.mono _ _ _ _ _ _ _ _ _)
   | (with_reducible exact LeO.refl _)
   | (with_reducible exact LeO.none _)
   | (with_reducible refine LeO.ite ?_ ?_)
   | (with_reducible refine LeO.bind ?_ (fun _=>?_))
   | exact ih0 _ _ _
   | exact laws_eqTick.mono _ _ _ _ _ _ _ _ _
   | exact LeO.none _
   | refine LeO.ite ?_ ?_
   | refine LeO.bind ?_ (fun _=>?_)
theorem laws_eqTickS.mono:∀ a0 a1 k,LeO (laws_eqTickS.f k a0 a1) (laws_eqTickS.f (k + 1) a0 a1):=by
 intro a0 a1 k
 have ih0:=laws_eqTickS.mono_l k
 unfold laws_eqTickS.f
 repeat' first
   | (with_reducible exact ih0 _ _ _)
   | (with_reducible exact laws_eqTick.mono _ _ _ _ _ _ _ _ _)
   | (with_reducible exact LeO.refl _)
   | (with_reducible exact LeO.none _)
   | (with_reducible refine LeO.ite ?_ ?_)
   | (with_reducible refine LeO.bind ?_ (fun _=>?_))
   | exact ih0 _ _ _
   | exact laws_eqTick.mono _ _ _ _ _ _ _ _ _
   | exact LeO.none _
   | refine LeO.ite ?_ ?_
   | refine LeO.bind ?_ (fun _=>?_)
def laws_eqTickS.T6:Bool × List (List Nat × List Nat):=(true,[([],[]),([],[]),([0,1],[0,1]),([2],[2]),([],[]),([],[]),([4,5],[4,5]),([6],[6]),([3,7],[3,7]),([8],[8])])
def laws_eqTickS.B6:List Nat:=[0,0,3,7,0,0,48,112,255,511]
theorem laws_eqTickS.tab6:rtab .any (opsOf Try.f26 6) = laws_eqTickS.T6:=by kernel_rfl
theorem laws_eqTickS.bits6:waitsOk laws_eqTickS.T6.2 laws_eqTickS.B6 = true:=by kernel_rfl
set_option maxHeartbeats 8000000 in
set_option maxRecDepth 100000 in
theorem laws_eqTickS.calls (k:Nat) (A0:Option Addr) (c0:Nat) (l0:List (S44)) (A1:Option Addr) (c1:Nat) (l1:List (S44)) (r:Bool) (w:World) (hr0:Kd.C k44 w A0 l0.length l0) (hc0:l0.length ≤ c0) (hr1:Kd.C k44 w A1 l1.length l1) (hc1:l1.length ≤ c1) (h:laws_eqTickS.f k l0 l1 = some r) :
  Calls Try.prog 26 #[.slice A0 l0.length c0,.slice A1 l1.length c1] w fun e w'=>e = .returned (.bool r)∧Below w.heap.size w w':=by
 have hu44:=Try.underlying44
 have HR0:=Aside0.mk hr0
 have HC0:=Aside0.mk hc0
 clear hr0 hc0
 have HR1:=Aside0.mk hr1
 have HC1:=Aside0.mk hc1
 clear hr1 hc1
 have HB:=Aside0.mk (Below.refl w.heap.size w)
 have H:(if (l0.length:Int) = (l1.length:Int) then (laws_eqTickS.l0 k l0 l1 0) else (some false)) = some r:=h
 clear h
 by_cases c3:(l0.length:Int) = (l1.length:Int)
 ·rw [if_pos c3] at H
  have c3b0:((l0.length:Int) == (l1.length:Int)) = true:=beq_iff_eq.mpr c3
  have c3b1:((l0.length:Int) != (l1.length:Int)) = false:=bne_eq_false_iff_eq.mpr c3
  have c3b2:(l0.length == l1.length) = true:=by first | simpa using c3 | (simp at c3 ⊢;omega)
  clear c3
  have H':=Aside0.mk H
  clear H
  go_enter Try.func26,Try.ntmps26
  go_wp2
  go_loopg [5] k (fun kq v5 w'=>∃ (x5_1:Int),v5 = .int .i64 x5_1∧Aside0 (laws_eqTickS.l0 kq l0 l1 x5_1 = some r)∧Aside0 (kq ≤ k)∧Aside0 (Below w.heap.size w w'))
  case atStart=>exact ⟨(0),(by first | rfl | (simp;done) | (simp [*];done)),H',⟨Nat.le_refl _⟩,⟨by repeat (first | (with_reducible first | exact HB.out | apply below_alloc | apply pw_below_drewN | apply below_drew1) | exact HB.out)⟩⟩
  case round =>
   clear H'
   try clear c1
   try clear c2
   try clear p2
   try clear c3
   try clear c3b0
   try clear c3b1
   try clear c3b2
   repeat (first | clear HB)
   obtain ⟨x5_1,rfl,HA,HK1,HB⟩:=hrel
   cases gk with
   | zero=>exact absurd HA.out (by simp [laws_eqTickS.l0])
   | succ k1 =>
    have H:=HA.out
    clear HA
    simp only [laws_eqTickS.l0] at H
    by_cases c4:x5_1 < (l0.length:Int)
    ·rw [if_pos c4] at H
     have c4b0:decide (x5_1 < (l0.length:Int)) = true:=decide_eq_true c4
     clear c4
     by_cases c5:0 ≤ x5_1
     ·rw [if_pos c5] at H
      have c5b0:decide (0 ≤ x5_1) = true:=decide_eq_true c5
      clear c5
      by_cases c6:x5_1 < (l1.length:Int)
      ·rw [if_pos c6] at H
       have c6b0:decide (x5_1 < (l1.length:Int)) = true:=decide_eq_true c6
       clear c6
       replace H:=Option.bind_eq_some_iff.mp H
       obtain ⟨t677,A70,H⟩:=H
       replace H:(if t677 = true then (laws_eqTickS.l0 k1 l0 l1 (wrap64 (x5_1 + 1))) else (some false)) = some r:=H
       have A7:=Aside0.mk A70
       clear A70
       by_cases c8:t677 = true
       ·subst c8
        have H1:(laws_eqTickS.l0 k1 l0 l1 (wrap64 (x5_1 + 1))) = some r:=by rw [if_pos rfl] at H;exact H
        clear H
        have H:=H1
        clear H1
        have H':=Aside0.mk H
        clear H
        try go_wp2
        have n0_:=Aside0.mk (below_drew1 HB.out)
        clear HB
        have HB:=n0_
        clear n0_
        have p675:0 ≤ (x5_1:Int):=of_decide_eq_true (by first | (with_reducible assumption) | assumption)
        have q675:x5_1 < (l0.length:Int):=of_decide_eq_true (by first | (with_reducible assumption) | assumption)
        obtain ⟨ad675,A675_3,c675_3,e675,hx675_0,hx675_1,hx675_2,hx675_3,hl675_3,hi675_3⟩:=at_T44 HR0.out x5_1 p675 q675
        have hw675_3:=hx675_3
        have hw675_2:=hx675_2
        have hw675_1:=hx675_1
        have hw675_0:=hx675_0
        cases e675
        replace hx675_0:=(HB.out.cell (World.block_lt_of_cell? w _ hx675_0)).trans hx675_0
        replace hx675_1:=(HB.out.cell (World.block_lt_of_cell? w _ hx675_1)).trans hx675_1
        replace hx675_2:=(HB.out.cell (World.block_lt_of_cell? w _ hx675_2)).trans hx675_2
        replace hx675_3:=(HB.out.cell (World.block_lt_of_cell? w _ hx675_3)).trans hx675_3
        have HR675_3:=Aside0.mk hi675_3
        have HC675_3:=Aside0.mk hl675_3
        clear hi675_3 hl675_3
        replace p675:=eq_true p675
        replace q675:=eq_true q675
        have p676:0 ≤ (x5_1:Int):=of_decide_eq_true (by first | (with_reducible assumption) | assumption)
        have q676:x5_1 < (l1.length:Int):=of_decide_eq_true (by first | (with_reducible assumption) | assumption)
        obtain ⟨ad676,A676_3,c676_3,e676,hx676_0,hx676_1,hx676_2,hx676_3,hl676_3,hi676_3⟩:=at_T44 HR1.out x5_1 p676 q676
        have hw676_3:=hx676_3
        have hw676_2:=hx676_2
        have hw676_1:=hx676_1
        have hw676_0:=hx676_0
        cases e676
        replace hx676_0:=(HB.out.cell (World.block_lt_of_cell? w _ hx676_0)).trans hx676_0
        replace hx676_1:=(HB.out.cell (World.block_lt_of_cell? w _ hx676_1)).trans hx676_1
        replace hx676_2:=(HB.out.cell (World.block_lt_of_cell? w _ hx676_2)).trans hx676_2
        replace hx676_3:=(HB.out.cell (World.block_lt_of_cell? w _ hx676_3)).trans hx676_3
        have HR676_3:=Aside0.mk hi676_3
        have HC676_3:=Aside0.mk hl676_3
        clear hi676_3 hl676_3
        replace p676:=eq_true p676
        replace q676:=eq_true q676
        refine start_ (n:=10) (S:=fun w'=>w'.cell? (ad675.add ((x5_1).toNat * 4)) = some (.int .i64 ((rd_T44 l0 x5_1).f0))∧w'.cell? ⟨(ad675.add ((x5_1).toNat * 4)).block,(ad675.add ((x5_1).toNat * 4)).off + 1,none⟩ = some (.int .i64 ((rd_T44 l0 x5_1).f1.f0))∧w'.cell? ⟨(ad675.add ((x5_1).toNat * 4)).block,(ad675.add ((x5_1).toNat * 4)).off + 2,none⟩ = some (.int .i64 ((rd_T44 l0 x5_1).f1.f1))∧w'.cell? ⟨(ad675.add ((x5_1).toNat * 4)).block,(ad675.add ((x5_1).toNat * 4)).off + 3,none⟩ = some (.slice A675_3 ((rd_T44 l0 x5_1).f1.f2).length c675_3)∧w'.cell? (ad676.add ((x5_1).toNat * 4)) = some (.int .i64 ((rd_T44 l1 x5_1).f0))∧w'.cell? ⟨(ad676.add ((x5_1).toNat * 4)).block,(ad676.add ((x5_1).toNat * 4)).off + 1,none⟩ = some (.int .i64 ((rd_T44 l1 x5_1).f1.f0))∧w'.cell? ⟨(ad676.add ((x5_1).toNat * 4)).block,(ad676.add ((x5_1).toNat * 4)).off + 2,none⟩ = some (.int .i64 ((rd_T44 l1 x5_1).f1.f1))∧w'.cell? ⟨(ad676.add ((x5_1).toNat * 4)).block,(ad676.add ((x5_1).toNat * 4)).off + 3,none⟩ = some (.slice A676_3 ((rd_T44 l1 x5_1).f1.f2).length c676_3)) (ds:=[]) #[false,false,false,false,false,false,false,false,false,false] (by kernel_rfl) rfl rfl ⟨((HB.out.cell (World.block_lt_of_cell? w _ hw675_0)).trans hw675_0),((HB.out.cell (World.block_lt_of_cell? w _ hw675_1)).trans hw675_1),((HB.out.cell (World.block_lt_of_cell? w _ hw675_2)).trans hw675_2),((HB.out.cell (World.block_lt_of_cell? w _ hw675_3)).trans hw675_3),((HB.out.cell (World.block_lt_of_cell? w _ hw676_0)).trans hw676_0),((HB.out.cell (World.block_lt_of_cell? w _ hw676_1)).trans hw676_1),((HB.out.cell (World.block_lt_of_cell? w _ hw676_2)).trans hw676_2),((HB.out.cell (World.block_lt_of_cell? w _ hw676_3)).trans hw676_3)⟩ (fun hHeld=>?_);refine with_tabW laws_eqTickS.tab6 laws_eqTickS.bits6 (fun HT_ HW_=>?_)
        generalize wr.drew = w9 at HB HR675_3 HR676_3 hx675_0 hx675_1 hx675_2 hx675_3 hx676_0 hx676_1 hx676_2 hx676_3 hHeld ⊢
        refine pure_ (i:=0) (N:=some 17) (v:=?_) (a':=?_) #[true,false,false,false,false,false,false,false,false,false] rfl rfl (any_of HT_.out (by kernel_rfl)) (fun _ _ _ h=>h) (Or.inl ⟨by rfl,?_⟩) ?_ ?_
        rotate_left;·intro w';go_simp;with_reducible rfl
        rotate_left;·simp only [Act.put,List.setIfInBounds_toArray,List.set_cons_zero,List.set_cons_succ,i64_w,i32_w];rfl
        refine pure_ (i:=1) (N:=some 18) (v:=?_) (a':=?_) #[true,true,false,false,false,false,false,false,false,false] rfl rfl (any_of HT_.out (by kernel_rfl)) (fun _ _ _ h=>h) (Or.inl ⟨by rfl,?_⟩) ?_ ?_
        rotate_left;·intro w';go_simp;with_reducible rfl
        rotate_left;·simp only [Act.put,List.setIfInBounds_toArray,List.set_cons_zero,List.set_cons_succ,i64_w,i32_w];rfl
        refine pure_ (i:=2) (N:=some 19) (v:=?_) (a':=?_) #[true,true,true,false,false,false,false,false,false,false] rfl rfl (any_of HT_.out (by kernel_rfl)) (fun _ _ _ h=>h) (Or.inl ⟨by rfl,?_⟩) ?_ ?_
        rotate_left;·intro w';go_simp;with_reducible rfl
        rotate_left;·simp only [Act.put,List.setIfInBounds_toArray,List.set_cons_zero,List.set_cons_succ,i64_w,i32_w];rfl
        refine pure_ (i:=4) (N:=some 21) (v:=?_) (a':=?_) #[true,true,true,false,true,false,false,false,false,false] rfl rfl (any_of HT_.out (by kernel_rfl)) (fun _ _ _ h=>h) (Or.inl ⟨by rfl,?_⟩) ?_ ?_
        rotate_left;·intro w';go_simp;with_reducible rfl
        rotate_left;·simp only [Act.put,List.setIfInBounds_toArray,List.set_cons_zero,List.set_cons_succ,i64_w,i32_w];rfl
        refine pure_ (i:=5) (N:=some 22) (v:=?_) (a':=?_) #[true,true,true,false,true,true,false,false,false,false] rfl rfl (any_of HT_.out (by kernel_rfl)) (fun _ _ _ h=>h) (Or.inl ⟨by rfl,?_⟩) ?_ ?_
        rotate_left;·intro w';go_simp;with_reducible rfl
        rotate_left;·simp only [Act.put,List.setIfInBounds_toArray,List.set_cons_zero,List.set_cons_succ,i64_w,i32_w];rfl
        refine pure_ (i:=6) (N:=some 23) (v:=?_) (a':=?_) #[true,true,true,false,true,true,true,false,false,false] rfl rfl (any_of HT_.out (by kernel_rfl)) (fun _ _ _ h=>h) (Or.inl ⟨by rfl,?_⟩) ?_ ?_
        rotate_left;·intro w';go_simp;with_reducible rfl
        rotate_left;·simp only [Act.put,List.setIfInBounds_toArray,List.set_cons_zero,List.set_cons_succ,i64_w,i32_w];rfl
        refine take_ (i:=3) (N:=some 20) (v:=?_) (a':=?_) #[true,true,true,true,true,true,true,false,false,false] rfl rfl (take_ofW HT_.out HW_.out (by kernel_rfl)) (fun _ _ _ h=>h) (Or.inl ⟨by rfl,?_⟩) hHeld ?_ ?_
        rotate_left;·rintro w' ⟨s0,s1,s2,s3,s4,s5,s6,s7⟩;go_simp;with_reducible rfl
        rotate_left;·simp only [Act.put,List.setIfInBounds_toArray,List.set_cons_zero,List.set_cons_succ,i64_w,i32_w];rfl
        refine take_ (i:=7) (N:=some 24) (v:=?_) (a':=?_) #[true,true,true,true,true,true,true,true,false,false] rfl rfl (take_ofW HT_.out HW_.out (by kernel_rfl)) (fun _ _ _ h=>h) (Or.inl ⟨by rfl,?_⟩) hHeld ?_ ?_
        rotate_left;·rintro w' ⟨s0,s1,s2,s3,s4,s5,s6,s7⟩;go_simp;with_reducible rfl
        rotate_left;·simp only [Act.put,List.setIfInBounds_toArray,List.set_cons_zero,List.set_cons_succ,i64_w,i32_w];rfl
        refine one_ (i:=8) (N:=some 25) #[true,true,true,true,true,true,true,true,true,false] rfl rfl (one_of HT_.out (by kernel_rfl)) (by decide) (fun K hK=>?_)
        refine goes_ Try.func53 (by kernel_rfl) rfl #[.agg #[.int .i64 ((rd_T44 l0 x5_1).f0),.int .i64 ((rd_T44 l0 x5_1).f1.f0),.int .i64 ((rd_T44 l0 x5_1).f1.f1),.slice A675_3 ((rd_T44 l0 x5_1).f1.f2).length c675_3],.agg #[.int .i64 ((rd_T44 l1 x5_1).f0),.int .i64 ((rd_T44 l1 x5_1).f1.f0),.int .i64 ((rd_T44 l1 x5_1).f1.f1),.slice A676_3 ((rd_T44 l1 x5_1).f1.f2).length c676_3]] (by rfl) rfl rfl (by (try simp only [List.map_toArray,List.map_cons,List.map_nil]);first | done | rfl | (simp only [List.length_drop,List.length_take];rfl)) ?_
        with_reducible refine (laws_eqTick.calls k1 ((rd_T44 l0 x5_1).f0) ((rd_T44 l0 x5_1).f1.f0) ((rd_T44 l0 x5_1).f1.f1) _ _ ((rd_T44 l0 x5_1).f1.f2) ((rd_T44 l1 x5_1).f0) ((rd_T44 l1 x5_1).f1.f0) ((rd_T44 l1 x5_1).f1.f1) _ _ ((rd_T44 l1 x5_1).f1.f2) true _ ?side1 ?side2 ?side3 ?side4 A7.out).mono ?_
        (case side1=>repeat (first | exact (Kd.C_below HR675_3.out HB.out) | (with_reducible refine Kd.C_alloc ?_ _) | (with_reducible refine Kd.C_drewN ?_ _) | (with_reducible refine Kd.C_drew ?_)))
        (case side2=>exact HC675_3.out)
        (case side3=>repeat (first | exact (Kd.C_below HR676_3.out HB.out) | (with_reducible refine Kd.C_alloc ?_ _) | (with_reducible refine Kd.C_drewN ?_ _) | (with_reducible refine Kd.C_drew ?_)))
        (case side4=>exact HC676_3.out)
        rintro e w10 ⟨rfl,hb⟩
        refine ⟨_,rfl,?_⟩
        have n0_:=Aside0.mk (below_step (by repeat (first | (with_reducible first | exact HB.out | apply below_alloc | apply pw_below_drewN | apply below_drew1) | exact HB.out)) hb)
        clear HB
        have HB:=n0_
        clear n0_
        (try clear hb)
        (try clear hb2)
        (try clear hk)
        (try clear hi)
        refine hK.out _ _ ⟨((HB.out.cell (World.block_lt_of_cell? w _ hw675_0)).trans hw675_0),((HB.out.cell (World.block_lt_of_cell? w _ hw675_1)).trans hw675_1),((HB.out.cell (World.block_lt_of_cell? w _ hw675_2)).trans hw675_2),((HB.out.cell (World.block_lt_of_cell? w _ hw675_3)).trans hw675_3),((HB.out.cell (World.block_lt_of_cell? w _ hw676_0)).trans hw676_0),((HB.out.cell (World.block_lt_of_cell? w _ hw676_1)).trans hw676_1),((HB.out.cell (World.block_lt_of_cell? w _ hw676_2)).trans hw676_2),((HB.out.cell (World.block_lt_of_cell? w _ hw676_3)).trans hw676_3)⟩ (fun hHeld=>?_)
        clear hK K
        refine norm_ (a':=?_) ?_ ?_
        rotate_left
        ·show Act.put _ (some 25) _ = _
         simp only [Act.put,List.setIfInBounds_toArray,List.set_cons_zero,List.set_cons_succ,i64_w,i32_w]
         rfl
        refine pure_ (i:=9) (N:=some 26) (v:=?_) (a':=?_) #[true,true,true,true,true,true,true,true,true,true] rfl rfl (any_of HT_.out (by kernel_rfl)) (fun _ _ _ h=>h) (Or.inl ⟨by rfl,?_⟩) ?_ ?_
        rotate_left;·intro w';go_simp;with_reducible rfl
        rotate_left;·simp only [Act.put,List.setIfInBounds_toArray,List.set_cons_zero,List.set_cons_succ,i64_w,i32_w];rfl
        refine done_ (done_of HT_.out (by kernel_rfl)) ?_
        try go_wp2
        go_roundg k1
        case measure=>have:=HK1.out;omega
        case rel=>exact ⟨(wrap64 (x5_1 + 1)),(by first | rfl | (simp;done) | (simp [*];done)),H',⟨by have:=HK1.out;omega⟩,⟨by repeat (first | (with_reducible first | exact HB.out | apply below_alloc | apply pw_below_drewN | apply below_drew1) | exact HB.out)⟩⟩
       ·replace c8:=Bool.eq_false_iff.mpr c8
        subst c8
        have H1:(some false) = some r:=by rw [if_neg (show ¬ (false = true) by decide)] at H;exact H
        clear H
        have H:=H1
        clear H1
        obtain rfl:=Option.some.inj H
        try go_wp2
        have n0_:=Aside0.mk (below_drew1 HB.out)
        clear HB
        have HB:=n0_
        clear n0_
        have p675:0 ≤ (x5_1:Int):=of_decide_eq_true (by first | (with_reducible assumption) | assumption)
        have q675:x5_1 < (l0.length:Int):=of_decide_eq_true (by first | (with_reducible assumption) | assumption)
        obtain ⟨ad675,A675_3,c675_3,e675,hx675_0,hx675_1,hx675_2,hx675_3,hl675_3,hi675_3⟩:=at_T44 HR0.out x5_1 p675 q675
        have hw675_3:=hx675_3
        have hw675_2:=hx675_2
        have hw675_1:=hx675_1
        have hw675_0:=hx675_0
        cases e675
        replace hx675_0:=(HB.out.cell (World.block_lt_of_cell? w _ hx675_0)).trans hx675_0
        replace hx675_1:=(HB.out.cell (World.block_lt_of_cell? w _ hx675_1)).trans hx675_1
        replace hx675_2:=(HB.out.cell (World.block_lt_of_cell? w _ hx675_2)).trans hx675_2
        replace hx675_3:=(HB.out.cell (World.block_lt_of_cell? w _ hx675_3)).trans hx675_3
        have HR675_3:=Aside0.mk hi675_3
        have HC675_3:=Aside0.mk hl675_3
        clear hi675_3 hl675_3
        replace p675:=eq_true p675
        replace q675:=eq_true q675
        have p676:0 ≤ (x5_1:Int):=of_decide_eq_true (by first | (with_reducible assumption) | assumption)
        have q676:x5_1 < (l1.length:Int):=of_decide_eq_true (by first | (with_reducible assumption) | assumption)
        obtain ⟨ad676,A676_3,c676_3,e676,hx676_0,hx676_1,hx676_2,hx676_3,hl676_3,hi676_3⟩:=at_T44 HR1.out x5_1 p676 q676
        have hw676_3:=hx676_3
        have hw676_2:=hx676_2
        have hw676_1:=hx676_1
        have hw676_0:=hx676_0
        cases e676
        replace hx676_0:=(HB.out.cell (World.block_lt_of_cell? w _ hx676_0)).trans hx676_0
        replace hx676_1:=(HB.out.cell (World.block_lt_of_cell? w _ hx676_1)).trans hx676_1
        replace hx676_2:=(HB.out.cell (World.block_lt_of_cell? w _ hx676_2)).trans hx676_2
        replace hx676_3:=(HB.out.cell (World.block_lt_of_cell? w _ hx676_3)).trans hx676_3
        have HR676_3:=Aside0.mk hi676_3
        have HC676_3:=Aside0.mk hl676_3
        clear hi676_3 hl676_3
        replace p676:=eq_true p676
        replace q676:=eq_true q676
        refine start_ (n:=10) (S:=fun w'=>w'.cell? (ad675.add ((x5_1).toNat * 4)) = some (.int .i64 ((rd_T44 l0 x5_1).f0))∧w'.cell? ⟨(ad675.add ((x5_1).toNat * 4)).block,(ad675.add ((x5_1).toNat * 4)).off + 1,none⟩ = some (.int .i64 ((rd_T44 l0 x5_1).f1.f0))∧w'.cell? ⟨(ad675.add ((x5_1).toNat * 4)).block,(ad675.add ((x5_1).toNat * 4)).off + 2,none⟩ = some (.int .i64 ((rd_T44 l0 x5_1).f1.f1))∧w'.cell? ⟨(ad675.add ((x5_1).toNat * 4)).block,(ad675.add ((x5_1).toNat * 4)).off + 3,none⟩ = some (.slice A675_3 ((rd_T44 l0 x5_1).f1.f2).length c675_3)∧w'.cell? (ad676.add ((x5_1).toNat * 4)) = some (.int .i64 ((rd_T44 l1 x5_1).f0))∧w'.cell? ⟨(ad676.add ((x5_1).toNat * 4)).block,(ad676.add ((x5_1).toNat * 4)).off + 1,none⟩ = some (.int .i64 ((rd_T44 l1 x5_1).f1.f0))∧w'.cell? ⟨(ad676.add ((x5_1).toNat * 4)).block,(ad676.add ((x5_1).toNat * 4)).off + 2,none⟩ = some (.int .i64 ((rd_T44 l1 x5_1).f1.f1))∧w'.cell? ⟨(ad676.add ((x5_1).toNat * 4)).block,(ad676.add ((x5_1).toNat * 4)).off + 3,none⟩ = some (.slice A676_3 ((rd_T44 l1 x5_1).f1.f2).length c676_3)) (ds:=[]) #[false,false,false,false,false,false,false,false,false,false] (by kernel_rfl) rfl rfl ⟨((HB.out.cell (World.block_lt_of_cell? w _ hw675_0)).trans hw675_0),((HB.out.cell (World.block_lt_of_cell? w _ hw675_1)).trans hw675_1),((HB.out.cell (World.block_lt_of_cell? w _ hw675_2)).trans hw675_2),((HB.out.cell (World.block_lt_of_cell? w _ hw675_3)).trans hw675_3),((HB.out.cell (World.block_lt_of_cell? w _ hw676_0)).trans hw676_0),((HB.out.cell (World.block_lt_of_cell? w _ hw676_1)).trans hw676_1),((HB.out.cell (World.block_lt_of_cell? w _ hw676_2)).trans hw676_2),((HB.out.cell (World.block_lt_of_cell? w _ hw676_3)).trans hw676_3)⟩ (fun hHeld=>?_);refine with_tabW laws_eqTickS.tab6 laws_eqTickS.bits6 (fun HT_ HW_=>?_)
        generalize wr.drew = w11 at HB HR675_3 HR676_3 hx675_0 hx675_1 hx675_2 hx675_3 hx676_0 hx676_1 hx676_2 hx676_3 hHeld ⊢
        refine pure_ (i:=0) (N:=some 17) (v:=?_) (a':=?_) #[true,false,false,false,false,false,false,false,false,false] rfl rfl (any_of HT_.out (by kernel_rfl)) (fun _ _ _ h=>h) (Or.inl ⟨by rfl,?_⟩) ?_ ?_
        rotate_left;·intro w';go_simp;with_reducible rfl
        rotate_left;·simp only [Act.put,List.setIfInBounds_toArray,List.set_cons_zero,List.set_cons_succ,i64_w,i32_w];rfl
        refine pure_ (i:=1) (N:=some 18) (v:=?_) (a':=?_) #[true,true,false,false,false,false,false,false,false,false] rfl rfl (any_of HT_.out (by kernel_rfl)) (fun _ _ _ h=>h) (Or.inl ⟨by rfl,?_⟩) ?_ ?_
        rotate_left;·intro w';go_simp;with_reducible rfl
        rotate_left;·simp only [Act.put,List.setIfInBounds_toArray,List.set_cons_zero,List.set_cons_succ,i64_w,i32_w];rfl
        refine pure_ (i:=2) (N:=some 19) (v:=?_) (a':=?_) #[true,true,true,false,false,false,false,false,false,false] rfl rfl (any_of HT_.out (by kernel_rfl)) (fun _ _ _ h=>h) (Or.inl ⟨by rfl,?_⟩) ?_ ?_
        rotate_left;·intro w';go_simp;with_reducible rfl
        rotate_left;·simp only [Act.put,List.setIfInBounds_toArray,List.set_cons_zero,List.set_cons_succ,i64_w,i32_w];rfl
        refine pure_ (i:=4) (N:=some 21) (v:=?_) (a':=?_) #[true,true,true,false,true,false,false,false,false,false] rfl rfl (any_of HT_.out (by kernel_rfl)) (fun _ _ _ h=>h) (Or.inl ⟨by rfl,?_⟩) ?_ ?_
        rotate_left;·intro w';go_simp;with_reducible rfl
        rotate_left;·simp only [Act.put,List.setIfInBounds_toArray,List.set_cons_zero,List.set_cons_succ,i64_w,i32_w];rfl
        refine pure_ (i:=5) (N:=some 22) (v:=?_) (a':=?_) #[true,true,true,false,true,true,false,false,false,false] rfl rfl (any_of HT_.out (by kernel_rfl)) (fun _ _ _ h=>h) (Or.inl ⟨by rfl,?_⟩) ?_ ?_
        rotate_left;·intro w';go_simp;with_reducible rfl
        rotate_left;·simp only [Act.put,List.setIfInBounds_toArray,List.set_cons_zero,List.set_cons_succ,i64_w,i32_w];rfl
        refine pure_ (i:=6) (N:=some 23) (v:=?_) (a':=?_) #[true,true,true,false,true,true,true,false,false,false] rfl rfl (any_of HT_.out (by kernel_rfl)) (fun _ _ _ h=>h) (Or.inl ⟨by rfl,?_⟩) ?_ ?_
        rotate_left;·intro w';go_simp;with_reducible rfl
        rotate_left;·simp only [Act.put,List.setIfInBounds_toArray,List.set_cons_zero,List.set_cons_succ,i64_w,i32_w];rfl
        refine take_ (i:=3) (N:=some 20) (v:=?_) (a':=?_) #[true,true,true,true,true,true,true,false,false,false] rfl rfl (take_ofW HT_.out HW_.out (by kernel_rfl)) (fun _ _ _ h=>h) (Or.inl ⟨by rfl,?_⟩) hHeld ?_ ?_
        rotate_left;·rintro w' ⟨s0,s1,s2,s3,s4,s5,s6,s7⟩;go_simp;with_reducible rfl
        rotate_left;·simp only [Act.put,List.setIfInBounds_toArray,List.set_cons_zero,List.set_cons_succ,i64_w,i32_w];rfl
        refine take_ (i:=7) (N:=some 24) (v:=?_) (a':=?_) #[true,true,true,true,true,true,true,true,false,false] rfl rfl (take_ofW HT_.out HW_.out (by kernel_rfl)) (fun _ _ _ h=>h) (Or.inl ⟨by rfl,?_⟩) hHeld ?_ ?_
        rotate_left;·rintro w' ⟨s0,s1,s2,s3,s4,s5,s6,s7⟩;go_simp;with_reducible rfl
        rotate_left;·simp only [Act.put,List.setIfInBounds_toArray,List.set_cons_zero,List.set_cons_succ,i64_w,i32_w];rfl
        refine one_ (i:=8) (N:=some 25) #[true,true,true,true,true,true,true,true,true,false] rfl rfl (one_of HT_.out (by kernel_rfl)) (by decide) (fun K hK=>?_)
        refine goes_ Try.func53 (by kernel_rfl) rfl #[.agg #[.int .i64 ((rd_T44 l0 x5_1).f0),.int .i64 ((rd_T44 l0 x5_1).f1.f0),.int .i64 ((rd_T44 l0 x5_1).f1.f1),.slice A675_3 ((rd_T44 l0 x5_1).f1.f2).length c675_3],.agg #[.int .i64 ((rd_T44 l1 x5_1).f0),.int .i64 ((rd_T44 l1 x5_1).f1.f0),.int .i64 ((rd_T44 l1 x5_1).f1.f1),.slice A676_3 ((rd_T44 l1 x5_1).f1.f2).length c676_3]] (by rfl) rfl rfl (by (try simp only [List.map_toArray,List.map_cons,List.map_nil]);first | done | rfl | (simp only [List.length_drop,List.length_take];rfl)) ?_
        with_reducible refine (laws_eqTick.calls k1 ((rd_T44 l0 x5_1).f0) ((rd_T44 l0 x5_1).f1.f0) ((rd_T44 l0 x5_1).f1.f1) _ _ ((rd_T44 l0 x5_1).f1.f2) ((rd_T44 l1 x5_1).f0) ((rd_T44 l1 x5_1).f1.f0) ((rd_T44 l1 x5_1).f1.f1) _ _ ((rd_T44 l1 x5_1).f1.f2) false _ ?side1 ?side2 ?side3 ?side4 A7.out).mono ?_
        (case side1=>repeat (first | exact (Kd.C_below HR675_3.out HB.out) | (with_reducible refine Kd.C_alloc ?_ _) | (with_reducible refine Kd.C_drewN ?_ _) | (with_reducible refine Kd.C_drew ?_)))
        (case side2=>exact HC675_3.out)
        (case side3=>repeat (first | exact (Kd.C_below HR676_3.out HB.out) | (with_reducible refine Kd.C_alloc ?_ _) | (with_reducible refine Kd.C_drewN ?_ _) | (with_reducible refine Kd.C_drew ?_)))
        (case side4=>exact HC676_3.out)
        rintro e w12 ⟨rfl,hb⟩
        refine ⟨_,rfl,?_⟩
        have n0_:=Aside0.mk (below_step (by repeat (first | (with_reducible first | exact HB.out | apply below_alloc | apply pw_below_drewN | apply below_drew1) | exact HB.out)) hb)
        clear HB
        have HB:=n0_
        clear n0_
        (try clear hb)
        (try clear hb2)
        (try clear hk)
        (try clear hi)
        refine hK.out _ _ ⟨((HB.out.cell (World.block_lt_of_cell? w _ hw675_0)).trans hw675_0),((HB.out.cell (World.block_lt_of_cell? w _ hw675_1)).trans hw675_1),((HB.out.cell (World.block_lt_of_cell? w _ hw675_2)).trans hw675_2),((HB.out.cell (World.block_lt_of_cell? w _ hw675_3)).trans hw675_3),((HB.out.cell (World.block_lt_of_cell? w _ hw676_0)).trans hw676_0),((HB.out.cell (World.block_lt_of_cell? w _ hw676_1)).trans hw676_1),((HB.out.cell (World.block_lt_of_cell? w _ hw676_2)).trans hw676_2),((HB.out.cell (World.block_lt_of_cell? w _ hw676_3)).trans hw676_3)⟩ (fun hHeld=>?_)
        clear hK K
        refine norm_ (a':=?_) ?_ ?_
        rotate_left
        ·show Act.put _ (some 25) _ = _
         simp only [Act.put,List.setIfInBounds_toArray,List.set_cons_zero,List.set_cons_succ,i64_w,i32_w]
         rfl
        refine pure_ (i:=9) (N:=some 26) (v:=?_) (a':=?_) #[true,true,true,true,true,true,true,true,true,true] rfl rfl (any_of HT_.out (by kernel_rfl)) (fun _ _ _ h=>h) (Or.inl ⟨by rfl,?_⟩) ?_ ?_
        rotate_left;·intro w';go_simp;with_reducible rfl
        rotate_left;·simp only [Act.put,List.setIfInBounds_toArray,List.set_cons_zero,List.set_cons_succ,i64_w,i32_w];rfl
        refine done_ (done_of HT_.out (by kernel_rfl)) ?_
        try go_wp2
        go_ret
        exact ⟨by first | rfl | (simp [errW_none,errW_some] <;> rfl) | (simp [*,errW_none,errW_some] <;> rfl),by repeat (first | (with_reducible first | exact HB.out | apply below_alloc | apply pw_below_drewN | apply below_drew1) | exact HB.out)⟩
      ·rw [if_neg c6] at H
       exact absurd H (by simp)
     ·rw [if_neg c5] at H
      exact absurd H (by simp)
    ·rw [if_neg c4] at H
     have c4b0:decide (x5_1 < (l0.length:Int)) = false:=decide_eq_false c4
     clear c4
     obtain rfl:=Option.some.inj H
     go_wp2
     go_ret
     exact ⟨by first | rfl | (simp [errW_none,errW_some] <;> rfl) | (simp [*,errW_none,errW_some] <;> rfl),by repeat (first | (with_reducible first | exact HB.out | apply below_alloc | apply pw_below_drewN | apply below_drew1) | exact HB.out)⟩
 ·rw [if_neg c3] at H
  have c3b0:((l0.length:Int) == (l1.length:Int)) = false:=beq_eq_false_iff_ne.mpr c3
  have c3b1:((l0.length:Int) != (l1.length:Int)) = true:=bne_iff_ne.mpr c3
  have c3b2:(l0.length == l1.length) = false:=by first | simpa using c3 | (simp at c3 ⊢;omega)
  obtain rfl:=Option.some.inj H
  go_enter Try.func26,Try.ntmps26
  go_wp2
  go_ret
  exact ⟨by first | rfl | (simp [errW_none,errW_some] <;> rfl) | (simp [*,errW_none,errW_some] <;> rfl),by repeat (first | (with_reducible first | exact HB.out | apply below_alloc | apply pw_below_drewN | apply below_drew1) | exact HB.out)⟩
def laws_heldTickS.l0:Nat → List (S44) → Int → Int → Option (Int)
 | 0,_,_,_=>none
 | k + 1,x0,x1,x5=>if x5 < (x0.length:Int) then (if 0 ≤ x5 then (if ((rd_T44 x0 x5).f0) = x1 then (if ((rd_T44 x0 x5).f1.f0) = (wrap64 (x1 + 1)) then (if ((rd_T44 x0 x5).f1.f1) = (wrap64 ((wrap64 (x1 + 1)) + 1)) then ((laws_heldClockS.f k ((rd_T44 x0 x5).f1.f2) (wrap64 ((wrap64 ((wrap64 (x1 + 1)) + 1)) + 1))).bind fun t687=>(if t687 < 0 then (some (-1)) else (laws_heldTickS.l0 k x0 t687 (wrap64 (x5 + 1))))) else (some (-1))) else (some (-1))) else (some (-1))) else (none)) else (some x1)
def laws_heldTickS.f (k:Nat) (l0:List (S44)) (a1:Int):Option (Int):=laws_heldTickS.l0 k l0 a1 0
theorem laws_heldTickS.mono_l:∀ k,(∀ y0 y1 y2,LeO (laws_heldTickS.l0 k y0 y1 y2) (laws_heldTickS.l0 (k + 1) y0 y1 y2))
 | 0=>fun _ _ _ r h=>by simp [laws_heldTickS.l0] at h
 | k + 1=>by
  have ih0:=laws_heldTickS.mono_l k
  ·intro y0 y1 y2
   unfold laws_heldTickS.l0
   repeat' first
   | (with_reducible exact ih0 _ _ _)
   | (with_reducible exact laws_heldClockS.mono _ _ _)
   | (with_reducible exact LeO.refl _)
   | (with_reducible exact LeO.none _)
   | (with_reducible refine LeO.ite ?_ ?_)
   | (with_reducible refine LeO.bind ?_ (fun _=>?_))
   | exact ih0 _ _ _
   | exact laws_heldClockS.mono _ _ _
   | exact LeO.none _
   | refine LeO.ite ?_ ?_
   | refine LeO.bind ?_ (fun _=>?_)
theorem laws_heldTickS.mono:∀ a0 a1 k,LeO (laws_heldTickS.f k a0 a1) (laws_heldTickS.f (k + 1) a0 a1):=by
 intro a0 a1 k
 have ih0:=laws_heldTickS.mono_l k
 unfold laws_heldTickS.f
 repeat' first
   | (with_reducible exact ih0 _ _ _)
   | (with_reducible exact laws_heldClockS.mono _ _ _)
   | (with_reducible exact LeO.refl _)
   | (with_reducible exact LeO.none _)
   | (with_reducible refine LeO.ite ?_ ?_)
   | (with_reducible refine LeO.bind ?_ (fun _=>?_))
   | exact ih0 _ _ _
   | exact laws_heldClockS.mono _ _ _
   | exact LeO.none _
   | refine LeO.ite ?_ ?_
   | refine LeO.bind ?_ (fun _=>?_)
set_option maxHeartbeats 8000000 in
set_option maxRecDepth 100000 in
theorem laws_heldTickS.calls (k:Nat) (A0:Option Addr) (c0:Nat) (l0:List (S44)) (a1:Int) (r:Int) (w:World) (hr0:Kd.C k44 w A0 l0.length l0) (hc0:l0.length ≤ c0) (h:laws_heldTickS.f k l0 a1 = some r) :
  Calls Try.prog 29 #[.slice A0 l0.length c0,.int .i64 a1] w fun e w'=>e = .returned (.int .i64 r)∧Drawn0 w w':=by
 have HR0:=Aside0.mk hr0
 have HC0:=Aside0.mk hc0
 clear hr0 hc0
 have H:(laws_heldTickS.l0 k l0 a1 0) = some r:=h
 clear h
 have H':=Aside0.mk H
 clear H
 go_enter Try.func29,Try.ntmps29
 go_wp2
 go_loopg [1,5] k (fun kq v1 v5 w'=>∃ (x1_1:Int) (x5_1:Int),v1 = .int .i64 x1_1∧v5 = .int .i64 x5_1∧Aside0 (laws_heldTickS.l0 kq l0 x1_1 x5_1 = some r)∧Aside0 (kq ≤ k)∧Drawn0 w w')
 case atStart=>exact ⟨(a1),(0),(by first | rfl | (simp;done) | (simp [*];done)),(by first | rfl | (simp;done) | (simp [*];done)),H',⟨Nat.le_refl _⟩,by repeat (first | exact Drawn0.refl _ | apply Drawn0.step)⟩
 case round =>
  clear H'
  try clear c2
  try clear p2
  obtain ⟨x1_1,x5_1,rfl,rfl,HA,HK1,⟨m1,rfl⟩⟩:=hrel
  cases gk with
  | zero=>exact absurd HA.out (by simp [laws_heldTickS.l0])
  | succ k1 =>
   have H:=HA.out
   clear HA
   simp only [laws_heldTickS.l0] at H
   by_cases c3:x5_1 < (l0.length:Int)
   ·rw [if_pos c3] at H
    have c3b0:decide (x5_1 < (l0.length:Int)) = true:=decide_eq_true c3
    clear c3
    by_cases c4:0 ≤ x5_1
    ·rw [if_pos c4] at H
     have c4b0:decide (0 ≤ x5_1) = true:=decide_eq_true c4
     clear c4
     by_cases c5:((rd_T44 l0 x5_1).f0) = x1_1
     ·rw [if_pos c5] at H
      have c5b0:(((rd_T44 l0 x5_1).f0) == x1_1) = true:=beq_iff_eq.mpr c5
      have c5b1:(((rd_T44 l0 x5_1).f0) != x1_1) = false:=bne_eq_false_iff_eq.mpr c5
      clear c5
      by_cases c6:((rd_T44 l0 x5_1).f1.f0) = (wrap64 (x1_1 + 1))
      ·rw [if_pos c6] at H
       have c6b0:(((rd_T44 l0 x5_1).f1.f0) == (wrap64 (x1_1 + 1))) = true:=beq_iff_eq.mpr c6
       have c6b1:(((rd_T44 l0 x5_1).f1.f0) != (wrap64 (x1_1 + 1))) = false:=bne_eq_false_iff_eq.mpr c6
       clear c6
       by_cases c7:((rd_T44 l0 x5_1).f1.f1) = (wrap64 ((wrap64 (x1_1 + 1)) + 1))
       ·rw [if_pos c7] at H
        have c7b0:(((rd_T44 l0 x5_1).f1.f1) == (wrap64 ((wrap64 (x1_1 + 1)) + 1))) = true:=beq_iff_eq.mpr c7
        have c7b1:(((rd_T44 l0 x5_1).f1.f1) != (wrap64 ((wrap64 (x1_1 + 1)) + 1))) = false:=bne_eq_false_iff_eq.mpr c7
        clear c7
        replace H:=Option.bind_eq_some_iff.mp H
        obtain ⟨t687,A80,H⟩:=H
        replace H:(if t687 < 0 then (some (-1)) else (laws_heldTickS.l0 k1 l0 t687 (wrap64 (x5_1 + 1)))) = some r:=H
        have A8:=Aside0.mk A80
        clear A80
        by_cases c9:t687 < 0
        ·rw [if_pos c9] at H
         have c9b0:decide (t687 < 0) = true:=decide_eq_true c9
         clear c9
         obtain rfl:=Option.some.inj H
         have p683:0 ≤ (x5_1:Int):=of_decide_eq_true (by first | (with_reducible assumption) | assumption)
         have q683:x5_1 < (l0.length:Int):=of_decide_eq_true (by first | (with_reducible assumption) | assumption)
         obtain ⟨ad683,A683_3,c683_3,e683,hx683_0,hx683_1,hx683_2,hx683_3,hl683_3,hi683_3⟩:=at_T44 HR0.out x5_1 p683 q683
         cases e683
         have HR683_3:=Aside0.mk hi683_3
         have HC683_3:=Aside0.mk hl683_3
         clear hi683_3 hl683_3
         replace p683:=eq_true p683
         replace q683:=eq_true q683
         have p684:0 ≤ (x5_1:Int):=of_decide_eq_true (by first | (with_reducible assumption) | assumption)
         have q684:x5_1 < (l0.length:Int):=of_decide_eq_true (by first | (with_reducible assumption) | assumption)
         obtain ⟨ad684,A684_3,c684_3,e684,hx684_0,hx684_1,hx684_2,hx684_3,hl684_3,hi684_3⟩:=at_T44 HR0.out x5_1 p684 q684
         obtain rfl:ad683 = ad684:=(by injection e684)
         have HR684_3:=Aside0.mk hi684_3
         have HC684_3:=Aside0.mk hl684_3
         clear hi684_3 hl684_3
         replace p684:=eq_true p684
         replace q684:=eq_true q684
         have ea_:=Option.some.inj (hx683_3.symm.trans hx684_3)
         injection ea_ with ea_ en_ ec_
         subst ea_
         subst ec_
         clear en_
         have p685:0 ≤ (x5_1:Int):=of_decide_eq_true (by first | (with_reducible assumption) | assumption)
         have q685:x5_1 < (l0.length:Int):=of_decide_eq_true (by first | (with_reducible assumption) | assumption)
         obtain ⟨ad685,A685_3,c685_3,e685,hx685_0,hx685_1,hx685_2,hx685_3,hl685_3,hi685_3⟩:=at_T44 HR0.out x5_1 p685 q685
         obtain rfl:ad683 = ad685:=(by injection e685)
         have HR685_3:=Aside0.mk hi685_3
         have HC685_3:=Aside0.mk hl685_3
         clear hi685_3 hl685_3
         replace p685:=eq_true p685
         replace q685:=eq_true q685
         have ea_:=Option.some.inj (hx683_3.symm.trans hx685_3)
         injection ea_ with ea_ en_ ec_
         subst ea_
         subst ec_
         clear en_
         have p686:0 ≤ (x5_1:Int):=of_decide_eq_true (by first | (with_reducible assumption) | assumption)
         have q686:x5_1 < (l0.length:Int):=of_decide_eq_true (by first | (with_reducible assumption) | assumption)
         obtain ⟨ad686,A686_3,c686_3,e686,hx686_0,hx686_1,hx686_2,hx686_3,hl686_3,hi686_3⟩:=at_T44 HR0.out x5_1 p686 q686
         obtain rfl:ad683 = ad686:=(by injection e686)
         have HR686_3:=Aside0.mk hi686_3
         have HC686_3:=Aside0.mk hl686_3
         clear hi686_3 hl686_3
         replace p686:=eq_true p686
         replace q686:=eq_true q686
         have ea_:=Option.some.inj (hx683_3.symm.trans hx686_3)
         injection ea_ with ea_ en_ ec_
         subst ea_
         subst ec_
         clear en_
         go_wp2_with (first | ((with_reducible refine gate_callee (f:=55) rfl ?_);refine goesL_ (some 48) rfl rfl Try.func55 (by kernel_rfl) rfl #[.slice A683_3 ((rd_T44 l0 x5_1).f1.f2).length c683_3,.int .i64 (wrap64 ((wrap64 ((wrap64 (x1_1 + 1)) + 1)) + 1))] rfl (by (try simp only [List.map_toArray,List.map_cons,List.map_nil]);first | done | rfl | (simp only [List.length_drop,List.length_take];rfl)) ?_;(with_reducible refine (laws_heldClockS.calls k1 _ _ ((rd_T44 l0 x5_1).f1.f2) (wrap64 ((wrap64 ((wrap64 (x1_1 + 1)) + 1)) + 1)) t687 _ ?side1 ?side2 A8.out).mono ?_);(case side1=>repeat (first | exact HR686_3.out | (with_reducible refine Kd.C_alloc ?_ _) | (with_reducible refine Kd.C_drewN ?_ _) | (with_reducible refine Kd.C_drew ?_)));(case side2=>exact HC686_3.out);rintro e w' ⟨rfl,⟨nd,rfl⟩⟩;refine ⟨_,rfl,?_⟩))
         go_ret
         exact ⟨by first | rfl | (simp;done) | (simp [*];done),by repeat (first | exact Drawn0.refl _ | apply Drawn0.step)⟩
        ·rw [if_neg c9] at H
         have c9b0:decide (t687 < 0) = false:=decide_eq_false c9
         clear c9
         have H':=Aside0.mk H
         clear H
         have p683:0 ≤ (x5_1:Int):=of_decide_eq_true (by first | (with_reducible assumption) | assumption)
         have q683:x5_1 < (l0.length:Int):=of_decide_eq_true (by first | (with_reducible assumption) | assumption)
         obtain ⟨ad683,A683_3,c683_3,e683,hx683_0,hx683_1,hx683_2,hx683_3,hl683_3,hi683_3⟩:=at_T44 HR0.out x5_1 p683 q683
         cases e683
         have HR683_3:=Aside0.mk hi683_3
         have HC683_3:=Aside0.mk hl683_3
         clear hi683_3 hl683_3
         replace p683:=eq_true p683
         replace q683:=eq_true q683
         have p684:0 ≤ (x5_1:Int):=of_decide_eq_true (by first | (with_reducible assumption) | assumption)
         have q684:x5_1 < (l0.length:Int):=of_decide_eq_true (by first | (with_reducible assumption) | assumption)
         obtain ⟨ad684,A684_3,c684_3,e684,hx684_0,hx684_1,hx684_2,hx684_3,hl684_3,hi684_3⟩:=at_T44 HR0.out x5_1 p684 q684
         obtain rfl:ad683 = ad684:=(by injection e684)
         have HR684_3:=Aside0.mk hi684_3
         have HC684_3:=Aside0.mk hl684_3
         clear hi684_3 hl684_3
         replace p684:=eq_true p684
         replace q684:=eq_true q684
         have ea_:=Option.some.inj (hx683_3.symm.trans hx684_3)
         injection ea_ with ea_ en_ ec_
         subst ea_
         subst ec_
         clear en_
         have p685:0 ≤ (x5_1:Int):=of_decide_eq_true (by first | (with_reducible assumption) | assumption)
         have q685:x5_1 < (l0.length:Int):=of_decide_eq_true (by first | (with_reducible assumption) | assumption)
         obtain ⟨ad685,A685_3,c685_3,e685,hx685_0,hx685_1,hx685_2,hx685_3,hl685_3,hi685_3⟩:=at_T44 HR0.out x5_1 p685 q685
         obtain rfl:ad683 = ad685:=(by injection e685)
         have HR685_3:=Aside0.mk hi685_3
         have HC685_3:=Aside0.mk hl685_3
         clear hi685_3 hl685_3
         replace p685:=eq_true p685
         replace q685:=eq_true q685
         have ea_:=Option.some.inj (hx683_3.symm.trans hx685_3)
         injection ea_ with ea_ en_ ec_
         subst ea_
         subst ec_
         clear en_
         have p686:0 ≤ (x5_1:Int):=of_decide_eq_true (by first | (with_reducible assumption) | assumption)
         have q686:x5_1 < (l0.length:Int):=of_decide_eq_true (by first | (with_reducible assumption) | assumption)
         obtain ⟨ad686,A686_3,c686_3,e686,hx686_0,hx686_1,hx686_2,hx686_3,hl686_3,hi686_3⟩:=at_T44 HR0.out x5_1 p686 q686
         obtain rfl:ad683 = ad686:=(by injection e686)
         have HR686_3:=Aside0.mk hi686_3
         have HC686_3:=Aside0.mk hl686_3
         clear hi686_3 hl686_3
         replace p686:=eq_true p686
         replace q686:=eq_true q686
         have ea_:=Option.some.inj (hx683_3.symm.trans hx686_3)
         injection ea_ with ea_ en_ ec_
         subst ea_
         subst ec_
         clear en_
         go_wp2_with (first | ((with_reducible refine gate_callee (f:=55) rfl ?_);refine goesL_ (some 48) rfl rfl Try.func55 (by kernel_rfl) rfl #[.slice A683_3 ((rd_T44 l0 x5_1).f1.f2).length c683_3,.int .i64 (wrap64 ((wrap64 ((wrap64 (x1_1 + 1)) + 1)) + 1))] rfl (by (try simp only [List.map_toArray,List.map_cons,List.map_nil]);first | done | rfl | (simp only [List.length_drop,List.length_take];rfl)) ?_;(with_reducible refine (laws_heldClockS.calls k1 _ _ ((rd_T44 l0 x5_1).f1.f2) (wrap64 ((wrap64 ((wrap64 (x1_1 + 1)) + 1)) + 1)) t687 _ ?side1 ?side2 A8.out).mono ?_);(case side1=>repeat (first | exact HR686_3.out | (with_reducible refine Kd.C_alloc ?_ _) | (with_reducible refine Kd.C_drewN ?_ _) | (with_reducible refine Kd.C_drew ?_)));(case side2=>exact HC686_3.out);rintro e w' ⟨rfl,⟨nd,rfl⟩⟩;refine ⟨_,rfl,?_⟩))
         go_roundg k1
         case measure=>have:=HK1.out;omega
         case rel=>exact ⟨(t687),(wrap64 (x5_1 + 1)),(by first | rfl | (simp;done) | (simp [*];done)),(by first | rfl | (simp;done) | (simp [*];done)),H',⟨by have:=HK1.out;omega⟩,by repeat (first | exact Drawn0.refl _ | apply Drawn0.step)⟩
       ·rw [if_neg c7] at H
        have c7b0:(((rd_T44 l0 x5_1).f1.f1) == (wrap64 ((wrap64 (x1_1 + 1)) + 1))) = false:=beq_eq_false_iff_ne.mpr c7
        have c7b1:(((rd_T44 l0 x5_1).f1.f1) != (wrap64 ((wrap64 (x1_1 + 1)) + 1))) = true:=bne_iff_ne.mpr c7
        obtain rfl:=Option.some.inj H
        have p683:0 ≤ (x5_1:Int):=of_decide_eq_true (by first | (with_reducible assumption) | assumption)
        have q683:x5_1 < (l0.length:Int):=of_decide_eq_true (by first | (with_reducible assumption) | assumption)
        obtain ⟨ad683,A683_3,c683_3,e683,hx683_0,hx683_1,hx683_2,hx683_3,hl683_3,hi683_3⟩:=at_T44 HR0.out x5_1 p683 q683
        cases e683
        have HR683_3:=Aside0.mk hi683_3
        have HC683_3:=Aside0.mk hl683_3
        clear hi683_3 hl683_3
        replace p683:=eq_true p683
        replace q683:=eq_true q683
        have p684:0 ≤ (x5_1:Int):=of_decide_eq_true (by first | (with_reducible assumption) | assumption)
        have q684:x5_1 < (l0.length:Int):=of_decide_eq_true (by first | (with_reducible assumption) | assumption)
        obtain ⟨ad684,A684_3,c684_3,e684,hx684_0,hx684_1,hx684_2,hx684_3,hl684_3,hi684_3⟩:=at_T44 HR0.out x5_1 p684 q684
        obtain rfl:ad683 = ad684:=(by injection e684)
        have HR684_3:=Aside0.mk hi684_3
        have HC684_3:=Aside0.mk hl684_3
        clear hi684_3 hl684_3
        replace p684:=eq_true p684
        replace q684:=eq_true q684
        have ea_:=Option.some.inj (hx683_3.symm.trans hx684_3)
        injection ea_ with ea_ en_ ec_
        subst ea_
        subst ec_
        clear en_
        have p685:0 ≤ (x5_1:Int):=of_decide_eq_true (by first | (with_reducible assumption) | assumption)
        have q685:x5_1 < (l0.length:Int):=of_decide_eq_true (by first | (with_reducible assumption) | assumption)
        obtain ⟨ad685,A685_3,c685_3,e685,hx685_0,hx685_1,hx685_2,hx685_3,hl685_3,hi685_3⟩:=at_T44 HR0.out x5_1 p685 q685
        obtain rfl:ad683 = ad685:=(by injection e685)
        have HR685_3:=Aside0.mk hi685_3
        have HC685_3:=Aside0.mk hl685_3
        clear hi685_3 hl685_3
        replace p685:=eq_true p685
        replace q685:=eq_true q685
        have ea_:=Option.some.inj (hx683_3.symm.trans hx685_3)
        injection ea_ with ea_ en_ ec_
        subst ea_
        subst ec_
        clear en_
        go_wp2
        go_ret
        exact ⟨by first | rfl | (simp;done) | (simp [*];done),by repeat (first | exact Drawn0.refl _ | apply Drawn0.step)⟩
      ·rw [if_neg c6] at H
       have c6b0:(((rd_T44 l0 x5_1).f1.f0) == (wrap64 (x1_1 + 1))) = false:=beq_eq_false_iff_ne.mpr c6
       have c6b1:(((rd_T44 l0 x5_1).f1.f0) != (wrap64 (x1_1 + 1))) = true:=bne_iff_ne.mpr c6
       obtain rfl:=Option.some.inj H
       have p683:0 ≤ (x5_1:Int):=of_decide_eq_true (by first | (with_reducible assumption) | assumption)
       have q683:x5_1 < (l0.length:Int):=of_decide_eq_true (by first | (with_reducible assumption) | assumption)
       obtain ⟨ad683,A683_3,c683_3,e683,hx683_0,hx683_1,hx683_2,hx683_3,hl683_3,hi683_3⟩:=at_T44 HR0.out x5_1 p683 q683
       cases e683
       have HR683_3:=Aside0.mk hi683_3
       have HC683_3:=Aside0.mk hl683_3
       clear hi683_3 hl683_3
       replace p683:=eq_true p683
       replace q683:=eq_true q683
       have p684:0 ≤ (x5_1:Int):=of_decide_eq_true (by first | (with_reducible assumption) | assumption)
       have q684:x5_1 < (l0.length:Int):=of_decide_eq_true (by first | (with_reducible assumption) | assumption)
       obtain ⟨ad684,A684_3,c684_3,e684,hx684_0,hx684_1,hx684_2,hx684_3,hl684_3,hi684_3⟩:=at_T44 HR0.out x5_1 p684 q684
       obtain rfl:ad683 = ad684:=(by injection e684)
       have HR684_3:=Aside0.mk hi684_3
       have HC684_3:=Aside0.mk hl684_3
       clear hi684_3 hl684_3
       replace p684:=eq_true p684
       replace q684:=eq_true q684
       have ea_:=Option.some.inj (hx683_3.symm.trans hx684_3)
       injection ea_ with ea_ en_ ec_
       subst ea_
       subst ec_
       clear en_
       go_wp2
       go_ret
       exact ⟨by first | rfl | (simp;done) | (simp [*];done),by repeat (first | exact Drawn0.refl _ | apply Drawn0.step)⟩
     ·rw [if_neg c5] at H
      have c5b0:(((rd_T44 l0 x5_1).f0) == x1_1) = false:=beq_eq_false_iff_ne.mpr c5
      have c5b1:(((rd_T44 l0 x5_1).f0) != x1_1) = true:=bne_iff_ne.mpr c5
      obtain rfl:=Option.some.inj H
      have p683:0 ≤ (x5_1:Int):=of_decide_eq_true (by first | (with_reducible assumption) | assumption)
      have q683:x5_1 < (l0.length:Int):=of_decide_eq_true (by first | (with_reducible assumption) | assumption)
      obtain ⟨ad683,A683_3,c683_3,e683,hx683_0,hx683_1,hx683_2,hx683_3,hl683_3,hi683_3⟩:=at_T44 HR0.out x5_1 p683 q683
      cases e683
      have HR683_3:=Aside0.mk hi683_3
      have HC683_3:=Aside0.mk hl683_3
      clear hi683_3 hl683_3
      replace p683:=eq_true p683
      replace q683:=eq_true q683
      go_wp2
      go_ret
      exact ⟨by first | rfl | (simp;done) | (simp [*];done),by repeat (first | exact Drawn0.refl _ | apply Drawn0.step)⟩
    ·rw [if_neg c4] at H
     exact absurd H (by simp)
   ·rw [if_neg c3] at H
    have c3b0:decide (x5_1 < (l0.length:Int)) = false:=decide_eq_false c3
    clear c3
    obtain rfl:=Option.some.inj H
    go_wp2
    go_ret
    exact ⟨by first | rfl | (simp;done) | (simp [*];done),by repeat (first | exact Drawn0.refl _ | apply Drawn0.step)⟩
def impl_ClockSteps.l0:Nat → List (S44) → Int → Int → Option ((List (S44)) × Bool)
 | 0,_,_,_=>none
 | k + 1,x4,x12,x13=>if x13 < x12 then (if 0 ≤ x13 then (if x13 < (x4.length:Int) then ((impl_copyClock.f k ((rd_T44 x4 x13).f1.f0) ((rd_T44 x4 x13).f1.f1) ((rd_T44 x4 x13).f1.f2)).bind fun bt397=>(impl_ClockSteps.l0 k (x4.set (x13:Int).toNat (⟨(rd_T44 x4 x13).f0,(⟨bt397.1,bt397.2.1,bt397.2.2⟩:S29)⟩:S44)) x12 (wrap64 (x13 + 1)))) else (none)) else (none)) else (some (x4,true))
def impl_ClockSteps.f (k:Nat) (a0_0:Int) (a0_1:Int) (l0_2:List (S29)):Option ((List (S44)) × Bool):=(impl_ClockOk.f k a0_0 a0_1 l0_2).bind fun t392=>(if t392 = true then ((impl_ticksOf.f k a0_0 a0_1 l0_2).bind fun t393=>(impl_ClockSteps.l0 k t393 (t393.length:Int) 0)) else (some (([]:List (S44)),false)))
theorem impl_ClockSteps.mono_l:∀ k,(∀ y0 y1 y2,LeO (impl_ClockSteps.l0 k y0 y1 y2) (impl_ClockSteps.l0 (k + 1) y0 y1 y2))
 | 0=>fun _ _ _ r h=>by simp [impl_ClockSteps.l0] at h
 | k + 1=>by
  have ih0:=impl_ClockSteps.mono_l k
  ·intro y0 y1 y2
   unfold impl_ClockSteps.l0
   repeat' first
   | (with_reducible exact ih0 _ _ _)
   | (with_reducible exact impl_ClockOk.mono _ _ _ _)
   | (with_reducible exact impl_copyClock.mono _ _ _ _)
   | (with_reducible exact impl_ticksOf.mono _ _ _ _)
   | (with_reducible exact LeO.refl _)
   | (with_reducible exact LeO.none _)
   | (with_reducible refine LeO.ite ?_ ?_)
   | (with_reducible refine LeO.bind ?_ (fun _=>?_))
   | exact ih0 _ _ _
   | exact impl_ClockOk.mono _ _ _ _
   | exact impl_copyClock.mono _ _ _ _
   | exact impl_ticksOf.mono _ _ _ _
   | exact LeO.none _
   | refine LeO.ite ?_ ?_
   | refine LeO.bind ?_ (fun _=>?_)
theorem impl_ClockSteps.mono:∀ a0 a1 a2 k,LeO (impl_ClockSteps.f k a0 a1 a2) (impl_ClockSteps.f (k + 1) a0 a1 a2):=by
 intro a0 a1 a2 k
 have ih0:=impl_ClockSteps.mono_l k
 unfold impl_ClockSteps.f
 repeat' first
   | (with_reducible exact ih0 _ _ _)
   | (with_reducible exact impl_ClockOk.mono _ _ _ _)
   | (with_reducible exact impl_copyClock.mono _ _ _ _)
   | (with_reducible exact impl_ticksOf.mono _ _ _ _)
   | (with_reducible exact LeO.refl _)
   | (with_reducible exact LeO.none _)
   | (with_reducible refine LeO.ite ?_ ?_)
   | (with_reducible refine LeO.bind ?_ (fun _=>?_))
   | exact ih0 _ _ _
   | exact impl_ClockOk.mono _ _ _ _
   | exact impl_copyClock.mono _ _ _ _
   | exact impl_ticksOf.mono _ _ _ _
   | exact LeO.none _
   | refine LeO.ite ?_ ?_
   | refine LeO.bind ?_ (fun _=>?_)
set_option maxHeartbeats 8000000 in
set_option maxRecDepth 100000 in
theorem impl_ClockSteps.calls (k:Nat) (a0_0:Int) (a0_1:Int) (P0_2_:Nat → Prop) (A0_2:Option Addr) (c0_2:Nat) (l0_2:List (S29)) (r1:List (S44)) (r2:Bool) (w:World) (hs0_2:Kd.V k29 29 w w.heap.size (fun k_=>P0_2_ k_) (.slice A0_2 l0_2.length c0_2) l0_2) (h:impl_ClockSteps.f k a0_0 a0_1 l0_2 = some (r1,r2)) :
  Calls Try.prog 19 #[.agg #[.int .i64 a0_0,.int .i64 a0_1,.slice A0_2 l0_2.length c0_2]] w fun e w'=>∃ v0_:Value,e = .returned (.tuple #[v0_,.bool r2])∧Kd.N k44 44 w' w.heap.size (fun k_=>(P0_2_ k_ ∨ w.heap.size ≤ k_)) v0_ r1∧Below w.heap.size w w':=by
 have hu29:=Try.underlying29
 have HO0_2:=aQ (show Kd.V k29 29 w w.heap.size (fun k_=>(P0_2_ k_ ∨ w.heap.size ≤ k_)) (.slice A0_2 l0_2.length c0_2) l0_2 from Kd.V_mono hs0_2 (fun k_ hk=>.inl hk))
 have HB:=aQ (Below.refl w.heap.size w)
 have H:=h
 clear h
 obtain ⟨t392,A2,H⟩:=bQ H
 (try dsimp only at H)
 by_cases c3:t392 = true
 ·subst c3
  have H1:((impl_ticksOf.f k a0_0 a0_1 l0_2).bind fun t393=>(impl_ClockSteps.l0 k t393 (t393.length:Int) 0)) = some (r1,r2):=by rw [if_pos rfl] at H;exact H
  clear H
  have H:=H1
  clear H1
  obtain ⟨t393,A4,H⟩:=bQ H
  (try dsimp only at H)
  have H':=aQ H
  clear H
  go_enter Try.func19,Try.ntmps19
  go_wp2_with (first | ((with_reducible refine gate_dst (N:=1) rfl ?_);refine box1 (N:=1) (cs:=#[.int .i64 a0_0,.int .i64 a0_1,.slice A0_2 l0_2.length c0_2]) (t:=29) ?_;intro gb391 hg w5 hbox hb;replace HO0_2:=aQ (Kd.V_below (Kd.V_elderB (nV HO0_2.out) gb391 (Nat.le_of_eq hg.symm)) hb);have BK391:=aQ (hbox);have GW391:=aQ (gB:w.heap.size ≤ gb391);have GE391:=GW391;replace HB:=aQ (below_step bB hb);clear hb hbox hg;obtain ⟨hcz6_0,hcz6_1,hcz6_2,hfz6_0,hfz6_1,hfz6_2⟩:=cz3 BK391.out) | ((with_reducible refine gate_callee (f:=16) rfl ?_);refine goesL_ (some 7) rfl rfl Try.func16 (by kernel_rfl) rfl #[.agg #[.int .i64 a0_0,.int .i64 a0_1,.slice A0_2 l0_2.length c0_2]] rfl mP ?_;(with_reducible refine (impl_ClockOk.calls k a0_0 a0_1 _ _ l0_2 true _ ?side1 ?side2 A2.out).mono ?_);(case side1=>repeat (first | exact (Kd.V_reads' HO0_2.out).2.2 | (with_reducible refine Kd.C_alloc ?_ _) | (with_reducible refine Kd.C_drewN ?_ _) | (with_reducible refine Kd.C_drew ?_)));(case side2=>exact (Kd.V_reads' HO0_2.out).2.1);rintro e w7 ⟨rfl,hb⟩;refine ⟨_,rfl,?_⟩;replace HO0_2:=aQ (Kd.V_below (nV HO0_2.out) hb);replace BK391:=aQ (blk_below (nB BK391.out) hb);replace HB:=aQ (below_step bB hb);(try clear hb);obtain ⟨hcz8_0,hcz8_1,hcz8_2,hfz8_0,hfz8_1,hfz8_2⟩:=cz3 BK391.out) | ((with_reducible refine gate_callee (f:=47) rfl ?_);refine goesL_ (some 10) rfl rfl Try.func47 (by kernel_rfl) rfl #[.agg #[.int .i64 a0_0,.int .i64 a0_1,.slice A0_2 l0_2.length c0_2]] rfl mP ?_;(with_reducible refine (impl_ticksOf.calls k a0_0 a0_1 (fun k_=>((P0_2_ k_ ∨ w.heap.size ≤ k_)∧k_ ≠ gb391)) _ _ l0_2 t393 _ ?side1 A4.out).mono ?_);(case side1=>exact HO0_2.out);rintro e w9 ⟨v394,rfl,ho0,hb⟩;refine ⟨_,rfl,?_⟩;replace HO0_2:=aQ (Kd.V_elder' (nV HO0_2.out) (Kd.N_base ho0) hb);have HO395:=aQ (Kd.N_lower (Kd.N_mono (ok':=fun k_=>(P0_2_ k_ ∨ w.heap.size ≤ k_)∧k_ ≠ gb391) ho0 (fun k_ hk_=>⟨Or.elim hk_ (fun hs_=>hs_.1) (fun hn_=>(.inr (Nat.le_trans (below_size bB) hn_))),Or.elim hk_ (fun hs_=>hs_.2) (fun hn_=>(Kd.freshB (nB BK391.out) k_ hn_))⟩)) (below_size bB));replace BK391:=aQ (blk_below (nB BK391.out) hb);replace HB:=aQ (below_step bB hb);(try clear hb);(try clear ho0);obtain ⟨Ao10,co10,eo10⟩:=Kd.N_slice HO395.out;subst eo10))
  go_loopg [13] k (fun kq v13 w'=>∃ (x4_1:List (S44)) (x13_1:Int),v13 = .int .i64 x13_1∧Aside0 (impl_ClockSteps.l0 kq x4_1 (t393.length:Int) x13_1 = some (r1,r2))∧Aside0 (kq ≤ k)∧Aside0 (Kd.N k44 44 w' w.heap.size (fun k_=>(P0_2_ k_ ∨ w.heap.size ≤ k_)∧k_ ≠ gb391) (.slice Ao10 t393.length co10) x4_1)∧Aside0 (Kd.V k29 29 w' w.heap.size (fun k_=>(P0_2_ k_ ∨ w.heap.size ≤ k_)∧some k_ ≠ ((.slice Ao10 t393.length co10):Value).ownBlock∧k_ ≠ gb391) (.slice A0_2 l0_2.length c0_2) l0_2)∧Aside0 (w'.heap[gb391]? = some (.cells #[.int .i64 a0_0,.int .i64 a0_1,(.slice A0_2 l0_2.length c0_2)] 29 (0,0)))∧Aside0 (Below w.heap.size w w'))
  case atStart=>exact ⟨(t393),(0),rfl,H',⟨Nat.le_refl _⟩,⟨nN HO395.out⟩,⟨nV (Kd.V_mono HO0_2.out (fun _ hk=>⟨hk.1.1,⟨hk.2,hk.1.2⟩⟩))⟩,⟨nB BK391.out⟩,⟨bB⟩⟩
  case round =>
   clear H'
   try clear hcz6_0
   try clear hcz6_1
   try clear hcz6_2
   try clear hcz8_0
   try clear hcz8_1
   try clear hcz8_2
   try clear hfz6_0
   try clear hfz6_1
   try clear hfz6_2
   try clear hfz8_0
   try clear hfz8_1
   try clear hfz8_2
   repeat (first | clear HO_4 | clear HO_392002 | clear BK391 | clear HB)
   obtain ⟨x4_1,x13_1,rfl,HA,HK1,HO_4,HO_392002,BK391,HB⟩:=hrel
   have hl4_1:=(Kd.N_reads' HO_4.out).1
   rw [hl4_1] at HO_4
   (try simp only [hl4_1])
   (try simp only [hl4_1] at BK391)
   (try simp only [hl4_1] at HO_392002)
   cases gk with
   | zero=>exact absurd HA.out (by simp [impl_ClockSteps.l0])
   | succ k1 =>
    have H:=HA.out
    clear HA
    simp only [impl_ClockSteps.l0] at H
    by_cases c11:x13_1 < (t393.length:Int);rotate_left
    ·rw [if_neg c11] at H
     have c11b0:decide (x13_1 < (t393.length:Int)) = false:=decide_eq_false c11
     (try rw [hl4_1] at c11b0)
     clear c11
     simp only [Option.some.injEq,Prod.mk.injEq] at H
     obtain ⟨rfl,rfl⟩:=H
     go_wp2
     go_ret2
     exact ⟨_,rfl,by (with_reducible repeat (first | apply Kd.N_alloc | apply Kd.N_drewN | apply Kd.N_drew));exact Kd.N_mono HO_4.out (fun _ hk=>hk.1),bB⟩
    rw [if_pos c11] at H
    have c11b0:decide (x13_1 < (t393.length:Int)) = true:=decide_eq_true c11
    clear c11
    by_cases c12:0 ≤ x13_1;rotate_left
    ·rw [if_neg c12] at H
     exact absurd H (by simp)
    rw [if_pos c12] at H
    have c12b0:decide (0 ≤ x13_1) = true:=decide_eq_true c12
    clear c12
    by_cases c13:x13_1 < (x4_1.length:Int);rotate_left
    ·rw [if_neg c13] at H
     exact absurd H (by simp)
    rw [if_pos c13] at H
    have c13b0:decide (x13_1 < (x4_1.length:Int)) = true:=decide_eq_true c13
    clear c13
    obtain ⟨⟨t397,t398,t399⟩,A14,H⟩:=bQ H
    dsimp only at H
    obtain ⟨y402,hy402⟩:∃ y_:List (S44),y_ = (x4_1.set (x13_1:Int).toNat (⟨(rd_T44 x4_1 x13_1).f0,(⟨t397,t398,t399⟩:S29)⟩:S44)):=⟨_,rfl⟩
    replace H:(impl_ClockSteps.l0 k1 y402 (t393.length:Int) (wrap64 (x13_1 + 1))) = some (r1,r2):=by rw [hy402];exact H
    have Ny402:=aQ hy402
    clear hy402
    have H':=aQ H
    clear H
    have p396:0 ≤ (x13_1:Int):=of_decide_eq_true (by first | (with_reducible assumption) | assumption)
    have q396:x13_1 < (x4_1.length:Int):=of_decide_eq_true (by first | (with_reducible assumption) | assumption)
    obtain ⟨ad396,A396_3,c396_3,e396,hx396_0,hx396_1,hx396_2,hx396_3,hl396_3,hi396_3⟩:=at_T44 (Kd.N_reads' HO_4.out).2.2 x13_1 p396 q396
    cases e396
    obtain ⟨ce396,hce396,hMe396,hcc396⟩:=Kd.N_get HO_4.out z44 x13_1 p396 (by first | exact q396 | exact of_decide_eq_true (by first | (with_reducible assumption) | assumption) | (have e_:=(Kd.N_reads' HO_4.out).1;omega))
    obtain ⟨ua396_3,uc396_3,rfl,ul396_3,ge396_3⟩:=k44_openF hMe396
    have hv396_3:=hcc396 3 _ rfl
    rw [add_field _ _ 3 (by omega)] at hv396_3
    replace hv396_3:=Option.some.inj (hv396_3.symm.trans hx396_3)
    injection hv396_3 with hva_ hvn_ hvc_
    rw [hva_] at ge396_3
    rw [hvc_] at ul396_3
    have HL396_3:=aQ (show Kd.V k29 29 _ w.heap.size _ _ ((rd_T44 x4_1 x13_1).f1.f2) from Kd.V_mk ul396_3 ge396_3)
    clear hva_ hvn_ hvc_ ge396_3 ul396_3
    clear hcc396 hce396
    have HR396_3:=aQ hi396_3
    have HC396_3:=aQ hl396_3
    clear hi396_3 hl396_3
    replace p396:=eq_true p396
    replace q396:=eq_true q396
    go_wp2_with (first | ((with_reducible refine gate_callee (f:=48) rfl ?_);refine goesL_ (some 23) rfl rfl Try.func48 (by kernel_rfl) rfl #[.agg #[.int .i64 ((rd_T44 x4_1 x13_1).f1.f0),.int .i64 ((rd_T44 x4_1 x13_1).f1.f1),.slice A396_3 ((rd_T44 x4_1 x13_1).f1.f2).length c396_3]] rfl mP ?_;(with_reducible refine (impl_copyClock.calls k1 ((rd_T44 x4_1 x13_1).f1.f0) ((rd_T44 x4_1 x13_1).f1.f1) _ _ ((rd_T44 x4_1 x13_1).f1.f2) t397 t398 t399 _ ?side1 ?side2 A14.out).mono ?_);(case side1=>repeat (first | exact (nC HR396_3.out) | (with_reducible refine Kd.C_alloc ?_ _) | (with_reducible refine Kd.C_drewN ?_ _) | (with_reducible refine Kd.C_drew ?_)));(case side2=>exact HC396_3.out);rintro e w16 ⟨v400,rfl,ho0,hb⟩;refine ⟨_,rfl,?_⟩;replace HO_392002:=aQ (Kd.V_elder' (nV HO_392002.out) (Kd.N_base ho0) hb);replace HL396_3:=aQ (Kd.V_elder' (nV HL396_3.out) (Kd.N_base ho0) hb);have HO401:=aQ (Kd.N_lower (Kd.N_mono (ok':=fun k_=>(P0_2_ k_ ∨ w.heap.size ≤ k_)∧some k_ ≠ (.slice (some ad396) x4_1.length co10:Value).ownBlock∧k_ ≠ gb391) ho0 (fun k_ hk_=>⟨(.inr (Nat.le_trans (below_size bB) hk_)),(Kd.fresh' (Kd.N_lt (nN HO_4.out)) k_ hk_),(Kd.freshB (nB BK391.out) k_ hk_)⟩)) (below_size bB));replace HO_4:=aQ (Kd.N_elder' (nN HO_4.out) (Kd.N_base ho0) hb);replace BK391:=aQ (blk_below (nB BK391.out) hb);replace HR396_3:=aQ (Kd.C_below (nC HR396_3.out) hb);replace HB:=aQ (below_step bB hb);(try clear hb);(try clear ho0);obtain ⟨Aq400,cq400,eq400⟩:=Kd.N_slice HO401.out;subst eq400;have p15:0 ≤ (x13_1:Int):=of_decide_eq_true (by first | (with_reducible assumption) | assumption);have q15:(x13_1:Int) < ((x4_1.length:Int):Int):=of_decide_eq_true (by first | (with_reducible assumption) | assumption);obtain ⟨go15,co15,eo15,gb15,gl15,cl15,HG15⟩:=Kd.N_form HO_4.out (by omega);(first | cases eo15 | (injection eo15 with ea_ en_ ec_;(first | subst ea_ | (injection ea_ with ea_;subst ea_));subst ec_;clear en_));have GB15:=aQ gb15;have GG15:=aQ HG15;clear gb15 gl15 HG15;(first | simp only [add_plain] at hx396_0 | skip);(first | simp only [add_plain] at hx396_1 | skip);(first | simp only [add_plain] at hx396_2 | skip);(first | simp only [add_plain] at hx396_3 | skip);obtain ⟨ce15,hcl15,hM15,hcc15,hfr15⟩:=Kd.N_elem HO_4.out z44 (x13_1:Int) p15 q15;obtain ⟨ua15_3,uc15_3,rfl,ul15_3,ge15_3⟩:=k44_openF hM15;have hx15_0:w16.cell? ⟨go15,(x13_1:Int).toNat * 4,none⟩ = some (.int .i64 ((rd_T44 x4_1 x13_1).f0)):=hcc15 0 _ rfl;have hx15_1:w16.cell? ⟨go15,(x13_1:Int).toNat * 4 + 1,none⟩ = some (.int .i64 ((rd_T44 x4_1 x13_1).f1.f0)):=hcc15 1 _ rfl;have hx15_2:w16.cell? ⟨go15,(x13_1:Int).toNat * 4 + 2,none⟩ = some (.int .i64 ((rd_T44 x4_1 x13_1).f1.f1)):=hcc15 2 _ rfl;have hx15_3:w16.cell? ⟨go15,(x13_1:Int).toNat * 4 + 3,none⟩ = some (.slice ua15_3 ((rd_T44 x4_1 x13_1).f1.f2).length uc15_3):=hcc15 3 _ rfl;have hf15_0:w16.frozen? ⟨go15,(x13_1:Int).toNat * 4,none⟩ = false:=hfr15 0;have hf15_1:w16.frozen? ⟨go15,(x13_1:Int).toNat * 4 + 1,none⟩ = false:=hfr15 1;have hf15_2:w16.frozen? ⟨go15,(x13_1:Int).toNat * 4 + 2,none⟩ = false:=hfr15 2;have hf15_3:w16.frozen? ⟨go15,(x13_1:Int).toNat * 4 + 3,none⟩ = false:=hfr15 3;clear hcl15 hcc15 hfr15;(try clear hM15);replace p15:=eq_true p15;replace q15:=eq_true q15;have n_:=aQ (Kd.N_mono (ok':=(fun k_=>(P0_2_ k_ ∨ w.heap.size ≤ k_)∧some k_ ≠ ((.slice Aq400 t399.length cq400):Value).ownBlock∧k_ ≠ gb391)) HO_4.out (fun k_ hk=>⟨hk.1.1,⟨hk.2,hk.1.2⟩⟩));clear HO_4;have HO_4:=n_;clear n_;have HX17:=aQ (show Kd.N k44 44 w16 w.heap.size (fun k_=>(P0_2_ k_ ∨ w.heap.size ≤ k_)∧k_ ≠ gb391) (.slice (some ⟨go15,0,none⟩) x4_1.length co10) x4_1 from (nN (Kd.N_mono HO_4.out (fun _ hk=>⟨hk.1,hk.2.2⟩))));obtain ⟨ce17,hcl17,hM17,hcc17,hfr17⟩:=Kd.N_elem HX17.out z44 (x13_1:Int) (of_decide_eq_true (by first | (with_reducible assumption) | assumption)) (by have h_:(x13_1:Int) < ((x4_1.length:Int):Int):=of_decide_eq_true (by first | (with_reducible assumption) | assumption);first | exact h_ | (have e_:=(Kd.N_reads' HO_4.out).1;omega) | simpa using h_);obtain ⟨ua17_3,uc17_3,rfl,ul17_3,ge17_3⟩:=k44_openF hM17;have HP17:=Kd.N_seg HX17.out (x13_1:Int) (of_decide_eq_true (by first | (with_reducible assumption) | assumption)) (by have h_:(x13_1:Int) < ((x4_1.length:Int):Int):=of_decide_eq_true (by first | (with_reducible assumption) | assumption);first | exact h_ | (have e_:=(Kd.N_reads' HO_4.out).1;omega) | simpa using h_) (seg:=[.int .i64 t397,.int .i64 t398,(.slice Aq400 t399.length cq400)]) (j:=1) hcl17 hcc17 (show 4 ≤ 4 from by decide) (x':=(⟨(rd_T44 x4_1 x13_1).f0,(⟨t397,t398,t399⟩:S29)⟩:S44)) (k44_mkF _ _ (⟨(rd_T44 x4_1 x13_1).f0,(⟨t397,t398,t399⟩:S29)⟩:S44) (Kd.N_reads' (Kd.N_mono (ok':=(fun k_=>((fun k_=>(P0_2_ k_ ∨ w.heap.size ≤ k_)∧k_ ≠ gb391)) k_∧k_ ≠ go15)) (HO401.out) (fun k_ hk=>⟨⟨hk.1,hk.2.2⟩,fun e_=>(hk.2.1) (by rw [e_];rfl)⟩))).2.1 (Kd.N_F (Kd.N_mono (ok':=(fun k_=>((fun k_=>(P0_2_ k_ ∨ w.heap.size ≤ k_)∧k_ ≠ gb391)) k_∧k_ ≠ go15)) (HO401.out) (fun k_ hk=>⟨⟨hk.1,hk.2.2⟩,fun e_=>(hk.2.1) (by rw [e_];rfl)⟩)))) (fun _ hk=>hk);have hx17_1:=hcc17 1 _ rfl;(try simp only [show (k44).sz = 4 from rfl,Nat.mul_one,Nat.add_zero] at hx17_1);have hf17_1:=hfr17 1;(try simp only [show (k44).sz = 4 from rfl,Nat.mul_one,Nat.add_zero] at hf17_1);have hx17_2:=hcc17 2 _ rfl;(try simp only [show (k44).sz = 4 from rfl,Nat.mul_one,Nat.add_zero] at hx17_2);have hf17_2:=hfr17 2;(try simp only [show (k44).sz = 4 from rfl,Nat.mul_one,Nat.add_zero] at hf17_2);have hx17_3:=hcc17 3 _ rfl;(try simp only [show (k44).sz = 4 from rfl,Nat.mul_one,Nat.add_zero] at hx17_3);have hf17_3:=hfr17 3;(try simp only [show (k44).sz = 4 from rfl,Nat.mul_one,Nat.add_zero] at hf17_3);clear hcl17 hcc17 hfr17;(try clear hM17)) | ((with_reducible refine gate_store (t:=29) (p:=25) rfl ?_);refine store_event (t:=29) (p:=25) (v:=?vo_w18) (w1:=(((w16.setCell ⟨go15,(x13_1:Int).toNat * 4 + 1,none⟩ (.int .i64 t397)).setCell ⟨go15,(x13_1:Int).toNat * 4 + 2,none⟩ (.int .i64 t398)).setCell ⟨go15,(x13_1:Int).toNat * 4 + 3,none⟩ ((.slice Aq400 t399.length cq400)))) ?hg ?ho ?hn ?hr ?_;(case ho=>rfl);(case hg=>rfl);(case hn=>rfl);(case hr=>first | (go_simp;done) | (go_simp;rfl) | (obtain ⟨Ax_,cx_,ex_⟩:=Kd.R_slice (v:=(.slice Aq400 t399.length cq400)) (Aside0.out (by assumption));subst ex_;first | (go_simp;done) | (go_simp;rfl)) | (obtain ⟨Ax_,cx_,ex_⟩:=Kd.S_slice (v:=(.slice Aq400 t399.length cq400)) (Aside0.out (by assumption));subst ex_;first | (go_simp;done) | (go_simp;rfl)));intro w18 hw;have hg:w16.grownBy w18 (some go15):=(by rw [hw];exact HP17.2);have hp_:Kd.N k44 44 w18 w.heap.size (fun k_=>(P0_2_ k_ ∨ w.heap.size ≤ k_)∧k_ ≠ gb391) (.slice (some ⟨go15,0,none⟩) x4_1.length co10) y402:=(by rw [hw,Ny402.out];exact HP17.1);clear HP17;have n0_:=aQ (hp_);have n1_:=aQ (Kd.V_afterv (v:=(.slice (some ⟨go15,0,none⟩) x4_1.length co10)) (v1:=(.slice (some ⟨go15,0,none⟩) x4_1.length co10)) (ok:=(fun k_=>(P0_2_ k_ ∨ w.heap.size ≤ k_)∧some k_ ≠ ((.slice Aq400 t399.length cq400):Value).ownBlock∧k_ ≠ gb391)) (nV (Kd.V_mono HO_392002.out (fun _ hk=>⟨⟨hk.1.1,⟨hk.2,hk.1.2.2⟩⟩,hk.1.2.1⟩))) hg (.inl rfl));have n2_:=aQ (blk_grown (nB BK391.out) hg (Kd.N_ne HO_4.out BK391.out (by decide)));have n3_:=aQ (Kd.V_afterv (v:=(.slice (some ⟨go15,0,none⟩) x4_1.length co10)) (v1:=(.slice (some ⟨go15,0,none⟩) x4_1.length co10)) (ok:=(fun k_=>(P0_2_ k_ ∨ w.heap.size ≤ k_)∧some k_ ≠ ((.slice Aq400 t399.length cq400):Value).ownBlock∧k_ ≠ gb391)) (nV (Kd.V_mono HL396_3.out (fun _ hk=>⟨⟨hk.1.1.1,⟨hk.2,hk.1.1.2⟩⟩,hk.1.2⟩))) hg (.inl rfl));have n4_:=aQ ((by rw [hw];exact below_set (below_set (below_set (HB.out) GB15.out) GB15.out) GB15.out:Below w.heap.size w w18));clear HO_4;clear HO_392002;clear BK391;clear HL396_3;clear HB;clear HO401;have HO_4:=n0_;have HO_392002:=n1_;have BK391:=n2_;have HL396_3:=n3_;have HB:=n4_;clear n0_ n1_ n2_ n3_ n4_;clear hg hw hp_))
    (try simp only [← hl4_1])
    go_roundg k1
    case measure=>have:=HK1.out;omega
    case rel=>exact ⟨(y402),(wrap64 (x13_1 + 1)),rfl,H',⟨by have:=HK1.out;omega⟩,⟨by (try simp only [hl4_1]);(with_reducible repeat (first | apply Kd.N_alloc | apply Kd.N_drewN | apply Kd.N_drew));exact HO_4.out⟩,⟨by (try simp only [hl4_1]);(with_reducible repeat (first | apply Kd.V_alloc | apply Kd.V_drewN | apply Kd.V_drew));exact Kd.V_mono HO_392002.out (fun _ hk=>⟨hk.1.1,⟨hk.2,hk.1.2.2⟩⟩)⟩,⟨by (try simp only [hl4_1]);(with_reducible repeat (first | refine blk_drewN ?_ _ | refine blk_drew ?_ | refine blk_alloc ?_ _));exact BK391.out⟩,⟨bB⟩⟩
 ·replace c3:=Bool.eq_false_iff.mpr c3
  subst c3
  have H1:(some (([]:List (S44)),false)) = some (r1,r2):=by rw [if_neg (show ¬ (false = true) by decide)] at H;exact H
  clear H
  have H:=H1
  clear H1
  simp only [Option.some.injEq,Prod.mk.injEq] at H
  obtain ⟨rfl,rfl⟩:=H
  go_enter Try.func19,Try.ntmps19
  go_wp2_with (first | ((with_reducible refine gate_dst (N:=1) rfl ?_);refine box1 (N:=1) (cs:=#[.int .i64 a0_0,.int .i64 a0_1,.slice A0_2 l0_2.length c0_2]) (t:=29) ?_;intro gb391 hg w19 hbox hb;replace HO0_2:=aQ (Kd.V_below (Kd.V_elderB (nV HO0_2.out) gb391 (Nat.le_of_eq hg.symm)) hb);have BK391:=aQ (hbox);have GW391:=aQ (gB:w.heap.size ≤ gb391);have GE391:=GW391;replace HB:=aQ (below_step bB hb);clear hb hbox hg;obtain ⟨hcz20_0,hcz20_1,hcz20_2,hfz20_0,hfz20_1,hfz20_2⟩:=cz3 BK391.out) | ((with_reducible refine gate_callee (f:=16) rfl ?_);refine goesL_ (some 7) rfl rfl Try.func16 (by kernel_rfl) rfl #[.agg #[.int .i64 a0_0,.int .i64 a0_1,.slice A0_2 l0_2.length c0_2]] rfl mP ?_;(with_reducible refine (impl_ClockOk.calls k a0_0 a0_1 _ _ l0_2 false _ ?side1 ?side2 A2.out).mono ?_);(case side1=>repeat (first | exact (Kd.V_reads' HO0_2.out).2.2 | (with_reducible refine Kd.C_alloc ?_ _) | (with_reducible refine Kd.C_drewN ?_ _) | (with_reducible refine Kd.C_drew ?_)));(case side2=>exact (Kd.V_reads' HO0_2.out).2.1);rintro e w21 ⟨rfl,hb⟩;refine ⟨_,rfl,?_⟩;replace HO0_2:=aQ (Kd.V_below (nV HO0_2.out) hb);replace BK391:=aQ (blk_below (nB BK391.out) hb);replace HB:=aQ (below_step bB hb);(try clear hb)))
  go_ret2
  exact ⟨_,rfl,by first | exact Kd.R_nil _ _ _ _ _ | exact Kd.N_nil _ _ _ _ _ | exact Kd.V_nil _ _ _ _ _ | exact Kd.Q_nil _ _ _ _ _ | exact Kd.S_nil _ _ _ _ _,bB⟩
end Go.Proofs.Ytnkgcjdlfenepaa.P
