/- What the Go functions that the laws reach compute, and that their calls come to just that: told by a program of this session (aprint.py). No condition. -/
import Derived.Test.YtbcjpdahdecehaaDoorP0
import Derived.Test.YtbcjpdahdecehaaDoorP2
import Derived.Test.YtbcjpdahdecehaaDoorP3
namespace Go.Proofs.YtbcjpdahdecehaaDoor.P
open Go.RowKit Go.Proofs.YtbcjpdahdecehaaDoorW.PrintWords Go.Proofs.YtbcjpdahdecehaaDoorW.PrintLast Go.Proofs.YtbcjpdahdecehaaDoorW.PrintMore
attribute [local go_sem] max2_int min2_int max_two min_two max_three min_three max_four min_four
set_option linter.unusedVariables false
set_option linter.unusedSimpArgs false
def laws_FnExactSealUnder.f (k:Nat) (a0_0:Int) (a0_1:Int) (l0_2:List (S33)) (a1_0:Int) (a1_1:Int) (l1_2:List (S33)):Option (Bool):=(laws_szSeal.f k a0_0 a0_1 l0_2 1048576).bind fun t332=>(if t332 < 0 then (some true) else ((laws_szSeal.f k a1_0 a1_1 l1_2 t332).bind fun t333=>(if t333 < 0 then (some true) else ((laws_toSeal.f k a0_0 a0_1 l0_2).bind fun bt334=>((laws_toSeal.f k a1_0 a1_1 l1_2).bind fun bt339=>((spec_SealUnder.f k bt334.1 bt334.2.1 bt334.2.2 bt339.1 bt339.2.1 bt339.2.2).bind fun t344=>((laws_toSeal.f k a0_0 a0_1 l0_2).bind fun bt345=>((laws_toSeal.f k a1_0 a1_1 l1_2).bind fun bt351=>((impl_SealUnder.f k bt345.1 bt345.2.1 bt345.2.2 bt351.1 bt351.2.1 bt351.2.2).bind fun t357=>(if (t357 != t344) = true then (some false) else ((laws_toSeal.f k a0_0 a0_1 l0_2).bind fun bt358=>((laws_eqSeal.f k bt345.1 bt345.2.1 bt345.2.2 bt358.1 bt358.2.1 bt358.2.2).bind fun t363=>(if t363 = true then ((laws_toSeal.f k a1_0 a1_1 l1_2).bind fun bt364=>((laws_eqSeal.f k bt351.1 bt351.2.1 bt351.2.2 bt364.1 bt364.2.1 bt364.2.2).bind fun t369=>(if t369 = true then (some true) else (some false)))) else (some false))))))))))))))
theorem laws_FnExactSealUnder.mono:∀ a0 a1 a2 a3 a4 a5 k,LeO (laws_FnExactSealUnder.f k a0 a1 a2 a3 a4 a5) (laws_FnExactSealUnder.f (k + 1) a0 a1 a2 a3 a4 a5):=by
 intro a0 a1 a2 a3 a4 a5 k
 unfold laws_FnExactSealUnder.f
 repeat' first
   | (with_reducible exact impl_SealUnder.mono _ _ _ _ _ _ _)
   | (with_reducible exact laws_eqSeal.mono _ _ _ _ _ _ _)
   | (with_reducible exact laws_szSeal.mono _ _ _ _ _)
   | (with_reducible exact laws_toSeal.mono _ _ _ _)
   | (with_reducible exact spec_SealUnder.mono _ _ _ _ _ _ _)
   | (with_reducible exact LeO.refl _)
   | (with_reducible exact LeO.none _)
   | (with_reducible refine LeO.ite ?_ ?_)
   | (with_reducible refine LeO.bind ?_ (fun _=>?_))
   | exact impl_SealUnder.mono _ _ _ _ _ _ _
   | exact laws_eqSeal.mono _ _ _ _ _ _ _
   | exact laws_szSeal.mono _ _ _ _ _
   | exact laws_toSeal.mono _ _ _ _
   | exact spec_SealUnder.mono _ _ _ _ _ _ _
   | exact LeO.none _
   | refine LeO.ite ?_ ?_
   | refine LeO.bind ?_ (fun _=>?_)
set_option maxHeartbeats 8000000 in
set_option maxRecDepth 100000 in
theorem laws_FnExactSealUnder.calls (k:Nat) (a0_0:Int) (a0_1:Int) (A0_2:Option Addr) (c0_2:Nat) (l0_2:List (S33)) (a1_0:Int) (a1_1:Int) (A1_2:Option Addr) (c1_2:Nat) (l1_2:List (S33)) (r:Bool) (w:World) (hr0_2:Kd.C k33 w A0_2 l0_2.length l0_2) (hc0_2:l0_2.length ≤ c0_2) (hr1_2:Kd.C k33 w A1_2 l1_2.length l1_2) (hc1_2:l1_2.length ≤ c1_2) (h:laws_FnExactSealUnder.f k a0_0 a0_1 l0_2 a1_0 a1_1 l1_2 = some r) :
  Calls Tryd.prog 6 #[.agg #[.int .i64 a0_0,.int .i64 a0_1,.slice A0_2 l0_2.length c0_2],.agg #[.int .i64 a1_0,.int .i64 a1_1,.slice A1_2 l1_2.length c1_2]] w fun e w'=>e = .returned (.bool r)∧Below w.heap.size w w':=by
 have hu33:=Tryd.underlying33
 have hu25:=Tryd.underlying25
 have HR0_2:=Aside0.mk hr0_2
 have HC0_2:=Aside0.mk hc0_2
 clear hr0_2 hc0_2
 have HR1_2:=Aside0.mk hr1_2
 have HC1_2:=Aside0.mk hc1_2
 clear hr1_2 hc1_2
 have HB:=Aside0.mk (Below.refl w.heap.size w)
 have H:((laws_szSeal.f k a0_0 a0_1 l0_2 1048576).bind fun t332=>(if t332 < 0 then (some true) else ((laws_szSeal.f k a1_0 a1_1 l1_2 t332).bind fun t333=>(if t333 < 0 then (some true) else ((laws_toSeal.f k a0_0 a0_1 l0_2).bind fun bt334=>((laws_toSeal.f k a1_0 a1_1 l1_2).bind fun bt339=>((spec_SealUnder.f k bt334.1 bt334.2.1 bt334.2.2 bt339.1 bt339.2.1 bt339.2.2).bind fun t344=>((laws_toSeal.f k a0_0 a0_1 l0_2).bind fun bt345=>((laws_toSeal.f k a1_0 a1_1 l1_2).bind fun bt351=>((impl_SealUnder.f k bt345.1 bt345.2.1 bt345.2.2 bt351.1 bt351.2.1 bt351.2.2).bind fun t357=>(if (t357 != t344) = true then (some false) else ((laws_toSeal.f k a0_0 a0_1 l0_2).bind fun bt358=>((laws_eqSeal.f k bt345.1 bt345.2.1 bt345.2.2 bt358.1 bt358.2.1 bt358.2.2).bind fun t363=>(if t363 = true then ((laws_toSeal.f k a1_0 a1_1 l1_2).bind fun bt364=>((laws_eqSeal.f k bt351.1 bt351.2.1 bt351.2.2 bt364.1 bt364.2.1 bt364.2.2).bind fun t369=>(if t369 = true then (some true) else (some false)))) else (some false))))))))))))))) = some r:=h
 clear h
 replace H:=Option.bind_eq_some_iff.mp H
 obtain ⟨t332,A30,H⟩:=H
 replace H:(if t332 < 0 then (some true) else ((laws_szSeal.f k a1_0 a1_1 l1_2 t332).bind fun t333=>(if t333 < 0 then (some true) else ((laws_toSeal.f k a0_0 a0_1 l0_2).bind fun bt334=>((laws_toSeal.f k a1_0 a1_1 l1_2).bind fun bt339=>((spec_SealUnder.f k bt334.1 bt334.2.1 bt334.2.2 bt339.1 bt339.2.1 bt339.2.2).bind fun t344=>((laws_toSeal.f k a0_0 a0_1 l0_2).bind fun bt345=>((laws_toSeal.f k a1_0 a1_1 l1_2).bind fun bt351=>((impl_SealUnder.f k bt345.1 bt345.2.1 bt345.2.2 bt351.1 bt351.2.1 bt351.2.2).bind fun t357=>(if (t357 != t344) = true then (some false) else ((laws_toSeal.f k a0_0 a0_1 l0_2).bind fun bt358=>((laws_eqSeal.f k bt345.1 bt345.2.1 bt345.2.2 bt358.1 bt358.2.1 bt358.2.2).bind fun t363=>(if t363 = true then ((laws_toSeal.f k a1_0 a1_1 l1_2).bind fun bt364=>((laws_eqSeal.f k bt351.1 bt351.2.1 bt351.2.2 bt364.1 bt364.2.1 bt364.2.2).bind fun t369=>(if t369 = true then (some true) else (some false)))) else (some false)))))))))))))) = some r:=H
 have A3:=Aside0.mk A30
 clear A30
 by_cases c4:t332 < 0
 ·rw [if_pos c4] at H
  have c4b0:decide (t332 < 0) = true:=decide_eq_true c4
  clear c4
  obtain rfl:=Option.some.inj H
  go_enter Tryd.func6,Tryd.ntmps6
  go_wp2_with (first | ((with_reducible refine gate_dst (N:=2) rfl ?_);refine box_event ?hg (N:=2) ?hd (cs:=#[.int .i64 a0_0,.int .i64 a0_1,.slice A0_2 l0_2.length c0_2]) (t:=33) ?hr ?_;(case hd=>rfl);(case hg=>rfl);(case hr=>first | (go_simp;done) | (go_simp;rfl));intro gb330 hg w5 hbox hb;have n0_:=Aside0.mk (below_step (by repeat (first | (with_reducible first | exact HB.out | apply below_alloc | apply pw_below_drewN | apply below_drew1) | exact HB.out)) hb);have n1_:=Aside0.mk (hbox);have n2_:=Aside0.mk ((by rw [hg];exact (below_size (by repeat (first | (with_reducible first | exact HB.out | apply below_alloc | apply pw_below_drewN | apply below_drew1) | exact HB.out))):w.heap.size ≤ gb330));have n3_:=Aside0.mk ((by rw [hg];exact (below_size (by repeat (first | (with_reducible first | exact HB.out | apply below_alloc | apply pw_below_drewN | apply below_drew1) | exact HB.out))):w.heap.size ≤ gb330));clear HB;have HB:=n0_;have BK330:=n1_;have GW330:=n2_;have GE330:=n3_;clear n0_ n1_ n2_ n3_;clear hb hbox hg) | ((with_reducible refine gate_dst (N:=3) rfl ?_);refine box_event ?hg (N:=3) ?hd (cs:=#[.int .i64 a1_0,.int .i64 a1_1,.slice A1_2 l1_2.length c1_2]) (t:=33) ?hr ?_;(case hd=>rfl);(case hg=>rfl);(case hr=>first | (go_simp;done) | (go_simp;rfl));intro gb331 hg w6 hbox hb;have n0_:=Aside0.mk (blk_below (g:=gb330) (o:=.cells #[.int .i64 a0_0,.int .i64 a0_1,.slice A0_2 l0_2.length c0_2] 33 (0,0)) (by (with_reducible repeat (first | refine blk_drewN ?_ _ | refine blk_drew ?_ | refine blk_alloc ?_ _));exact BK330.out) hb);have n1_:=Aside0.mk (below_step (by repeat (first | (with_reducible first | exact HB.out | apply below_alloc | apply pw_below_drewN | apply below_drew1 | refine below_set ?_ GE330.out) | exact HB.out)) hb);have n2_:=Aside0.mk (hbox);have n3_:=Aside0.mk ((by rw [hg];exact (below_size (by repeat (first | (with_reducible first | exact HB.out | apply below_alloc | apply pw_below_drewN | apply below_drew1 | refine below_set ?_ GE330.out) | exact HB.out))):w.heap.size ≤ gb331));have n4_:=Aside0.mk ((by rw [hg];exact (below_size (by repeat (first | (with_reducible first | exact HB.out | apply below_alloc | apply pw_below_drewN | apply below_drew1 | refine below_set ?_ GE330.out) | exact HB.out))):w.heap.size ≤ gb331));have n5_:=Aside0.mk ((by rw [hg];exact Nat.ne_of_lt (blk_lt (g:=gb330) (o:=.cells #[.int .i64 a0_0,.int .i64 a0_1,.slice A0_2 l0_2.length c0_2] 33 (0,0)) (by (with_reducible repeat (first | refine blk_drewN ?_ _ | refine blk_drew ?_ | refine blk_alloc ?_ _));exact BK330.out)):gb330 ≠ gb331));have n6_:=Aside0.mk ((by rw [hg];exact Nat.ne_of_gt (blk_lt (g:=gb330) (o:=.cells #[.int .i64 a0_0,.int .i64 a0_1,.slice A0_2 l0_2.length c0_2] 33 (0,0)) (by (with_reducible repeat (first | refine blk_drewN ?_ _ | refine blk_drew ?_ | refine blk_alloc ?_ _));exact BK330.out)):gb331 ≠ gb330));clear BK330;clear HB;have BK330:=n0_;have HB:=n1_;have BK331:=n2_;have GW331:=n3_;have GE331:=n4_;have NB330_331:=n5_;have NB331_330:=n6_;clear n0_ n1_ n2_ n3_ n4_ n5_ n6_;clear hb hbox hg;have hnb7:=NB330_331.out;have hnc7:=NB331_330.out;have hcz8_0:w6.cell? ⟨gb330,0,none⟩ = some (.int .i64 a0_0):=(blk_cell BK330.out 0).trans rfl;have hcz8_1:w6.cell? ⟨gb330,1,none⟩ = some (.int .i64 a0_1):=(blk_cell BK330.out 1).trans rfl;have hcz8_2:w6.cell? ⟨gb330,2,none⟩ = some (.slice A0_2 l0_2.length c0_2):=(blk_cell BK330.out 2).trans rfl;have hfz8_0:=blk_frozen BK330.out 0;have hfz8_1:=blk_frozen BK330.out 1;have hfz8_2:=blk_frozen BK330.out 2) | ((with_reducible refine gate_callee (f:=20) rfl ?_);refine goesL_ (some 12) rfl rfl Tryd.func20 (by kernel_rfl) rfl #[.agg #[.int .i64 a0_0,.int .i64 a0_1,.slice A0_2 l0_2.length c0_2],.int .i64 1048576] rfl (by (try simp only [List.map_toArray,List.map_cons,List.map_nil]);first | done | rfl | (simp only [List.length_drop,List.length_take];rfl)) ?_;(with_reducible refine (laws_szSeal.calls k a0_0 a0_1 _ _ l0_2 1048576 t332 _ ?side1 ?side2 A3.out).mono ?_);(case side1=>repeat (first | exact (Kd.C_below HR0_2.out HB.out) | (with_reducible refine Kd.C_alloc ?_ _) | (with_reducible refine Kd.C_drewN ?_ _) | (with_reducible refine Kd.C_drew ?_)));(case side2=>exact HC0_2.out);rintro e w9 ⟨rfl,hb⟩;refine ⟨_,rfl,?_⟩;have n0_:=Aside0.mk (blk_below (g:=gb330) (o:=.cells #[.int .i64 a0_0,.int .i64 a0_1,.slice A0_2 l0_2.length c0_2] 33 (0,0)) (by (with_reducible repeat (first | refine blk_drewN ?_ _ | refine blk_drew ?_ | refine blk_alloc ?_ _));exact BK330.out) hb);have n1_:=Aside0.mk (blk_below (g:=gb331) (o:=.cells #[.int .i64 a1_0,.int .i64 a1_1,.slice A1_2 l1_2.length c1_2] 33 (0,0)) (by (with_reducible repeat (first | refine blk_drewN ?_ _ | refine blk_drew ?_ | refine blk_alloc ?_ _));exact BK331.out) hb);have n2_:=Aside0.mk (below_step (by repeat (first | (with_reducible first | exact HB.out | apply below_alloc | apply pw_below_drewN | apply below_drew1 | refine below_set ?_ GE330.out | refine below_set ?_ GE331.out) | exact HB.out)) hb);clear BK330;clear BK331;clear HB;have BK330:=n0_;have BK331:=n1_;have HB:=n2_;clear n0_ n1_ n2_;(try clear hb);(try clear hb2);(try clear hk);(try clear hi)))
  go_ret
  exact ⟨by first | rfl | (simp [errW_none,errW_some] <;> rfl) | (simp [*,errW_none,errW_some] <;> rfl),by repeat (first | (with_reducible first | exact HB.out | apply below_alloc | apply pw_below_drewN | apply below_drew1 | refine below_set ?_ GE330.out | refine below_set ?_ GE331.out) | exact HB.out)⟩
 ·rw [if_neg c4] at H
  have c4b0:decide (t332 < 0) = false:=decide_eq_false c4
  clear c4
  replace H:=Option.bind_eq_some_iff.mp H
  obtain ⟨t333,A100,H⟩:=H
  replace H:(if t333 < 0 then (some true) else ((laws_toSeal.f k a0_0 a0_1 l0_2).bind fun bt334=>((laws_toSeal.f k a1_0 a1_1 l1_2).bind fun bt339=>((spec_SealUnder.f k bt334.1 bt334.2.1 bt334.2.2 bt339.1 bt339.2.1 bt339.2.2).bind fun t344=>((laws_toSeal.f k a0_0 a0_1 l0_2).bind fun bt345=>((laws_toSeal.f k a1_0 a1_1 l1_2).bind fun bt351=>((impl_SealUnder.f k bt345.1 bt345.2.1 bt345.2.2 bt351.1 bt351.2.1 bt351.2.2).bind fun t357=>(if (t357 != t344) = true then (some false) else ((laws_toSeal.f k a0_0 a0_1 l0_2).bind fun bt358=>((laws_eqSeal.f k bt345.1 bt345.2.1 bt345.2.2 bt358.1 bt358.2.1 bt358.2.2).bind fun t363=>(if t363 = true then ((laws_toSeal.f k a1_0 a1_1 l1_2).bind fun bt364=>((laws_eqSeal.f k bt351.1 bt351.2.1 bt351.2.2 bt364.1 bt364.2.1 bt364.2.2).bind fun t369=>(if t369 = true then (some true) else (some false)))) else (some false)))))))))))) = some r:=H
  have A10:=Aside0.mk A100
  clear A100
  by_cases c11:t333 < 0
  ·rw [if_pos c11] at H
   have c11b0:decide (t333 < 0) = true:=decide_eq_true c11
   clear c11
   obtain rfl:=Option.some.inj H
   go_enter Tryd.func6,Tryd.ntmps6
   go_wp2_with (first | ((with_reducible refine gate_dst (N:=2) rfl ?_);refine box_event ?hg (N:=2) ?hd (cs:=#[.int .i64 a0_0,.int .i64 a0_1,.slice A0_2 l0_2.length c0_2]) (t:=33) ?hr ?_;(case hd=>rfl);(case hg=>rfl);(case hr=>first | (go_simp;done) | (go_simp;rfl));intro gb330 hg w12 hbox hb;have n0_:=Aside0.mk (below_step (by repeat (first | (with_reducible first | exact HB.out | apply below_alloc | apply pw_below_drewN | apply below_drew1) | exact HB.out)) hb);have n1_:=Aside0.mk (hbox);have n2_:=Aside0.mk ((by rw [hg];exact (below_size (by repeat (first | (with_reducible first | exact HB.out | apply below_alloc | apply pw_below_drewN | apply below_drew1) | exact HB.out))):w.heap.size ≤ gb330));have n3_:=Aside0.mk ((by rw [hg];exact (below_size (by repeat (first | (with_reducible first | exact HB.out | apply below_alloc | apply pw_below_drewN | apply below_drew1) | exact HB.out))):w.heap.size ≤ gb330));clear HB;have HB:=n0_;have BK330:=n1_;have GW330:=n2_;have GE330:=n3_;clear n0_ n1_ n2_ n3_;clear hb hbox hg) | ((with_reducible refine gate_dst (N:=3) rfl ?_);refine box_event ?hg (N:=3) ?hd (cs:=#[.int .i64 a1_0,.int .i64 a1_1,.slice A1_2 l1_2.length c1_2]) (t:=33) ?hr ?_;(case hd=>rfl);(case hg=>rfl);(case hr=>first | (go_simp;done) | (go_simp;rfl));intro gb331 hg w13 hbox hb;have n0_:=Aside0.mk (blk_below (g:=gb330) (o:=.cells #[.int .i64 a0_0,.int .i64 a0_1,.slice A0_2 l0_2.length c0_2] 33 (0,0)) (by (with_reducible repeat (first | refine blk_drewN ?_ _ | refine blk_drew ?_ | refine blk_alloc ?_ _));exact BK330.out) hb);have n1_:=Aside0.mk (below_step (by repeat (first | (with_reducible first | exact HB.out | apply below_alloc | apply pw_below_drewN | apply below_drew1 | refine below_set ?_ GE330.out) | exact HB.out)) hb);have n2_:=Aside0.mk (hbox);have n3_:=Aside0.mk ((by rw [hg];exact (below_size (by repeat (first | (with_reducible first | exact HB.out | apply below_alloc | apply pw_below_drewN | apply below_drew1 | refine below_set ?_ GE330.out) | exact HB.out))):w.heap.size ≤ gb331));have n4_:=Aside0.mk ((by rw [hg];exact (below_size (by repeat (first | (with_reducible first | exact HB.out | apply below_alloc | apply pw_below_drewN | apply below_drew1 | refine below_set ?_ GE330.out) | exact HB.out))):w.heap.size ≤ gb331));have n5_:=Aside0.mk ((by rw [hg];exact Nat.ne_of_lt (blk_lt (g:=gb330) (o:=.cells #[.int .i64 a0_0,.int .i64 a0_1,.slice A0_2 l0_2.length c0_2] 33 (0,0)) (by (with_reducible repeat (first | refine blk_drewN ?_ _ | refine blk_drew ?_ | refine blk_alloc ?_ _));exact BK330.out)):gb330 ≠ gb331));have n6_:=Aside0.mk ((by rw [hg];exact Nat.ne_of_gt (blk_lt (g:=gb330) (o:=.cells #[.int .i64 a0_0,.int .i64 a0_1,.slice A0_2 l0_2.length c0_2] 33 (0,0)) (by (with_reducible repeat (first | refine blk_drewN ?_ _ | refine blk_drew ?_ | refine blk_alloc ?_ _));exact BK330.out)):gb331 ≠ gb330));clear BK330;clear HB;have BK330:=n0_;have HB:=n1_;have BK331:=n2_;have GW331:=n3_;have GE331:=n4_;have NB330_331:=n5_;have NB331_330:=n6_;clear n0_ n1_ n2_ n3_ n4_ n5_ n6_;clear hb hbox hg;have hnb14:=NB330_331.out;have hnc14:=NB331_330.out;have hcz15_0:w13.cell? ⟨gb330,0,none⟩ = some (.int .i64 a0_0):=(blk_cell BK330.out 0).trans rfl;have hcz15_1:w13.cell? ⟨gb330,1,none⟩ = some (.int .i64 a0_1):=(blk_cell BK330.out 1).trans rfl;have hcz15_2:w13.cell? ⟨gb330,2,none⟩ = some (.slice A0_2 l0_2.length c0_2):=(blk_cell BK330.out 2).trans rfl;have hfz15_0:=blk_frozen BK330.out 0;have hfz15_1:=blk_frozen BK330.out 1;have hfz15_2:=blk_frozen BK330.out 2) | ((with_reducible refine gate_callee (f:=20) rfl ?_);refine goesL_ (some 12) rfl rfl Tryd.func20 (by kernel_rfl) rfl #[.agg #[.int .i64 a0_0,.int .i64 a0_1,.slice A0_2 l0_2.length c0_2],.int .i64 1048576] rfl (by (try simp only [List.map_toArray,List.map_cons,List.map_nil]);first | done | rfl | (simp only [List.length_drop,List.length_take];rfl)) ?_;(with_reducible refine (laws_szSeal.calls k a0_0 a0_1 _ _ l0_2 1048576 t332 _ ?side1 ?side2 A3.out).mono ?_);(case side1=>repeat (first | exact (Kd.C_below HR0_2.out HB.out) | (with_reducible refine Kd.C_alloc ?_ _) | (with_reducible refine Kd.C_drewN ?_ _) | (with_reducible refine Kd.C_drew ?_)));(case side2=>exact HC0_2.out);rintro e w16 ⟨rfl,hb⟩;refine ⟨_,rfl,?_⟩;have n0_:=Aside0.mk (blk_below (g:=gb330) (o:=.cells #[.int .i64 a0_0,.int .i64 a0_1,.slice A0_2 l0_2.length c0_2] 33 (0,0)) (by (with_reducible repeat (first | refine blk_drewN ?_ _ | refine blk_drew ?_ | refine blk_alloc ?_ _));exact BK330.out) hb);have n1_:=Aside0.mk (blk_below (g:=gb331) (o:=.cells #[.int .i64 a1_0,.int .i64 a1_1,.slice A1_2 l1_2.length c1_2] 33 (0,0)) (by (with_reducible repeat (first | refine blk_drewN ?_ _ | refine blk_drew ?_ | refine blk_alloc ?_ _));exact BK331.out) hb);have n2_:=Aside0.mk (below_step (by repeat (first | (with_reducible first | exact HB.out | apply below_alloc | apply pw_below_drewN | apply below_drew1 | refine below_set ?_ GE330.out | refine below_set ?_ GE331.out) | exact HB.out)) hb);clear BK330;clear BK331;clear HB;have BK330:=n0_;have BK331:=n1_;have HB:=n2_;clear n0_ n1_ n2_;(try clear hb);(try clear hb2);(try clear hk);(try clear hi);have hcz17_0:w16.cell? ⟨gb331,0,none⟩ = some (.int .i64 a1_0):=(blk_cell BK331.out 0).trans rfl;have hcz17_1:w16.cell? ⟨gb331,1,none⟩ = some (.int .i64 a1_1):=(blk_cell BK331.out 1).trans rfl;have hcz17_2:w16.cell? ⟨gb331,2,none⟩ = some (.slice A1_2 l1_2.length c1_2):=(blk_cell BK331.out 2).trans rfl;have hfz17_0:=blk_frozen BK331.out 0;have hfz17_1:=blk_frozen BK331.out 1;have hfz17_2:=blk_frozen BK331.out 2) | ((with_reducible refine gate_callee (f:=20) rfl ?_);refine goesL_ (some 17) rfl rfl Tryd.func20 (by kernel_rfl) rfl #[.agg #[.int .i64 a1_0,.int .i64 a1_1,.slice A1_2 l1_2.length c1_2],.int .i64 t332] rfl (by (try simp only [List.map_toArray,List.map_cons,List.map_nil]);first | done | rfl | (simp only [List.length_drop,List.length_take];rfl)) ?_;(with_reducible refine (laws_szSeal.calls k a1_0 a1_1 _ _ l1_2 t332 t333 _ ?side1 ?side2 A10.out).mono ?_);(case side1=>repeat (first | exact (Kd.C_below HR1_2.out HB.out) | (with_reducible refine Kd.C_alloc ?_ _) | (with_reducible refine Kd.C_drewN ?_ _) | (with_reducible refine Kd.C_drew ?_)));(case side2=>exact HC1_2.out);rintro e w18 ⟨rfl,hb⟩;refine ⟨_,rfl,?_⟩;have n0_:=Aside0.mk (blk_below (g:=gb330) (o:=.cells #[.int .i64 a0_0,.int .i64 a0_1,.slice A0_2 l0_2.length c0_2] 33 (0,0)) (by (with_reducible repeat (first | refine blk_drewN ?_ _ | refine blk_drew ?_ | refine blk_alloc ?_ _));exact BK330.out) hb);have n1_:=Aside0.mk (blk_below (g:=gb331) (o:=.cells #[.int .i64 a1_0,.int .i64 a1_1,.slice A1_2 l1_2.length c1_2] 33 (0,0)) (by (with_reducible repeat (first | refine blk_drewN ?_ _ | refine blk_drew ?_ | refine blk_alloc ?_ _));exact BK331.out) hb);have n2_:=Aside0.mk (below_step (by repeat (first | (with_reducible first | exact HB.out | apply below_alloc | apply pw_below_drewN | apply below_drew1 | refine below_set ?_ GE330.out | refine below_set ?_ GE331.out) | exact HB.out)) hb);clear BK330;clear BK331;clear HB;have BK330:=n0_;have BK331:=n1_;have HB:=n2_;clear n0_ n1_ n2_;(try clear hb);(try clear hb2);(try clear hk);(try clear hi)))
   go_ret
   exact ⟨by first | rfl | (simp [errW_none,errW_some] <;> rfl) | (simp [*,errW_none,errW_some] <;> rfl),by repeat (first | (with_reducible first | exact HB.out | apply below_alloc | apply pw_below_drewN | apply below_drew1 | refine below_set ?_ GE330.out | refine below_set ?_ GE331.out) | exact HB.out)⟩
  ·rw [if_neg c11] at H
   have c11b0:decide (t333 < 0) = false:=decide_eq_false c11
   clear c11
   replace H:=Option.bind_eq_some_iff.mp H
   obtain ⟨⟨t334,t335,t336⟩,A190,H⟩:=H
   replace H:((laws_toSeal.f k a1_0 a1_1 l1_2).bind fun bt339=>((spec_SealUnder.f k t334 t335 t336 bt339.1 bt339.2.1 bt339.2.2).bind fun t344=>((laws_toSeal.f k a0_0 a0_1 l0_2).bind fun bt345=>((laws_toSeal.f k a1_0 a1_1 l1_2).bind fun bt351=>((impl_SealUnder.f k bt345.1 bt345.2.1 bt345.2.2 bt351.1 bt351.2.1 bt351.2.2).bind fun t357=>(if (t357 != t344) = true then (some false) else ((laws_toSeal.f k a0_0 a0_1 l0_2).bind fun bt358=>((laws_eqSeal.f k bt345.1 bt345.2.1 bt345.2.2 bt358.1 bt358.2.1 bt358.2.2).bind fun t363=>(if t363 = true then ((laws_toSeal.f k a1_0 a1_1 l1_2).bind fun bt364=>((laws_eqSeal.f k bt351.1 bt351.2.1 bt351.2.2 bt364.1 bt364.2.1 bt364.2.2).bind fun t369=>(if t369 = true then (some true) else (some false)))) else (some false)))))))))) = some r:=H
   have A19:=Aside0.mk A190
   clear A190
   replace H:=Option.bind_eq_some_iff.mp H
   obtain ⟨⟨t339,t340,t341⟩,A200,H⟩:=H
   replace H:((spec_SealUnder.f k t334 t335 t336 t339 t340 t341).bind fun t344=>((laws_toSeal.f k a0_0 a0_1 l0_2).bind fun bt345=>((laws_toSeal.f k a1_0 a1_1 l1_2).bind fun bt351=>((impl_SealUnder.f k bt345.1 bt345.2.1 bt345.2.2 bt351.1 bt351.2.1 bt351.2.2).bind fun t357=>(if (t357 != t344) = true then (some false) else ((laws_toSeal.f k a0_0 a0_1 l0_2).bind fun bt358=>((laws_eqSeal.f k bt345.1 bt345.2.1 bt345.2.2 bt358.1 bt358.2.1 bt358.2.2).bind fun t363=>(if t363 = true then ((laws_toSeal.f k a1_0 a1_1 l1_2).bind fun bt364=>((laws_eqSeal.f k bt351.1 bt351.2.1 bt351.2.2 bt364.1 bt364.2.1 bt364.2.2).bind fun t369=>(if t369 = true then (some true) else (some false)))) else (some false))))))))) = some r:=H
   have A20:=Aside0.mk A200
   clear A200
   replace H:=Option.bind_eq_some_iff.mp H
   obtain ⟨t344,A210,H⟩:=H
   replace H:((laws_toSeal.f k a0_0 a0_1 l0_2).bind fun bt345=>((laws_toSeal.f k a1_0 a1_1 l1_2).bind fun bt351=>((impl_SealUnder.f k bt345.1 bt345.2.1 bt345.2.2 bt351.1 bt351.2.1 bt351.2.2).bind fun t357=>(if (t357 != t344) = true then (some false) else ((laws_toSeal.f k a0_0 a0_1 l0_2).bind fun bt358=>((laws_eqSeal.f k bt345.1 bt345.2.1 bt345.2.2 bt358.1 bt358.2.1 bt358.2.2).bind fun t363=>(if t363 = true then ((laws_toSeal.f k a1_0 a1_1 l1_2).bind fun bt364=>((laws_eqSeal.f k bt351.1 bt351.2.1 bt351.2.2 bt364.1 bt364.2.1 bt364.2.2).bind fun t369=>(if t369 = true then (some true) else (some false)))) else (some false)))))))) = some r:=H
   have A21:=Aside0.mk A210
   clear A210
   replace H:=Option.bind_eq_some_iff.mp H
   obtain ⟨⟨t345,t346,t347⟩,A220,H⟩:=H
   replace H:((laws_toSeal.f k a1_0 a1_1 l1_2).bind fun bt351=>((impl_SealUnder.f k t345 t346 t347 bt351.1 bt351.2.1 bt351.2.2).bind fun t357=>(if (t357 != t344) = true then (some false) else ((laws_toSeal.f k a0_0 a0_1 l0_2).bind fun bt358=>((laws_eqSeal.f k t345 t346 t347 bt358.1 bt358.2.1 bt358.2.2).bind fun t363=>(if t363 = true then ((laws_toSeal.f k a1_0 a1_1 l1_2).bind fun bt364=>((laws_eqSeal.f k bt351.1 bt351.2.1 bt351.2.2 bt364.1 bt364.2.1 bt364.2.2).bind fun t369=>(if t369 = true then (some true) else (some false)))) else (some false))))))) = some r:=H
   have A22:=Aside0.mk A220
   clear A220
   replace H:=Option.bind_eq_some_iff.mp H
   obtain ⟨⟨t351,t352,t353⟩,A230,H⟩:=H
   replace H:((impl_SealUnder.f k t345 t346 t347 t351 t352 t353).bind fun t357=>(if (t357 != t344) = true then (some false) else ((laws_toSeal.f k a0_0 a0_1 l0_2).bind fun bt358=>((laws_eqSeal.f k t345 t346 t347 bt358.1 bt358.2.1 bt358.2.2).bind fun t363=>(if t363 = true then ((laws_toSeal.f k a1_0 a1_1 l1_2).bind fun bt364=>((laws_eqSeal.f k t351 t352 t353 bt364.1 bt364.2.1 bt364.2.2).bind fun t369=>(if t369 = true then (some true) else (some false)))) else (some false)))))) = some r:=H
   have A23:=Aside0.mk A230
   clear A230
   replace H:=Option.bind_eq_some_iff.mp H
   obtain ⟨t357,A240,H⟩:=H
   replace H:(if (t357 != t344) = true then (some false) else ((laws_toSeal.f k a0_0 a0_1 l0_2).bind fun bt358=>((laws_eqSeal.f k t345 t346 t347 bt358.1 bt358.2.1 bt358.2.2).bind fun t363=>(if t363 = true then ((laws_toSeal.f k a1_0 a1_1 l1_2).bind fun bt364=>((laws_eqSeal.f k t351 t352 t353 bt364.1 bt364.2.1 bt364.2.2).bind fun t369=>(if t369 = true then (some true) else (some false)))) else (some false))))) = some r:=H
   have A24:=Aside0.mk A240
   clear A240
   by_cases c25:(t357 != t344) = true
   ·rw [if_pos c25] at H
    have c25b0:(t357 != t344) = true:=c25
    (try (have c25b1:decide (t357 = t344) = false:=by simpa using c25))
    (try (have c25b2:(t357 == t344) = false:=by simpa using c25))
    (try (have c25b3:¬ (t357 = t344):=by simpa using c25))
    clear c25
    obtain rfl:=Option.some.inj H
    go_enter Tryd.func6,Tryd.ntmps6
    try go_wp2_with (first | ((with_reducible refine gate_dst (N:=2) rfl ?_);refine box_event ?hg (N:=2) ?hd (cs:=#[.int .i64 a0_0,.int .i64 a0_1,.slice A0_2 l0_2.length c0_2]) (t:=33) ?hr ?_;(case hd=>rfl);(case hg=>rfl);(case hr=>first | (go_simp;done) | (go_simp;rfl));intro gb330 hg w26 hbox hb;have n0_:=Aside0.mk (below_step (by repeat (first | (with_reducible first | exact HB.out | apply below_alloc | apply pw_below_drewN | apply below_drew1) | exact HB.out)) hb);have n1_:=Aside0.mk (hbox);have n2_:=Aside0.mk ((by rw [hg];exact (below_size (by repeat (first | (with_reducible first | exact HB.out | apply below_alloc | apply pw_below_drewN | apply below_drew1) | exact HB.out))):w.heap.size ≤ gb330));have n3_:=Aside0.mk ((by rw [hg];exact (below_size (by repeat (first | (with_reducible first | exact HB.out | apply below_alloc | apply pw_below_drewN | apply below_drew1) | exact HB.out))):w.heap.size ≤ gb330));clear HB;have HB:=n0_;have BK330:=n1_;have GW330:=n2_;have GE330:=n3_;clear n0_ n1_ n2_ n3_;clear hb hbox hg) | ((with_reducible refine gate_dst (N:=3) rfl ?_);refine box_event ?hg (N:=3) ?hd (cs:=#[.int .i64 a1_0,.int .i64 a1_1,.slice A1_2 l1_2.length c1_2]) (t:=33) ?hr ?_;(case hd=>rfl);(case hg=>rfl);(case hr=>first | (go_simp;done) | (go_simp;rfl));intro gb331 hg w27 hbox hb;have n0_:=Aside0.mk (blk_below (g:=gb330) (o:=.cells #[.int .i64 a0_0,.int .i64 a0_1,.slice A0_2 l0_2.length c0_2] 33 (0,0)) (by (with_reducible repeat (first | refine blk_drewN ?_ _ | refine blk_drew ?_ | refine blk_alloc ?_ _));exact BK330.out) hb);have n1_:=Aside0.mk (below_step (by repeat (first | (with_reducible first | exact HB.out | apply below_alloc | apply pw_below_drewN | apply below_drew1 | refine below_set ?_ GE330.out) | exact HB.out)) hb);have n2_:=Aside0.mk (hbox);have n3_:=Aside0.mk ((by rw [hg];exact (below_size (by repeat (first | (with_reducible first | exact HB.out | apply below_alloc | apply pw_below_drewN | apply below_drew1 | refine below_set ?_ GE330.out) | exact HB.out))):w.heap.size ≤ gb331));have n4_:=Aside0.mk ((by rw [hg];exact (below_size (by repeat (first | (with_reducible first | exact HB.out | apply below_alloc | apply pw_below_drewN | apply below_drew1 | refine below_set ?_ GE330.out) | exact HB.out))):w.heap.size ≤ gb331));have n5_:=Aside0.mk ((by rw [hg];exact Nat.ne_of_lt (blk_lt (g:=gb330) (o:=.cells #[.int .i64 a0_0,.int .i64 a0_1,.slice A0_2 l0_2.length c0_2] 33 (0,0)) (by (with_reducible repeat (first | refine blk_drewN ?_ _ | refine blk_drew ?_ | refine blk_alloc ?_ _));exact BK330.out)):gb330 ≠ gb331));have n6_:=Aside0.mk ((by rw [hg];exact Nat.ne_of_gt (blk_lt (g:=gb330) (o:=.cells #[.int .i64 a0_0,.int .i64 a0_1,.slice A0_2 l0_2.length c0_2] 33 (0,0)) (by (with_reducible repeat (first | refine blk_drewN ?_ _ | refine blk_drew ?_ | refine blk_alloc ?_ _));exact BK330.out)):gb331 ≠ gb330));clear BK330;clear HB;have BK330:=n0_;have HB:=n1_;have BK331:=n2_;have GW331:=n3_;have GE331:=n4_;have NB330_331:=n5_;have NB331_330:=n6_;clear n0_ n1_ n2_ n3_ n4_ n5_ n6_;clear hb hbox hg;have hnb28:=NB330_331.out;have hnc28:=NB331_330.out;have hcz29_0:w27.cell? ⟨gb330,0,none⟩ = some (.int .i64 a0_0):=(blk_cell BK330.out 0).trans rfl;have hcz29_1:w27.cell? ⟨gb330,1,none⟩ = some (.int .i64 a0_1):=(blk_cell BK330.out 1).trans rfl;have hcz29_2:w27.cell? ⟨gb330,2,none⟩ = some (.slice A0_2 l0_2.length c0_2):=(blk_cell BK330.out 2).trans rfl;have hfz29_0:=blk_frozen BK330.out 0;have hfz29_1:=blk_frozen BK330.out 1;have hfz29_2:=blk_frozen BK330.out 2) | ((with_reducible refine gate_callee (f:=20) rfl ?_);refine goesL_ (some 12) rfl rfl Tryd.func20 (by kernel_rfl) rfl #[.agg #[.int .i64 a0_0,.int .i64 a0_1,.slice A0_2 l0_2.length c0_2],.int .i64 1048576] rfl (by (try simp only [List.map_toArray,List.map_cons,List.map_nil]);first | done | rfl | (simp only [List.length_drop,List.length_take];rfl)) ?_;(with_reducible refine (laws_szSeal.calls k a0_0 a0_1 _ _ l0_2 1048576 t332 _ ?side1 ?side2 A3.out).mono ?_);(case side1=>repeat (first | exact (Kd.C_below HR0_2.out HB.out) | (with_reducible refine Kd.C_alloc ?_ _) | (with_reducible refine Kd.C_drewN ?_ _) | (with_reducible refine Kd.C_drew ?_)));(case side2=>exact HC0_2.out);rintro e w30 ⟨rfl,hb⟩;refine ⟨_,rfl,?_⟩;have n0_:=Aside0.mk (blk_below (g:=gb330) (o:=.cells #[.int .i64 a0_0,.int .i64 a0_1,.slice A0_2 l0_2.length c0_2] 33 (0,0)) (by (with_reducible repeat (first | refine blk_drewN ?_ _ | refine blk_drew ?_ | refine blk_alloc ?_ _));exact BK330.out) hb);have n1_:=Aside0.mk (blk_below (g:=gb331) (o:=.cells #[.int .i64 a1_0,.int .i64 a1_1,.slice A1_2 l1_2.length c1_2] 33 (0,0)) (by (with_reducible repeat (first | refine blk_drewN ?_ _ | refine blk_drew ?_ | refine blk_alloc ?_ _));exact BK331.out) hb);have n2_:=Aside0.mk (below_step (by repeat (first | (with_reducible first | exact HB.out | apply below_alloc | apply pw_below_drewN | apply below_drew1 | refine below_set ?_ GE330.out | refine below_set ?_ GE331.out) | exact HB.out)) hb);clear BK330;clear BK331;clear HB;have BK330:=n0_;have BK331:=n1_;have HB:=n2_;clear n0_ n1_ n2_;(try clear hb);(try clear hb2);(try clear hk);(try clear hi);have hcz31_0:w30.cell? ⟨gb331,0,none⟩ = some (.int .i64 a1_0):=(blk_cell BK331.out 0).trans rfl;have hcz31_1:w30.cell? ⟨gb331,1,none⟩ = some (.int .i64 a1_1):=(blk_cell BK331.out 1).trans rfl;have hcz31_2:w30.cell? ⟨gb331,2,none⟩ = some (.slice A1_2 l1_2.length c1_2):=(blk_cell BK331.out 2).trans rfl;have hfz31_0:=blk_frozen BK331.out 0;have hfz31_1:=blk_frozen BK331.out 1;have hfz31_2:=blk_frozen BK331.out 2) | ((with_reducible refine gate_callee (f:=20) rfl ?_);refine goesL_ (some 17) rfl rfl Tryd.func20 (by kernel_rfl) rfl #[.agg #[.int .i64 a1_0,.int .i64 a1_1,.slice A1_2 l1_2.length c1_2],.int .i64 t332] rfl (by (try simp only [List.map_toArray,List.map_cons,List.map_nil]);first | done | rfl | (simp only [List.length_drop,List.length_take];rfl)) ?_;(with_reducible refine (laws_szSeal.calls k a1_0 a1_1 _ _ l1_2 t332 t333 _ ?side1 ?side2 A10.out).mono ?_);(case side1=>repeat (first | exact (Kd.C_below HR1_2.out HB.out) | (with_reducible refine Kd.C_alloc ?_ _) | (with_reducible refine Kd.C_drewN ?_ _) | (with_reducible refine Kd.C_drew ?_)));(case side2=>exact HC1_2.out);rintro e w32 ⟨rfl,hb⟩;refine ⟨_,rfl,?_⟩;have n0_:=Aside0.mk (blk_below (g:=gb330) (o:=.cells #[.int .i64 a0_0,.int .i64 a0_1,.slice A0_2 l0_2.length c0_2] 33 (0,0)) (by (with_reducible repeat (first | refine blk_drewN ?_ _ | refine blk_drew ?_ | refine blk_alloc ?_ _));exact BK330.out) hb);have n1_:=Aside0.mk (blk_below (g:=gb331) (o:=.cells #[.int .i64 a1_0,.int .i64 a1_1,.slice A1_2 l1_2.length c1_2] 33 (0,0)) (by (with_reducible repeat (first | refine blk_drewN ?_ _ | refine blk_drew ?_ | refine blk_alloc ?_ _));exact BK331.out) hb);have n2_:=Aside0.mk (below_step (by repeat (first | (with_reducible first | exact HB.out | apply below_alloc | apply pw_below_drewN | apply below_drew1 | refine below_set ?_ GE330.out | refine below_set ?_ GE331.out) | exact HB.out)) hb);clear BK330;clear BK331;clear HB;have BK330:=n0_;have BK331:=n1_;have HB:=n2_;clear n0_ n1_ n2_;(try clear hb);(try clear hb2);(try clear hk);(try clear hi)))
    have n0_:=Aside0.mk (blk_drew BK330.out)
    have n1_:=Aside0.mk (blk_drew BK331.out)
    have n2_:=Aside0.mk (below_drew1 HB.out)
    clear BK330
    clear BK331
    clear HB
    have BK330:=n0_
    have BK331:=n1_
    have HB:=n2_
    clear n0_ n1_ n2_
    refine start_ (n:=6) (S:=fun w'=>w'.cell? ⟨gb330,0,none⟩ = some (.int .i64 a0_0)∧w'.cell? ⟨gb330,1,none⟩ = some (.int .i64 a0_1)∧w'.cell? ⟨gb330,2,none⟩ = some (.slice A0_2 l0_2.length c0_2)∧w'.cell? ⟨gb331,0,none⟩ = some (.int .i64 a1_0)∧w'.cell? ⟨gb331,1,none⟩ = some (.int .i64 a1_1)∧w'.cell? ⟨gb331,2,none⟩ = some (.slice A1_2 l1_2.length c1_2)) (ds:=[]) #[false,false,false,false,false,false] (by kernel_rfl) rfl rfl ⟨(blk_cell BK330.out 0).trans rfl,(blk_cell BK330.out 1).trans rfl,(blk_cell BK330.out 2).trans rfl,(blk_cell BK331.out 0).trans rfl,(blk_cell BK331.out 1).trans rfl,(blk_cell BK331.out 2).trans rfl⟩ (fun hHeld=>?_)
    generalize w32.drew = w33 at BK330 BK331 HB hHeld ⊢
    refine take_ (i:=0) (N:=some 20) (v:=?_) (a':=?_) #[true,false,false,false,false,false] rfl rfl (by kernel_rfl) (fun _ _ _ h=>h) (Or.inl ⟨by rfl,?_⟩) hHeld ?_ ?_
    rotate_left;·rintro w' ⟨s0,s1,s2,s3,s4,s5⟩;go_simp;with_reducible rfl
    rotate_left;·simp only [Act.put,List.setIfInBounds_toArray,List.set_cons_zero,List.set_cons_succ,i64_w,i32_w];rfl
    refine take_ (i:=2) (N:=some 22) (v:=?_) (a':=?_) #[true,false,true,false,false,false] rfl rfl (by kernel_rfl) (fun _ _ _ h=>h) (Or.inl ⟨by rfl,?_⟩) hHeld ?_ ?_
    rotate_left;·rintro w' ⟨s0,s1,s2,s3,s4,s5⟩;go_simp;with_reducible rfl
    rotate_left;·simp only [Act.put,List.setIfInBounds_toArray,List.set_cons_zero,List.set_cons_succ,i64_w,i32_w];rfl
    refine one_ (i:=1) (N:=some 21) #[true,true,true,false,false,false] rfl rfl (by kernel_rfl) (by decide) (fun K hK=>?_)
    refine goes_ Tryd.func21 (by kernel_rfl) rfl #[.agg #[.int .i64 a0_0,.int .i64 a0_1,.slice A0_2 l0_2.length c0_2]] (by rfl) rfl rfl (by (try simp only [List.map_toArray,List.map_cons,List.map_nil]);first | done | rfl | (simp only [List.length_drop,List.length_take];rfl)) ?_
    with_reducible refine (laws_toSeal.calls k a0_0 a0_1 _ _ l0_2 t334 t335 t336 _ ?side1 ?side2 A19.out).mono ?_
    (case side1=>repeat (first | exact (Kd.C_below HR0_2.out HB.out) | (with_reducible refine Kd.C_alloc ?_ _) | (with_reducible refine Kd.C_drewN ?_ _) | (with_reducible refine Kd.C_drew ?_)))
    (case side2=>exact HC0_2.out)
    rintro e w34 ⟨v337,rfl,ho0,hb⟩
    refine ⟨_,rfl,?_⟩
    have n0_:=Aside0.mk (Kd.R_lower ho0 (below_size (by repeat (first | (with_reducible first | exact HB.out | apply below_alloc | apply pw_below_drewN | apply below_drew1 | refine below_set ?_ GE330.out | refine below_set ?_ GE331.out) | exact HB.out))))
    have n1_:=Aside0.mk (blk_below (g:=gb330) (o:=.cells #[.int .i64 a0_0,.int .i64 a0_1,.slice A0_2 l0_2.length c0_2] 33 (0,0)) (by (with_reducible repeat (first | refine blk_drewN ?_ _ | refine blk_drew ?_ | refine blk_alloc ?_ _));exact BK330.out) hb)
    have n2_:=Aside0.mk (blk_below (g:=gb331) (o:=.cells #[.int .i64 a1_0,.int .i64 a1_1,.slice A1_2 l1_2.length c1_2] 33 (0,0)) (by (with_reducible repeat (first | refine blk_drewN ?_ _ | refine blk_drew ?_ | refine blk_alloc ?_ _));exact BK331.out) hb)
    have n3_:=Aside0.mk (below_step (by repeat (first | (with_reducible first | exact HB.out | apply below_alloc | apply pw_below_drewN | apply below_drew1 | refine below_set ?_ GE330.out | refine below_set ?_ GE331.out) | exact HB.out)) hb)
    clear BK330
    clear BK331
    clear HB
    have HO338:=n0_
    have BK330:=n1_
    have BK331:=n2_
    have HB:=n3_
    clear n0_ n1_ n2_ n3_
    (try clear hb)
    (try clear hb2)
    (try clear hk)
    (try clear hi)
    (try clear ho0)
    refine hK.out _ _ ⟨(blk_cell BK330.out 0).trans rfl,(blk_cell BK330.out 1).trans rfl,(blk_cell BK330.out 2).trans rfl,(blk_cell BK331.out 0).trans rfl,(blk_cell BK331.out 1).trans rfl,(blk_cell BK331.out 2).trans rfl⟩ (fun hHeld=>?_)
    clear hK K
    refine norm_ (a':=?_) ?_ ?_
    rotate_left
    ·show Act.put _ (some 21) _ = _
     simp only [Act.put,List.setIfInBounds_toArray,List.set_cons_zero,List.set_cons_succ,i64_w,i32_w]
     rfl
    refine one_ (i:=3) (N:=some 23) #[true,true,true,true,false,false] rfl rfl (by kernel_rfl) (by decide) (fun K hK=>?_)
    refine goes_ Tryd.func21 (by kernel_rfl) rfl #[.agg #[.int .i64 a1_0,.int .i64 a1_1,.slice A1_2 l1_2.length c1_2]] (by rfl) rfl rfl (by (try simp only [List.map_toArray,List.map_cons,List.map_nil]);first | done | rfl | (simp only [List.length_drop,List.length_take];rfl)) ?_
    with_reducible refine (laws_toSeal.calls k a1_0 a1_1 _ _ l1_2 t339 t340 t341 _ ?side1 ?side2 A20.out).mono ?_
    (case side1=>repeat (first | exact (Kd.C_below HR1_2.out HB.out) | (with_reducible refine Kd.C_alloc ?_ _) | (with_reducible refine Kd.C_drewN ?_ _) | (with_reducible refine Kd.C_drew ?_)))
    (case side2=>exact HC1_2.out)
    rintro e w35 ⟨v342,rfl,ho0,hb⟩
    refine ⟨_,rfl,?_⟩
    have n0_:=Aside0.mk (Kd.R_elder' (by (with_reducible repeat (first | apply Kd.R_alloc | apply Kd.R_drewN | apply Kd.R_drew));exact HO338.out) (Kd.R_base ho0) hb)
    have n1_:=Aside0.mk (Kd.R_lower (Kd.R_new' ho0 (Kd.R_lt (by (with_reducible repeat (first | apply Kd.R_alloc | apply Kd.R_drewN | apply Kd.R_drew));exact HO338.out))) (below_size (by repeat (first | (with_reducible first | exact HB.out | apply below_alloc | apply pw_below_drewN | apply below_drew1 | refine below_set ?_ GE330.out | refine below_set ?_ GE331.out) | exact HB.out))))
    have n2_:=Aside0.mk (blk_below (g:=gb330) (o:=.cells #[.int .i64 a0_0,.int .i64 a0_1,.slice A0_2 l0_2.length c0_2] 33 (0,0)) (by (with_reducible repeat (first | refine blk_drewN ?_ _ | refine blk_drew ?_ | refine blk_alloc ?_ _));exact BK330.out) hb)
    have n3_:=Aside0.mk (blk_below (g:=gb331) (o:=.cells #[.int .i64 a1_0,.int .i64 a1_1,.slice A1_2 l1_2.length c1_2] 33 (0,0)) (by (with_reducible repeat (first | refine blk_drewN ?_ _ | refine blk_drew ?_ | refine blk_alloc ?_ _));exact BK331.out) hb)
    have n4_:=Aside0.mk (below_step (by repeat (first | (with_reducible first | exact HB.out | apply below_alloc | apply pw_below_drewN | apply below_drew1 | refine below_set ?_ GE330.out | refine below_set ?_ GE331.out) | exact HB.out)) hb)
    clear HO338
    clear BK330
    clear BK331
    clear HB
    have HO338:=n0_
    have HO343:=n1_
    have BK330:=n2_
    have BK331:=n3_
    have HB:=n4_
    clear n0_ n1_ n2_ n3_ n4_
    (try clear hb)
    (try clear hb2)
    (try clear hk)
    (try clear hi)
    (try clear ho0)
    obtain ⟨Ao36,co36,eo36⟩:=Kd.R_slice HO338.out
    (first | subst eo36 | (injection eo36 with f1_ f2_ f3_;have f4_:=f1_.symm;have f5_:=f3_.symm;clear f1_ f2_ f3_;subst f4_;subst f5_))
    obtain ⟨Ao37,co37,eo37⟩:=Kd.R_slice HO343.out
    (first | subst eo37 | (injection eo37 with f1_ f2_ f3_;have f4_:=f1_.symm;have f5_:=f3_.symm;clear f1_ f2_ f3_;subst f4_;subst f5_))
    refine hK.out _ _ ⟨(blk_cell BK330.out 0).trans rfl,(blk_cell BK330.out 1).trans rfl,(blk_cell BK330.out 2).trans rfl,(blk_cell BK331.out 0).trans rfl,(blk_cell BK331.out 1).trans rfl,(blk_cell BK331.out 2).trans rfl⟩ (fun hHeld=>?_)
    clear hK K
    refine norm_ (a':=?_) ?_ ?_
    rotate_left
    ·show Act.put _ (some 23) _ = _
     simp only [Act.put,List.setIfInBounds_toArray,List.set_cons_zero,List.set_cons_succ,i64_w,i32_w]
     rfl
    refine one_ (i:=4) (N:=some 24) #[true,true,true,true,true,false] rfl rfl (by kernel_rfl) (by decide) (fun K hK=>?_)
    refine goes_ Tryd.func23 (by kernel_rfl) rfl #[.agg #[.int .i64 t334,.int .i64 t335,.slice Ao36 t336.length co36],.agg #[.int .i64 t339,.int .i64 t340,.slice Ao37 t341.length co37]] (by rfl) rfl rfl (by (try simp only [List.map_toArray,List.map_cons,List.map_nil]);first | done | rfl | (simp only [List.length_drop,List.length_take];rfl)) ?_
    with_reducible refine (spec_SealUnder.calls k t334 t335 _ _ t336 t339 t340 _ _ t341 t344 _ ?side1 ?side2 ?side3 ?side4 A21.out).mono ?_
    (case side1=>repeat (first | exact (Kd.R_reads' HO338.out).2.2 | (with_reducible refine Kd.C_alloc ?_ _) | (with_reducible refine Kd.C_drewN ?_ _) | (with_reducible refine Kd.C_drew ?_)))
    (case side2=>exact (Kd.R_reads' HO338.out).2.1)
    (case side3=>repeat (first | exact (Kd.R_reads' HO343.out).2.2 | (with_reducible refine Kd.C_alloc ?_ _) | (with_reducible refine Kd.C_drewN ?_ _) | (with_reducible refine Kd.C_drew ?_)))
    (case side4=>exact (Kd.R_reads' HO343.out).2.1)
    rintro e w38 ⟨rfl,hb⟩
    refine ⟨_,rfl,?_⟩
    have n0_:=Aside0.mk (Kd.R_below (by (with_reducible repeat (first | apply Kd.R_alloc | apply Kd.R_drewN | apply Kd.R_drew));exact HO338.out) hb)
    have n1_:=Aside0.mk (Kd.R_below (by (with_reducible repeat (first | apply Kd.R_alloc | apply Kd.R_drewN | apply Kd.R_drew));exact HO343.out) hb)
    have n2_:=Aside0.mk (blk_below (g:=gb330) (o:=.cells #[.int .i64 a0_0,.int .i64 a0_1,.slice A0_2 l0_2.length c0_2] 33 (0,0)) (by (with_reducible repeat (first | refine blk_drewN ?_ _ | refine blk_drew ?_ | refine blk_alloc ?_ _));exact BK330.out) hb)
    have n3_:=Aside0.mk (blk_below (g:=gb331) (o:=.cells #[.int .i64 a1_0,.int .i64 a1_1,.slice A1_2 l1_2.length c1_2] 33 (0,0)) (by (with_reducible repeat (first | refine blk_drewN ?_ _ | refine blk_drew ?_ | refine blk_alloc ?_ _));exact BK331.out) hb)
    have n4_:=Aside0.mk (below_step (by repeat (first | (with_reducible first | exact HB.out | apply below_alloc | apply pw_below_drewN | apply below_drew1 | refine below_set ?_ GE330.out | refine below_set ?_ GE331.out) | exact HB.out)) hb)
    clear HO338
    clear HO343
    clear BK330
    clear BK331
    clear HB
    have HO338:=n0_
    have HO343:=n1_
    have BK330:=n2_
    have BK331:=n3_
    have HB:=n4_
    clear n0_ n1_ n2_ n3_ n4_
    (try clear hb)
    (try clear hb2)
    (try clear hk)
    (try clear hi)
    refine hK.out _ _ ⟨(blk_cell BK330.out 0).trans rfl,(blk_cell BK330.out 1).trans rfl,(blk_cell BK330.out 2).trans rfl,(blk_cell BK331.out 0).trans rfl,(blk_cell BK331.out 1).trans rfl,(blk_cell BK331.out 2).trans rfl⟩ (fun hHeld=>?_)
    clear hK K
    refine norm_ (a':=?_) ?_ ?_
    rotate_left
    ·show Act.put _ (some 24) _ = _
     simp only [Act.put,List.setIfInBounds_toArray,List.set_cons_zero,List.set_cons_succ,i64_w,i32_w]
     rfl
    refine pure_ (i:=5) (N:=some 6) (v:=?_) (a':=?_) #[true,true,true,true,true,true] rfl rfl (by kernel_rfl) (fun _ _ _ h=>h) (Or.inl ⟨by rfl,?_⟩) ?_ ?_
    rotate_left;·intro w';go_simp;with_reducible rfl
    rotate_left;·simp only [Act.put,List.setIfInBounds_toArray,List.set_cons_zero,List.set_cons_succ,i64_w,i32_w];rfl
    refine done_ (by kernel_rfl) ?_
    have hcz39_0:w38.cell? ⟨gb330,0,none⟩ = some (.int .i64 a0_0):=(blk_cell BK330.out 0).trans rfl
    have hcz39_1:w38.cell? ⟨gb330,1,none⟩ = some (.int .i64 a0_1):=(blk_cell BK330.out 1).trans rfl
    have hcz39_2:w38.cell? ⟨gb330,2,none⟩ = some (.slice A0_2 l0_2.length c0_2):=(blk_cell BK330.out 2).trans rfl
    have hfz39_0:=blk_frozen BK330.out 0
    have hfz39_1:=blk_frozen BK330.out 1
    have hfz39_2:=blk_frozen BK330.out 2
    try go_wp2_with (first | ((with_reducible refine gate_callee (f:=21) rfl ?_);refine goesL_ (some 26) rfl rfl Tryd.func21 (by kernel_rfl) rfl #[.agg #[.int .i64 a0_0,.int .i64 a0_1,.slice A0_2 l0_2.length c0_2]] rfl (by (try simp only [List.map_toArray,List.map_cons,List.map_nil]);first | done | rfl | (simp only [List.length_drop,List.length_take];rfl)) ?_;(with_reducible refine (laws_toSeal.calls k a0_0 a0_1 _ _ l0_2 t345 t346 t347 _ ?side1 ?side2 A22.out).mono ?_);(case side1=>repeat (first | exact (Kd.C_below HR0_2.out HB.out) | (with_reducible refine Kd.C_alloc ?_ _) | (with_reducible refine Kd.C_drewN ?_ _) | (with_reducible refine Kd.C_drew ?_)));(case side2=>exact HC0_2.out);rintro e w40 ⟨v348,rfl,ho0,hb⟩;refine ⟨_,rfl,?_⟩;have n0_:=Aside0.mk (Kd.R_elder' (by (with_reducible repeat (first | apply Kd.R_alloc | apply Kd.R_drewN | apply Kd.R_drew));exact HO338.out) (Kd.R_base ho0) hb);have n1_:=Aside0.mk (Kd.R_elder' (by (with_reducible repeat (first | apply Kd.R_alloc | apply Kd.R_drewN | apply Kd.R_drew));exact HO343.out) (Kd.R_base ho0) hb);have n2_:=Aside0.mk (Kd.R_lower (Kd.R_new' (Kd.R_new' ho0 (Kd.R_lt (by (with_reducible repeat (first | apply Kd.R_alloc | apply Kd.R_drewN | apply Kd.R_drew));exact HO338.out))) (Kd.R_lt (by (with_reducible repeat (first | apply Kd.R_alloc | apply Kd.R_drewN | apply Kd.R_drew));exact HO343.out))) (below_size (by repeat (first | (with_reducible first | exact HB.out | apply below_alloc | apply pw_below_drewN | apply below_drew1 | refine below_set ?_ GE330.out | refine below_set ?_ GE331.out) | exact HB.out))));have n3_:=Aside0.mk (blk_below (g:=gb330) (o:=.cells #[.int .i64 a0_0,.int .i64 a0_1,.slice A0_2 l0_2.length c0_2] 33 (0,0)) (by (with_reducible repeat (first | refine blk_drewN ?_ _ | refine blk_drew ?_ | refine blk_alloc ?_ _));exact BK330.out) hb);have n4_:=Aside0.mk (blk_below (g:=gb331) (o:=.cells #[.int .i64 a1_0,.int .i64 a1_1,.slice A1_2 l1_2.length c1_2] 33 (0,0)) (by (with_reducible repeat (first | refine blk_drewN ?_ _ | refine blk_drew ?_ | refine blk_alloc ?_ _));exact BK331.out) hb);have n5_:=Aside0.mk (below_step (by repeat (first | (with_reducible first | exact HB.out | apply below_alloc | apply pw_below_drewN | apply below_drew1 | refine below_set ?_ GE330.out | refine below_set ?_ GE331.out) | exact HB.out)) hb);clear HO338;clear HO343;clear BK330;clear BK331;clear HB;have HO338:=n0_;have HO343:=n1_;have HO349:=n2_;have BK330:=n3_;have BK331:=n4_;have HB:=n5_;clear n0_ n1_ n2_ n3_ n4_ n5_;(try clear hb);(try clear hb2);(try clear hk);(try clear hi);(try clear ho0)) | ((with_reducible refine gate_dst (N:=7) rfl ?_);refine box_event ?hg (N:=7) ?hd (cs:=#[.int .i64 0,.int .i64 0,.slice none 0 0]) (t:=25) ?hr ?_;(case hd=>rfl);(case hg=>rfl);(case hr=>first | (go_simp;done) | (go_simp;rfl));intro gb350 hg w41 hbox hb;have n0_:=Aside0.mk (Kd.R_below (Kd.R_elderB (by (with_reducible repeat (first | apply Kd.R_alloc | apply Kd.R_drewN | apply Kd.R_drew));exact HO338.out) gb350 (Nat.le_of_eq hg.symm)) hb);have n1_:=Aside0.mk (Kd.R_below (Kd.R_elderB (by (with_reducible repeat (first | apply Kd.R_alloc | apply Kd.R_drewN | apply Kd.R_drew));exact HO343.out) gb350 (Nat.le_of_eq hg.symm)) hb);have n2_:=Aside0.mk (Kd.R_below (Kd.R_elderB (by (with_reducible repeat (first | apply Kd.R_alloc | apply Kd.R_drewN | apply Kd.R_drew));exact HO349.out) gb350 (Nat.le_of_eq hg.symm)) hb);have n3_:=Aside0.mk (blk_below (g:=gb330) (o:=.cells #[.int .i64 a0_0,.int .i64 a0_1,.slice A0_2 l0_2.length c0_2] 33 (0,0)) (by (with_reducible repeat (first | refine blk_drewN ?_ _ | refine blk_drew ?_ | refine blk_alloc ?_ _));exact BK330.out) hb);have n4_:=Aside0.mk (blk_below (g:=gb331) (o:=.cells #[.int .i64 a1_0,.int .i64 a1_1,.slice A1_2 l1_2.length c1_2] 33 (0,0)) (by (with_reducible repeat (first | refine blk_drewN ?_ _ | refine blk_drew ?_ | refine blk_alloc ?_ _));exact BK331.out) hb);have n5_:=Aside0.mk (below_step (by repeat (first | (with_reducible first | exact HB.out | apply below_alloc | apply pw_below_drewN | apply below_drew1 | refine below_set ?_ GE330.out | refine below_set ?_ GE331.out) | exact HB.out)) hb);have n6_:=Aside0.mk (hbox);have n7_:=Aside0.mk ((by rw [hg];exact (below_size (by repeat (first | (with_reducible first | exact HB.out | apply below_alloc | apply pw_below_drewN | apply below_drew1 | refine below_set ?_ GE330.out | refine below_set ?_ GE331.out) | exact HB.out))):w.heap.size ≤ gb350));have n8_:=Aside0.mk ((by rw [hg];exact (below_size (by repeat (first | (with_reducible first | exact HB.out | apply below_alloc | apply pw_below_drewN | apply below_drew1 | refine below_set ?_ GE330.out | refine below_set ?_ GE331.out) | exact HB.out))):w.heap.size ≤ gb350));have n9_:=Aside0.mk ((by rw [hg];exact Nat.ne_of_lt (blk_lt (g:=gb330) (o:=.cells #[.int .i64 a0_0,.int .i64 a0_1,.slice A0_2 l0_2.length c0_2] 33 (0,0)) (by (with_reducible repeat (first | refine blk_drewN ?_ _ | refine blk_drew ?_ | refine blk_alloc ?_ _));exact BK330.out)):gb330 ≠ gb350));have n10_:=Aside0.mk ((by rw [hg];exact Nat.ne_of_gt (blk_lt (g:=gb330) (o:=.cells #[.int .i64 a0_0,.int .i64 a0_1,.slice A0_2 l0_2.length c0_2] 33 (0,0)) (by (with_reducible repeat (first | refine blk_drewN ?_ _ | refine blk_drew ?_ | refine blk_alloc ?_ _));exact BK330.out)):gb350 ≠ gb330));have n11_:=Aside0.mk ((by rw [hg];exact Nat.ne_of_lt (blk_lt (g:=gb331) (o:=.cells #[.int .i64 a1_0,.int .i64 a1_1,.slice A1_2 l1_2.length c1_2] 33 (0,0)) (by (with_reducible repeat (first | refine blk_drewN ?_ _ | refine blk_drew ?_ | refine blk_alloc ?_ _));exact BK331.out)):gb331 ≠ gb350));have n12_:=Aside0.mk ((by rw [hg];exact Nat.ne_of_gt (blk_lt (g:=gb331) (o:=.cells #[.int .i64 a1_0,.int .i64 a1_1,.slice A1_2 l1_2.length c1_2] 33 (0,0)) (by (with_reducible repeat (first | refine blk_drewN ?_ _ | refine blk_drew ?_ | refine blk_alloc ?_ _));exact BK331.out)):gb350 ≠ gb331));clear HO338;clear HO343;clear HO349;clear BK330;clear BK331;clear HB;have HO338:=n0_;have HO343:=n1_;have HO349:=n2_;have BK330:=n3_;have BK331:=n4_;have HB:=n5_;have BK350:=n6_;have GW350:=n7_;have GE350:=n8_;have NB330_350:=n9_;have NB350_330:=n10_;have NB331_350:=n11_;have NB350_331:=n12_;clear n0_ n1_ n2_ n3_ n4_ n5_ n6_ n7_ n8_ n9_ n10_ n11_ n12_;clear hb hbox hg;have hnb42:=NB350_330.out;have hnc42:=NB330_350.out;have hnb43:=NB350_331.out;have hnc43:=NB331_350.out;have hcz44_0:w41.cell? ⟨gb350,0,none⟩ = some (.int .i64 0):=(blk_cell BK350.out 0).trans rfl;have hcz44_1:w41.cell? ⟨gb350,1,none⟩ = some (.int .i64 0):=(blk_cell BK350.out 1).trans rfl;have hcz44_2:w41.cell? ⟨gb350,2,none⟩ = some (.slice none 0 0):=(blk_cell BK350.out 2).trans rfl;have hfz44_0:=blk_frozen BK350.out 0;have hfz44_1:=blk_frozen BK350.out 1;have hfz44_2:=blk_frozen BK350.out 2;obtain ⟨Ao45,co45,eo45⟩:=Kd.R_slice HO349.out;subst eo45;have hcz46_0:w41.cell? ⟨gb331,0,none⟩ = some (.int .i64 a1_0):=(blk_cell BK331.out 0).trans rfl;have hcz46_1:w41.cell? ⟨gb331,1,none⟩ = some (.int .i64 a1_1):=(blk_cell BK331.out 1).trans rfl;have hcz46_2:w41.cell? ⟨gb331,2,none⟩ = some (.slice A1_2 l1_2.length c1_2):=(blk_cell BK331.out 2).trans rfl;have hfz46_0:=blk_frozen BK331.out 0;have hfz46_1:=blk_frozen BK331.out 1;have hfz46_2:=blk_frozen BK331.out 2) | ((with_reducible refine gate_callee (f:=21) rfl ?_);refine goesL_ (some 28) rfl rfl Tryd.func21 (by kernel_rfl) rfl #[.agg #[.int .i64 a1_0,.int .i64 a1_1,.slice A1_2 l1_2.length c1_2]] rfl (by (try simp only [List.map_toArray,List.map_cons,List.map_nil]);first | done | rfl | (simp only [List.length_drop,List.length_take];rfl)) ?_;(with_reducible refine (laws_toSeal.calls k a1_0 a1_1 _ _ l1_2 t351 t352 t353 _ ?side1 ?side2 A23.out).mono ?_);(case side1=>exact Kd.C_below HR1_2.out (by repeat (first | (with_reducible first | exact HB.out | apply below_alloc | apply pw_below_drewN | apply below_drew1 | refine below_set ?_ GE330.out | refine below_set ?_ GE331.out | refine below_set ?_ GE350.out) | exact HB.out)));(case side2=>exact HC1_2.out);rintro e w47 ⟨v354,rfl,ho0,hb⟩;refine ⟨_,rfl,?_⟩;have n0_:=Aside0.mk (Kd.R_elder' (by (with_reducible repeat (first | apply Kd.R_alloc | apply Kd.R_drewN | apply Kd.R_drew));exact (Kd.R_mono (Kd.R_far (p:=⟨gb350,2,none⟩) (Kd.R_far (p:=⟨gb350,1,none⟩) (Kd.R_far (p:=⟨gb350,0,none⟩) (Kd.R_mono HO338.out (fun k_ hk=>(⟨hk,hk.2⟩:_∧k_ ≠ gb350))) (fun _ hk=>hk.2) (.int .i64 t345)) (fun _ hk=>hk.2) (.int .i64 t346)) (fun _ hk=>hk.2) (.slice Ao45 t347.length co45)) (fun _ h_=>h_.1))) (Kd.R_base ho0) hb);have n1_:=Aside0.mk (Kd.R_elder' (by (with_reducible repeat (first | apply Kd.R_alloc | apply Kd.R_drewN | apply Kd.R_drew));exact (Kd.R_mono (Kd.R_far (p:=⟨gb350,2,none⟩) (Kd.R_far (p:=⟨gb350,1,none⟩) (Kd.R_far (p:=⟨gb350,0,none⟩) (Kd.R_mono HO343.out (fun k_ hk=>(⟨hk,hk.2⟩:_∧k_ ≠ gb350))) (fun _ hk=>hk.2) (.int .i64 t345)) (fun _ hk=>hk.2) (.int .i64 t346)) (fun _ hk=>hk.2) (.slice Ao45 t347.length co45)) (fun _ h_=>h_.1))) (Kd.R_base ho0) hb);have n2_:=Aside0.mk (Kd.R_elder' (by (with_reducible repeat (first | apply Kd.R_alloc | apply Kd.R_drewN | apply Kd.R_drew));exact (Kd.R_mono (Kd.R_far (p:=⟨gb350,2,none⟩) (Kd.R_far (p:=⟨gb350,1,none⟩) (Kd.R_far (p:=⟨gb350,0,none⟩) (Kd.R_mono HO349.out (fun k_ hk=>(⟨hk,hk.2⟩:_∧k_ ≠ gb350))) (fun _ hk=>hk.2) (.int .i64 t345)) (fun _ hk=>hk.2) (.int .i64 t346)) (fun _ hk=>hk.2) (.slice Ao45 t347.length co45)) (fun _ h_=>h_.1))) (Kd.R_base ho0) hb);have n3_:=Aside0.mk (Kd.R_lower (Kd.R_newB (Kd.R_new' (Kd.R_new' (Kd.R_new' ho0 (Kd.R_lt (by (with_reducible repeat (first | apply Kd.R_alloc | apply Kd.R_drewN | apply Kd.R_drew));exact (Kd.R_mono (Kd.R_far (p:=⟨gb350,2,none⟩) (Kd.R_far (p:=⟨gb350,1,none⟩) (Kd.R_far (p:=⟨gb350,0,none⟩) (Kd.R_mono HO338.out (fun k_ hk=>(⟨hk,hk.2⟩:_∧k_ ≠ gb350))) (fun _ hk=>hk.2) (.int .i64 t345)) (fun _ hk=>hk.2) (.int .i64 t346)) (fun _ hk=>hk.2) (.slice Ao45 t347.length co45)) (fun _ h_=>h_.1))))) (Kd.R_lt (by (with_reducible repeat (first | apply Kd.R_alloc | apply Kd.R_drewN | apply Kd.R_drew));exact (Kd.R_mono (Kd.R_far (p:=⟨gb350,2,none⟩) (Kd.R_far (p:=⟨gb350,1,none⟩) (Kd.R_far (p:=⟨gb350,0,none⟩) (Kd.R_mono HO343.out (fun k_ hk=>(⟨hk,hk.2⟩:_∧k_ ≠ gb350))) (fun _ hk=>hk.2) (.int .i64 t345)) (fun _ hk=>hk.2) (.int .i64 t346)) (fun _ hk=>hk.2) (.slice Ao45 t347.length co45)) (fun _ h_=>h_.1))))) (Kd.R_lt (by (with_reducible repeat (first | apply Kd.R_alloc | apply Kd.R_drewN | apply Kd.R_drew));exact (Kd.R_mono (Kd.R_far (p:=⟨gb350,2,none⟩) (Kd.R_far (p:=⟨gb350,1,none⟩) (Kd.R_far (p:=⟨gb350,0,none⟩) (Kd.R_mono HO349.out (fun k_ hk=>(⟨hk,hk.2⟩:_∧k_ ≠ gb350))) (fun _ hk=>hk.2) (.int .i64 t345)) (fun _ hk=>hk.2) (.int .i64 t346)) (fun _ hk=>hk.2) (.slice Ao45 t347.length co45)) (fun _ h_=>h_.1))))) (g:=gb350) (o:=.cells #[.int .i64 t345,.int .i64 t346,.slice Ao45 t347.length co45] 25 (0,0)) (by (with_reducible repeat (first | refine blk_drewN ?_ _ | refine blk_drew ?_ | refine blk_alloc ?_ _));refine blk_put (cs:=#[.int .i64 t345,.int .i64 t346,.slice none 0 0]) ?_ 2 _ rfl;(with_reducible repeat (first | refine blk_drewN ?_ _ | refine blk_drew ?_ | refine blk_alloc ?_ _));refine blk_put (cs:=#[.int .i64 t345,.int .i64 0,.slice none 0 0]) ?_ 1 _ rfl;(with_reducible repeat (first | refine blk_drewN ?_ _ | refine blk_drew ?_ | refine blk_alloc ?_ _));refine blk_put (cs:=#[.int .i64 0,.int .i64 0,.slice none 0 0]) ?_ 0 _ rfl;(with_reducible repeat (first | refine blk_drewN ?_ _ | refine blk_drew ?_ | refine blk_alloc ?_ _));exact BK350.out)) (below_size (by repeat (first | (with_reducible first | exact HB.out | apply below_alloc | apply pw_below_drewN | apply below_drew1 | refine below_set ?_ GE330.out | refine below_set ?_ GE331.out | refine below_set ?_ GE350.out) | exact HB.out))));have n4_:=Aside0.mk (blk_below (g:=gb330) (o:=.cells #[.int .i64 a0_0,.int .i64 a0_1,.slice A0_2 l0_2.length c0_2] 33 (0,0)) (by (with_reducible repeat (first | refine blk_drewN ?_ _ | refine blk_drew ?_ | refine blk_alloc ?_ _));refine blk_far ?_ NB330_350.out _;(with_reducible repeat (first | refine blk_drewN ?_ _ | refine blk_drew ?_ | refine blk_alloc ?_ _));refine blk_far ?_ NB330_350.out _;(with_reducible repeat (first | refine blk_drewN ?_ _ | refine blk_drew ?_ | refine blk_alloc ?_ _));refine blk_far ?_ NB330_350.out _;(with_reducible repeat (first | refine blk_drewN ?_ _ | refine blk_drew ?_ | refine blk_alloc ?_ _));exact BK330.out) hb);have n5_:=Aside0.mk (blk_below (g:=gb331) (o:=.cells #[.int .i64 a1_0,.int .i64 a1_1,.slice A1_2 l1_2.length c1_2] 33 (0,0)) (by (with_reducible repeat (first | refine blk_drewN ?_ _ | refine blk_drew ?_ | refine blk_alloc ?_ _));refine blk_far ?_ NB331_350.out _;(with_reducible repeat (first | refine blk_drewN ?_ _ | refine blk_drew ?_ | refine blk_alloc ?_ _));refine blk_far ?_ NB331_350.out _;(with_reducible repeat (first | refine blk_drewN ?_ _ | refine blk_drew ?_ | refine blk_alloc ?_ _));refine blk_far ?_ NB331_350.out _;(with_reducible repeat (first | refine blk_drewN ?_ _ | refine blk_drew ?_ | refine blk_alloc ?_ _));exact BK331.out) hb);have n6_:=Aside0.mk (blk_below (g:=gb350) (o:=.cells #[.int .i64 t345,.int .i64 t346,.slice Ao45 t347.length co45] 25 (0,0)) (by (with_reducible repeat (first | refine blk_drewN ?_ _ | refine blk_drew ?_ | refine blk_alloc ?_ _));refine blk_put (cs:=#[.int .i64 t345,.int .i64 t346,.slice none 0 0]) ?_ 2 _ rfl;(with_reducible repeat (first | refine blk_drewN ?_ _ | refine blk_drew ?_ | refine blk_alloc ?_ _));refine blk_put (cs:=#[.int .i64 t345,.int .i64 0,.slice none 0 0]) ?_ 1 _ rfl;(with_reducible repeat (first | refine blk_drewN ?_ _ | refine blk_drew ?_ | refine blk_alloc ?_ _));refine blk_put (cs:=#[.int .i64 0,.int .i64 0,.slice none 0 0]) ?_ 0 _ rfl;(with_reducible repeat (first | refine blk_drewN ?_ _ | refine blk_drew ?_ | refine blk_alloc ?_ _));exact BK350.out) hb);have n7_:=Aside0.mk (below_step (by repeat (first | (with_reducible first | exact HB.out | apply below_alloc | apply pw_below_drewN | apply below_drew1 | refine below_set ?_ GE330.out | refine below_set ?_ GE331.out | refine below_set ?_ GE350.out) | exact HB.out)) hb);clear HO338;clear HO343;clear HO349;clear BK330;clear BK331;clear BK350;clear HB;have HO338:=n0_;have HO343:=n1_;have HO349:=n2_;have HO355:=n3_;have BK330:=n4_;have BK331:=n5_;have BK350:=n6_;have HB:=n7_;clear n0_ n1_ n2_ n3_ n4_ n5_ n6_ n7_;(try clear hb);(try clear hb2);(try clear hk);(try clear hi);(try clear ho0)) | ((with_reducible refine gate_dst (N:=8) rfl ?_);refine box_event ?hg (N:=8) ?hd (cs:=#[.int .i64 0,.int .i64 0,.slice none 0 0]) (t:=25) ?hr ?_;(case hd=>rfl);(case hg=>rfl);(case hr=>first | (go_simp;done) | (go_simp;rfl));intro gb356 hg w48 hbox hb;have n0_:=Aside0.mk (Kd.R_below (Kd.R_elderB (by (with_reducible repeat (first | apply Kd.R_alloc | apply Kd.R_drewN | apply Kd.R_drew));exact HO338.out) gb356 (Nat.le_of_eq hg.symm)) hb);have n1_:=Aside0.mk (Kd.R_below (Kd.R_elderB (by (with_reducible repeat (first | apply Kd.R_alloc | apply Kd.R_drewN | apply Kd.R_drew));exact HO343.out) gb356 (Nat.le_of_eq hg.symm)) hb);have n2_:=Aside0.mk (Kd.R_below (Kd.R_elderB (by (with_reducible repeat (first | apply Kd.R_alloc | apply Kd.R_drewN | apply Kd.R_drew));exact HO349.out) gb356 (Nat.le_of_eq hg.symm)) hb);have n3_:=Aside0.mk (Kd.R_below (Kd.R_elderB (by (with_reducible repeat (first | apply Kd.R_alloc | apply Kd.R_drewN | apply Kd.R_drew));exact HO355.out) gb356 (Nat.le_of_eq hg.symm)) hb);have n4_:=Aside0.mk (blk_below (g:=gb330) (o:=.cells #[.int .i64 a0_0,.int .i64 a0_1,.slice A0_2 l0_2.length c0_2] 33 (0,0)) (by (with_reducible repeat (first | refine blk_drewN ?_ _ | refine blk_drew ?_ | refine blk_alloc ?_ _));exact BK330.out) hb);have n5_:=Aside0.mk (blk_below (g:=gb331) (o:=.cells #[.int .i64 a1_0,.int .i64 a1_1,.slice A1_2 l1_2.length c1_2] 33 (0,0)) (by (with_reducible repeat (first | refine blk_drewN ?_ _ | refine blk_drew ?_ | refine blk_alloc ?_ _));exact BK331.out) hb);have n6_:=Aside0.mk (blk_below (g:=gb350) (o:=.cells #[.int .i64 t345,.int .i64 t346,.slice Ao45 t347.length co45] 25 (0,0)) (by (with_reducible repeat (first | refine blk_drewN ?_ _ | refine blk_drew ?_ | refine blk_alloc ?_ _));exact BK350.out) hb);have n7_:=Aside0.mk (below_step (by repeat (first | (with_reducible first | exact HB.out | apply below_alloc | apply pw_below_drewN | apply below_drew1 | refine below_set ?_ GE330.out | refine below_set ?_ GE331.out | refine below_set ?_ GE350.out) | exact HB.out)) hb);have n8_:=Aside0.mk (hbox);have n9_:=Aside0.mk ((by rw [hg];exact (below_size (by repeat (first | (with_reducible first | exact HB.out | apply below_alloc | apply pw_below_drewN | apply below_drew1 | refine below_set ?_ GE330.out | refine below_set ?_ GE331.out | refine below_set ?_ GE350.out) | exact HB.out))):w.heap.size ≤ gb356));have n10_:=Aside0.mk ((by rw [hg];exact (below_size (by repeat (first | (with_reducible first | exact HB.out | apply below_alloc | apply pw_below_drewN | apply below_drew1 | refine below_set ?_ GE330.out | refine below_set ?_ GE331.out | refine below_set ?_ GE350.out) | exact HB.out))):w.heap.size ≤ gb356));have n11_:=Aside0.mk ((by rw [hg];exact Nat.ne_of_lt (blk_lt (g:=gb330) (o:=.cells #[.int .i64 a0_0,.int .i64 a0_1,.slice A0_2 l0_2.length c0_2] 33 (0,0)) (by (with_reducible repeat (first | refine blk_drewN ?_ _ | refine blk_drew ?_ | refine blk_alloc ?_ _));exact BK330.out)):gb330 ≠ gb356));have n12_:=Aside0.mk ((by rw [hg];exact Nat.ne_of_gt (blk_lt (g:=gb330) (o:=.cells #[.int .i64 a0_0,.int .i64 a0_1,.slice A0_2 l0_2.length c0_2] 33 (0,0)) (by (with_reducible repeat (first | refine blk_drewN ?_ _ | refine blk_drew ?_ | refine blk_alloc ?_ _));exact BK330.out)):gb356 ≠ gb330));have n13_:=Aside0.mk ((by rw [hg];exact Nat.ne_of_lt (blk_lt (g:=gb331) (o:=.cells #[.int .i64 a1_0,.int .i64 a1_1,.slice A1_2 l1_2.length c1_2] 33 (0,0)) (by (with_reducible repeat (first | refine blk_drewN ?_ _ | refine blk_drew ?_ | refine blk_alloc ?_ _));exact BK331.out)):gb331 ≠ gb356));have n14_:=Aside0.mk ((by rw [hg];exact Nat.ne_of_gt (blk_lt (g:=gb331) (o:=.cells #[.int .i64 a1_0,.int .i64 a1_1,.slice A1_2 l1_2.length c1_2] 33 (0,0)) (by (with_reducible repeat (first | refine blk_drewN ?_ _ | refine blk_drew ?_ | refine blk_alloc ?_ _));exact BK331.out)):gb356 ≠ gb331));have n15_:=Aside0.mk ((by rw [hg];exact Nat.ne_of_lt (blk_lt (g:=gb350) (o:=.cells #[.int .i64 t345,.int .i64 t346,.slice Ao45 t347.length co45] 25 (0,0)) (by (with_reducible repeat (first | refine blk_drewN ?_ _ | refine blk_drew ?_ | refine blk_alloc ?_ _));exact BK350.out)):gb350 ≠ gb356));have n16_:=Aside0.mk ((by rw [hg];exact Nat.ne_of_gt (blk_lt (g:=gb350) (o:=.cells #[.int .i64 t345,.int .i64 t346,.slice Ao45 t347.length co45] 25 (0,0)) (by (with_reducible repeat (first | refine blk_drewN ?_ _ | refine blk_drew ?_ | refine blk_alloc ?_ _));exact BK350.out)):gb356 ≠ gb350));clear HO338;clear HO343;clear HO349;clear HO355;clear BK330;clear BK331;clear BK350;clear HB;have HO338:=n0_;have HO343:=n1_;have HO349:=n2_;have HO355:=n3_;have BK330:=n4_;have BK331:=n5_;have BK350:=n6_;have HB:=n7_;have BK356:=n8_;have GW356:=n9_;have GE356:=n10_;have NB330_356:=n11_;have NB356_330:=n12_;have NB331_356:=n13_;have NB356_331:=n14_;have NB350_356:=n15_;have NB356_350:=n16_;clear n0_ n1_ n2_ n3_ n4_ n5_ n6_ n7_ n8_ n9_ n10_ n11_ n12_ n13_ n14_ n15_ n16_;clear hb hbox hg;have hnb49:=NB356_330.out;have hnc49:=NB330_356.out;have hnb50:=NB356_331.out;have hnc50:=NB331_356.out;have hnb51:=NB356_350.out;have hnc51:=NB350_356.out;have hcz52_0:w48.cell? ⟨gb356,0,none⟩ = some (.int .i64 0):=(blk_cell BK356.out 0).trans rfl;have hcz52_1:w48.cell? ⟨gb356,1,none⟩ = some (.int .i64 0):=(blk_cell BK356.out 1).trans rfl;have hcz52_2:w48.cell? ⟨gb356,2,none⟩ = some (.slice none 0 0):=(blk_cell BK356.out 2).trans rfl;have hfz52_0:=blk_frozen BK356.out 0;have hfz52_1:=blk_frozen BK356.out 1;have hfz52_2:=blk_frozen BK356.out 2;obtain ⟨Ao53,co53,eo53⟩:=Kd.R_slice HO355.out;subst eo53;have hcz54_0:w48.cell? ⟨gb350,0,none⟩ = some (.int .i64 t345):=(blk_cell BK350.out 0).trans rfl;have hcz54_1:w48.cell? ⟨gb350,1,none⟩ = some (.int .i64 t346):=(blk_cell BK350.out 1).trans rfl;have hcz54_2:w48.cell? ⟨gb350,2,none⟩ = some (.slice Ao45 t347.length co45):=(blk_cell BK350.out 2).trans rfl;have hfz54_0:=blk_frozen BK350.out 0;have hfz54_1:=blk_frozen BK350.out 1;have hfz54_2:=blk_frozen BK350.out 2) | ((with_reducible refine gate_callee (f:=17) rfl ?_);refine goesL_ (some 31) rfl rfl Tryd.func17 (by kernel_rfl) rfl #[.agg #[.int .i64 t345,.int .i64 t346,.slice Ao45 t347.length co45],.agg #[.int .i64 t351,.int .i64 t352,.slice Ao53 t353.length co53]] rfl (by (try simp only [List.map_toArray,List.map_cons,List.map_nil]);first | done | rfl | (simp only [List.length_drop,List.length_take];rfl)) ?_;(with_reducible refine (impl_SealUnder.calls k t345 t346 _ _ t347 t351 t352 _ _ t353 t357 _ ?side1 ?side2 ?side3 ?side4 A24.out).mono ?_);(case side1=>refine (Kd.R_reads' (e:=25) (base:=w.heap.size) (ok:=fun k_=>(((((True∧some k_ ≠ (.slice Ao36 t336.length co36:Value).ownBlock)∧some k_ ≠ (.slice Ao37 t341.length co37:Value).ownBlock)∧k_ ≠ gb350)∧some k_ ≠ (.slice Ao53 t353.length co53:Value).ownBlock)∧k_ ≠ gb356)) (n:=t347.length) (c:=co45) ?_).2.2;exact (by (with_reducible repeat (first | apply Kd.R_alloc | apply Kd.R_drewN | apply Kd.R_drew));exact (Kd.R_mono (Kd.R_far (p:=⟨gb356,2,none⟩) (Kd.R_far (p:=⟨gb356,1,none⟩) (Kd.R_far (p:=⟨gb356,0,none⟩) (Kd.R_mono HO349.out (fun k_ hk=>(⟨hk,hk.2⟩:_∧k_ ≠ gb356))) (fun _ hk=>hk.2) (.int .i64 t351)) (fun _ hk=>hk.2) (.int .i64 t352)) (fun _ hk=>hk.2) (.slice Ao53 t353.length co53)) (fun _ h_=>h_.1))));(case side2=>exact (Kd.R_reads' HO349.out).2.1);(case side3=>refine (Kd.R_reads' (e:=25) (base:=w.heap.size) (ok:=fun k_=>(((((True∧some k_ ≠ (.slice Ao36 t336.length co36:Value).ownBlock)∧some k_ ≠ (.slice Ao37 t341.length co37:Value).ownBlock)∧some k_ ≠ (.slice Ao45 t347.length co45:Value).ownBlock)∧k_ ≠ gb350)∧k_ ≠ gb356)) (n:=t353.length) (c:=co53) ?_).2.2;exact (by (with_reducible repeat (first | apply Kd.R_alloc | apply Kd.R_drewN | apply Kd.R_drew));exact (Kd.R_mono (Kd.R_far (p:=⟨gb356,2,none⟩) (Kd.R_far (p:=⟨gb356,1,none⟩) (Kd.R_far (p:=⟨gb356,0,none⟩) (Kd.R_mono HO355.out (fun k_ hk=>(⟨hk,hk.2⟩:_∧k_ ≠ gb356))) (fun _ hk=>hk.2) (.int .i64 t351)) (fun _ hk=>hk.2) (.int .i64 t352)) (fun _ hk=>hk.2) (.slice Ao53 t353.length co53)) (fun _ h_=>h_.1))));(case side4=>exact (Kd.R_reads' HO355.out).2.1);rintro e w55 ⟨rfl,hb⟩;refine ⟨_,rfl,?_⟩;have n0_:=Aside0.mk (Kd.R_below (by (with_reducible repeat (first | apply Kd.R_alloc | apply Kd.R_drewN | apply Kd.R_drew));exact (Kd.R_mono (Kd.R_far (p:=⟨gb356,2,none⟩) (Kd.R_far (p:=⟨gb356,1,none⟩) (Kd.R_far (p:=⟨gb356,0,none⟩) (Kd.R_mono HO338.out (fun k_ hk=>(⟨hk,hk.2⟩:_∧k_ ≠ gb356))) (fun _ hk=>hk.2) (.int .i64 t351)) (fun _ hk=>hk.2) (.int .i64 t352)) (fun _ hk=>hk.2) (.slice Ao53 t353.length co53)) (fun _ h_=>h_.1))) hb);have n1_:=Aside0.mk (Kd.R_below (by (with_reducible repeat (first | apply Kd.R_alloc | apply Kd.R_drewN | apply Kd.R_drew));exact (Kd.R_mono (Kd.R_far (p:=⟨gb356,2,none⟩) (Kd.R_far (p:=⟨gb356,1,none⟩) (Kd.R_far (p:=⟨gb356,0,none⟩) (Kd.R_mono HO343.out (fun k_ hk=>(⟨hk,hk.2⟩:_∧k_ ≠ gb356))) (fun _ hk=>hk.2) (.int .i64 t351)) (fun _ hk=>hk.2) (.int .i64 t352)) (fun _ hk=>hk.2) (.slice Ao53 t353.length co53)) (fun _ h_=>h_.1))) hb);have n2_:=Aside0.mk (Kd.R_below (by (with_reducible repeat (first | apply Kd.R_alloc | apply Kd.R_drewN | apply Kd.R_drew));exact (Kd.R_mono (Kd.R_far (p:=⟨gb356,2,none⟩) (Kd.R_far (p:=⟨gb356,1,none⟩) (Kd.R_far (p:=⟨gb356,0,none⟩) (Kd.R_mono HO349.out (fun k_ hk=>(⟨hk,hk.2⟩:_∧k_ ≠ gb356))) (fun _ hk=>hk.2) (.int .i64 t351)) (fun _ hk=>hk.2) (.int .i64 t352)) (fun _ hk=>hk.2) (.slice Ao53 t353.length co53)) (fun _ h_=>h_.1))) hb);have n3_:=Aside0.mk (Kd.R_below (by (with_reducible repeat (first | apply Kd.R_alloc | apply Kd.R_drewN | apply Kd.R_drew));exact (Kd.R_mono (Kd.R_far (p:=⟨gb356,2,none⟩) (Kd.R_far (p:=⟨gb356,1,none⟩) (Kd.R_far (p:=⟨gb356,0,none⟩) (Kd.R_mono HO355.out (fun k_ hk=>(⟨hk,hk.2⟩:_∧k_ ≠ gb356))) (fun _ hk=>hk.2) (.int .i64 t351)) (fun _ hk=>hk.2) (.int .i64 t352)) (fun _ hk=>hk.2) (.slice Ao53 t353.length co53)) (fun _ h_=>h_.1))) hb);have n4_:=Aside0.mk (blk_below (g:=gb330) (o:=.cells #[.int .i64 a0_0,.int .i64 a0_1,.slice A0_2 l0_2.length c0_2] 33 (0,0)) (by (with_reducible repeat (first | refine blk_drewN ?_ _ | refine blk_drew ?_ | refine blk_alloc ?_ _));refine blk_far ?_ NB330_356.out _;(with_reducible repeat (first | refine blk_drewN ?_ _ | refine blk_drew ?_ | refine blk_alloc ?_ _));refine blk_far ?_ NB330_356.out _;(with_reducible repeat (first | refine blk_drewN ?_ _ | refine blk_drew ?_ | refine blk_alloc ?_ _));refine blk_far ?_ NB330_356.out _;(with_reducible repeat (first | refine blk_drewN ?_ _ | refine blk_drew ?_ | refine blk_alloc ?_ _));exact BK330.out) hb);have n5_:=Aside0.mk (blk_below (g:=gb331) (o:=.cells #[.int .i64 a1_0,.int .i64 a1_1,.slice A1_2 l1_2.length c1_2] 33 (0,0)) (by (with_reducible repeat (first | refine blk_drewN ?_ _ | refine blk_drew ?_ | refine blk_alloc ?_ _));refine blk_far ?_ NB331_356.out _;(with_reducible repeat (first | refine blk_drewN ?_ _ | refine blk_drew ?_ | refine blk_alloc ?_ _));refine blk_far ?_ NB331_356.out _;(with_reducible repeat (first | refine blk_drewN ?_ _ | refine blk_drew ?_ | refine blk_alloc ?_ _));refine blk_far ?_ NB331_356.out _;(with_reducible repeat (first | refine blk_drewN ?_ _ | refine blk_drew ?_ | refine blk_alloc ?_ _));exact BK331.out) hb);have n6_:=Aside0.mk (blk_below (g:=gb350) (o:=.cells #[.int .i64 t345,.int .i64 t346,.slice Ao45 t347.length co45] 25 (0,0)) (by (with_reducible repeat (first | refine blk_drewN ?_ _ | refine blk_drew ?_ | refine blk_alloc ?_ _));refine blk_far ?_ NB350_356.out _;(with_reducible repeat (first | refine blk_drewN ?_ _ | refine blk_drew ?_ | refine blk_alloc ?_ _));refine blk_far ?_ NB350_356.out _;(with_reducible repeat (first | refine blk_drewN ?_ _ | refine blk_drew ?_ | refine blk_alloc ?_ _));refine blk_far ?_ NB350_356.out _;(with_reducible repeat (first | refine blk_drewN ?_ _ | refine blk_drew ?_ | refine blk_alloc ?_ _));exact BK350.out) hb);have n7_:=Aside0.mk (blk_below (g:=gb356) (o:=.cells #[.int .i64 t351,.int .i64 t352,.slice Ao53 t353.length co53] 25 (0,0)) (by (with_reducible repeat (first | refine blk_drewN ?_ _ | refine blk_drew ?_ | refine blk_alloc ?_ _));refine blk_put (cs:=#[.int .i64 t351,.int .i64 t352,.slice none 0 0]) ?_ 2 _ rfl;(with_reducible repeat (first | refine blk_drewN ?_ _ | refine blk_drew ?_ | refine blk_alloc ?_ _));refine blk_put (cs:=#[.int .i64 t351,.int .i64 0,.slice none 0 0]) ?_ 1 _ rfl;(with_reducible repeat (first | refine blk_drewN ?_ _ | refine blk_drew ?_ | refine blk_alloc ?_ _));refine blk_put (cs:=#[.int .i64 0,.int .i64 0,.slice none 0 0]) ?_ 0 _ rfl;(with_reducible repeat (first | refine blk_drewN ?_ _ | refine blk_drew ?_ | refine blk_alloc ?_ _));exact BK356.out) hb);have n8_:=Aside0.mk (below_step (by repeat (first | (with_reducible first | exact HB.out | apply below_alloc | apply pw_below_drewN | apply below_drew1 | refine below_set ?_ GE330.out | refine below_set ?_ GE331.out | refine below_set ?_ GE350.out | refine below_set ?_ GE356.out) | exact HB.out)) hb);clear HO338;clear HO343;clear HO349;clear HO355;clear BK330;clear BK331;clear BK350;clear BK356;clear HB;have HO338:=n0_;have HO343:=n1_;have HO349:=n2_;have HO355:=n3_;have BK330:=n4_;have BK331:=n5_;have BK350:=n6_;have BK356:=n7_;have HB:=n8_;clear n0_ n1_ n2_ n3_ n4_ n5_ n6_ n7_ n8_;(try clear hb);(try clear hb2);(try clear hk);(try clear hi)))
    go_ret
    exact ⟨by first | rfl | (simp [errW_none,errW_some] <;> rfl) | (simp [*,errW_none,errW_some] <;> rfl),by repeat (first | (with_reducible first | exact HB.out | apply below_alloc | apply pw_below_drewN | apply below_drew1 | refine below_set ?_ GE330.out | refine below_set ?_ GE331.out | refine below_set ?_ GE350.out | refine below_set ?_ GE356.out) | exact HB.out)⟩
   ·rw [if_neg c25] at H
    have c25b0:(t357 != t344) = false:=by simpa using c25
    (try (have c25b1:decide (t357 = t344) = true:=by simpa using c25))
    (try (have c25b2:(t357 == t344) = true:=by simpa using c25))
    clear c25
    replace H:=Option.bind_eq_some_iff.mp H
    obtain ⟨⟨t358,t359,t360⟩,A560,H⟩:=H
    replace H:((laws_eqSeal.f k t345 t346 t347 t358 t359 t360).bind fun t363=>(if t363 = true then ((laws_toSeal.f k a1_0 a1_1 l1_2).bind fun bt364=>((laws_eqSeal.f k t351 t352 t353 bt364.1 bt364.2.1 bt364.2.2).bind fun t369=>(if t369 = true then (some true) else (some false)))) else (some false))) = some r:=H
    have A56:=Aside0.mk A560
    clear A560
    replace H:=Option.bind_eq_some_iff.mp H
    obtain ⟨t363,A570,H⟩:=H
    replace H:(if t363 = true then ((laws_toSeal.f k a1_0 a1_1 l1_2).bind fun bt364=>((laws_eqSeal.f k t351 t352 t353 bt364.1 bt364.2.1 bt364.2.2).bind fun t369=>(if t369 = true then (some true) else (some false)))) else (some false)) = some r:=H
    have A57:=Aside0.mk A570
    clear A570
    by_cases c58:t363 = true
    ·subst c58
     have H1:((laws_toSeal.f k a1_0 a1_1 l1_2).bind fun bt364=>((laws_eqSeal.f k t351 t352 t353 bt364.1 bt364.2.1 bt364.2.2).bind fun t369=>(if t369 = true then (some true) else (some false)))) = some r:=by rw [if_pos rfl] at H;exact H
     clear H
     have H:=H1
     clear H1
     replace H:=Option.bind_eq_some_iff.mp H
     obtain ⟨⟨t364,t365,t366⟩,A590,H⟩:=H
     replace H:((laws_eqSeal.f k t351 t352 t353 t364 t365 t366).bind fun t369=>(if t369 = true then (some true) else (some false))) = some r:=H
     have A59:=Aside0.mk A590
     clear A590
     replace H:=Option.bind_eq_some_iff.mp H
     obtain ⟨t369,A600,H⟩:=H
     replace H:(if t369 = true then (some true) else (some false)) = some r:=H
     have A60:=Aside0.mk A600
     clear A600
     by_cases c61:t369 = true
     ·subst c61
      have H1:(some true) = some r:=by rw [if_pos rfl] at H;exact H
      clear H
      have H:=H1
      clear H1
      obtain rfl:=Option.some.inj H
      go_enter Tryd.func6,Tryd.ntmps6
      try go_wp2_with (first | ((with_reducible refine gate_dst (N:=2) rfl ?_);refine box_event ?hg (N:=2) ?hd (cs:=#[.int .i64 a0_0,.int .i64 a0_1,.slice A0_2 l0_2.length c0_2]) (t:=33) ?hr ?_;(case hd=>rfl);(case hg=>rfl);(case hr=>first | (go_simp;done) | (go_simp;rfl));intro gb330 hg w62 hbox hb;have n0_:=Aside0.mk (below_step (by repeat (first | (with_reducible first | exact HB.out | apply below_alloc | apply pw_below_drewN | apply below_drew1) | exact HB.out)) hb);have n1_:=Aside0.mk (hbox);have n2_:=Aside0.mk ((by rw [hg];exact (below_size (by repeat (first | (with_reducible first | exact HB.out | apply below_alloc | apply pw_below_drewN | apply below_drew1) | exact HB.out))):w.heap.size ≤ gb330));have n3_:=Aside0.mk ((by rw [hg];exact (below_size (by repeat (first | (with_reducible first | exact HB.out | apply below_alloc | apply pw_below_drewN | apply below_drew1) | exact HB.out))):w.heap.size ≤ gb330));clear HB;have HB:=n0_;have BK330:=n1_;have GW330:=n2_;have GE330:=n3_;clear n0_ n1_ n2_ n3_;clear hb hbox hg) | ((with_reducible refine gate_dst (N:=3) rfl ?_);refine box_event ?hg (N:=3) ?hd (cs:=#[.int .i64 a1_0,.int .i64 a1_1,.slice A1_2 l1_2.length c1_2]) (t:=33) ?hr ?_;(case hd=>rfl);(case hg=>rfl);(case hr=>first | (go_simp;done) | (go_simp;rfl));intro gb331 hg w63 hbox hb;have n0_:=Aside0.mk (blk_below (g:=gb330) (o:=.cells #[.int .i64 a0_0,.int .i64 a0_1,.slice A0_2 l0_2.length c0_2] 33 (0,0)) (by (with_reducible repeat (first | refine blk_drewN ?_ _ | refine blk_drew ?_ | refine blk_alloc ?_ _));exact BK330.out) hb);have n1_:=Aside0.mk (below_step (by repeat (first | (with_reducible first | exact HB.out | apply below_alloc | apply pw_below_drewN | apply below_drew1 | refine below_set ?_ GE330.out) | exact HB.out)) hb);have n2_:=Aside0.mk (hbox);have n3_:=Aside0.mk ((by rw [hg];exact (below_size (by repeat (first | (with_reducible first | exact HB.out | apply below_alloc | apply pw_below_drewN | apply below_drew1 | refine below_set ?_ GE330.out) | exact HB.out))):w.heap.size ≤ gb331));have n4_:=Aside0.mk ((by rw [hg];exact (below_size (by repeat (first | (with_reducible first | exact HB.out | apply below_alloc | apply pw_below_drewN | apply below_drew1 | refine below_set ?_ GE330.out) | exact HB.out))):w.heap.size ≤ gb331));have n5_:=Aside0.mk ((by rw [hg];exact Nat.ne_of_lt (blk_lt (g:=gb330) (o:=.cells #[.int .i64 a0_0,.int .i64 a0_1,.slice A0_2 l0_2.length c0_2] 33 (0,0)) (by (with_reducible repeat (first | refine blk_drewN ?_ _ | refine blk_drew ?_ | refine blk_alloc ?_ _));exact BK330.out)):gb330 ≠ gb331));have n6_:=Aside0.mk ((by rw [hg];exact Nat.ne_of_gt (blk_lt (g:=gb330) (o:=.cells #[.int .i64 a0_0,.int .i64 a0_1,.slice A0_2 l0_2.length c0_2] 33 (0,0)) (by (with_reducible repeat (first | refine blk_drewN ?_ _ | refine blk_drew ?_ | refine blk_alloc ?_ _));exact BK330.out)):gb331 ≠ gb330));clear BK330;clear HB;have BK330:=n0_;have HB:=n1_;have BK331:=n2_;have GW331:=n3_;have GE331:=n4_;have NB330_331:=n5_;have NB331_330:=n6_;clear n0_ n1_ n2_ n3_ n4_ n5_ n6_;clear hb hbox hg;have hnb64:=NB330_331.out;have hnc64:=NB331_330.out;have hcz65_0:w63.cell? ⟨gb330,0,none⟩ = some (.int .i64 a0_0):=(blk_cell BK330.out 0).trans rfl;have hcz65_1:w63.cell? ⟨gb330,1,none⟩ = some (.int .i64 a0_1):=(blk_cell BK330.out 1).trans rfl;have hcz65_2:w63.cell? ⟨gb330,2,none⟩ = some (.slice A0_2 l0_2.length c0_2):=(blk_cell BK330.out 2).trans rfl;have hfz65_0:=blk_frozen BK330.out 0;have hfz65_1:=blk_frozen BK330.out 1;have hfz65_2:=blk_frozen BK330.out 2) | ((with_reducible refine gate_callee (f:=20) rfl ?_);refine goesL_ (some 12) rfl rfl Tryd.func20 (by kernel_rfl) rfl #[.agg #[.int .i64 a0_0,.int .i64 a0_1,.slice A0_2 l0_2.length c0_2],.int .i64 1048576] rfl (by (try simp only [List.map_toArray,List.map_cons,List.map_nil]);first | done | rfl | (simp only [List.length_drop,List.length_take];rfl)) ?_;(with_reducible refine (laws_szSeal.calls k a0_0 a0_1 _ _ l0_2 1048576 t332 _ ?side1 ?side2 A3.out).mono ?_);(case side1=>repeat (first | exact (Kd.C_below HR0_2.out HB.out) | (with_reducible refine Kd.C_alloc ?_ _) | (with_reducible refine Kd.C_drewN ?_ _) | (with_reducible refine Kd.C_drew ?_)));(case side2=>exact HC0_2.out);rintro e w66 ⟨rfl,hb⟩;refine ⟨_,rfl,?_⟩;have n0_:=Aside0.mk (blk_below (g:=gb330) (o:=.cells #[.int .i64 a0_0,.int .i64 a0_1,.slice A0_2 l0_2.length c0_2] 33 (0,0)) (by (with_reducible repeat (first | refine blk_drewN ?_ _ | refine blk_drew ?_ | refine blk_alloc ?_ _));exact BK330.out) hb);have n1_:=Aside0.mk (blk_below (g:=gb331) (o:=.cells #[.int .i64 a1_0,.int .i64 a1_1,.slice A1_2 l1_2.length c1_2] 33 (0,0)) (by (with_reducible repeat (first | refine blk_drewN ?_ _ | refine blk_drew ?_ | refine blk_alloc ?_ _));exact BK331.out) hb);have n2_:=Aside0.mk (below_step (by repeat (first | (with_reducible first | exact HB.out | apply below_alloc | apply pw_below_drewN | apply below_drew1 | refine below_set ?_ GE330.out | refine below_set ?_ GE331.out) | exact HB.out)) hb);clear BK330;clear BK331;clear HB;have BK330:=n0_;have BK331:=n1_;have HB:=n2_;clear n0_ n1_ n2_;(try clear hb);(try clear hb2);(try clear hk);(try clear hi);have hcz67_0:w66.cell? ⟨gb331,0,none⟩ = some (.int .i64 a1_0):=(blk_cell BK331.out 0).trans rfl;have hcz67_1:w66.cell? ⟨gb331,1,none⟩ = some (.int .i64 a1_1):=(blk_cell BK331.out 1).trans rfl;have hcz67_2:w66.cell? ⟨gb331,2,none⟩ = some (.slice A1_2 l1_2.length c1_2):=(blk_cell BK331.out 2).trans rfl;have hfz67_0:=blk_frozen BK331.out 0;have hfz67_1:=blk_frozen BK331.out 1;have hfz67_2:=blk_frozen BK331.out 2) | ((with_reducible refine gate_callee (f:=20) rfl ?_);refine goesL_ (some 17) rfl rfl Tryd.func20 (by kernel_rfl) rfl #[.agg #[.int .i64 a1_0,.int .i64 a1_1,.slice A1_2 l1_2.length c1_2],.int .i64 t332] rfl (by (try simp only [List.map_toArray,List.map_cons,List.map_nil]);first | done | rfl | (simp only [List.length_drop,List.length_take];rfl)) ?_;(with_reducible refine (laws_szSeal.calls k a1_0 a1_1 _ _ l1_2 t332 t333 _ ?side1 ?side2 A10.out).mono ?_);(case side1=>repeat (first | exact (Kd.C_below HR1_2.out HB.out) | (with_reducible refine Kd.C_alloc ?_ _) | (with_reducible refine Kd.C_drewN ?_ _) | (with_reducible refine Kd.C_drew ?_)));(case side2=>exact HC1_2.out);rintro e w68 ⟨rfl,hb⟩;refine ⟨_,rfl,?_⟩;have n0_:=Aside0.mk (blk_below (g:=gb330) (o:=.cells #[.int .i64 a0_0,.int .i64 a0_1,.slice A0_2 l0_2.length c0_2] 33 (0,0)) (by (with_reducible repeat (first | refine blk_drewN ?_ _ | refine blk_drew ?_ | refine blk_alloc ?_ _));exact BK330.out) hb);have n1_:=Aside0.mk (blk_below (g:=gb331) (o:=.cells #[.int .i64 a1_0,.int .i64 a1_1,.slice A1_2 l1_2.length c1_2] 33 (0,0)) (by (with_reducible repeat (first | refine blk_drewN ?_ _ | refine blk_drew ?_ | refine blk_alloc ?_ _));exact BK331.out) hb);have n2_:=Aside0.mk (below_step (by repeat (first | (with_reducible first | exact HB.out | apply below_alloc | apply pw_below_drewN | apply below_drew1 | refine below_set ?_ GE330.out | refine below_set ?_ GE331.out) | exact HB.out)) hb);clear BK330;clear BK331;clear HB;have BK330:=n0_;have BK331:=n1_;have HB:=n2_;clear n0_ n1_ n2_;(try clear hb);(try clear hb2);(try clear hk);(try clear hi)))
      have n0_:=Aside0.mk (blk_drew BK330.out)
      have n1_:=Aside0.mk (blk_drew BK331.out)
      have n2_:=Aside0.mk (below_drew1 HB.out)
      clear BK330
      clear BK331
      clear HB
      have BK330:=n0_
      have BK331:=n1_
      have HB:=n2_
      clear n0_ n1_ n2_
      refine start_ (n:=6) (S:=fun w'=>w'.cell? ⟨gb330,0,none⟩ = some (.int .i64 a0_0)∧w'.cell? ⟨gb330,1,none⟩ = some (.int .i64 a0_1)∧w'.cell? ⟨gb330,2,none⟩ = some (.slice A0_2 l0_2.length c0_2)∧w'.cell? ⟨gb331,0,none⟩ = some (.int .i64 a1_0)∧w'.cell? ⟨gb331,1,none⟩ = some (.int .i64 a1_1)∧w'.cell? ⟨gb331,2,none⟩ = some (.slice A1_2 l1_2.length c1_2)) (ds:=[]) #[false,false,false,false,false,false] (by kernel_rfl) rfl rfl ⟨(blk_cell BK330.out 0).trans rfl,(blk_cell BK330.out 1).trans rfl,(blk_cell BK330.out 2).trans rfl,(blk_cell BK331.out 0).trans rfl,(blk_cell BK331.out 1).trans rfl,(blk_cell BK331.out 2).trans rfl⟩ (fun hHeld=>?_)
      generalize w68.drew = w69 at BK330 BK331 HB hHeld ⊢
      refine take_ (i:=0) (N:=some 20) (v:=?_) (a':=?_) #[true,false,false,false,false,false] rfl rfl (by kernel_rfl) (fun _ _ _ h=>h) (Or.inl ⟨by rfl,?_⟩) hHeld ?_ ?_
      rotate_left;·rintro w' ⟨s0,s1,s2,s3,s4,s5⟩;go_simp;with_reducible rfl
      rotate_left;·simp only [Act.put,List.setIfInBounds_toArray,List.set_cons_zero,List.set_cons_succ,i64_w,i32_w];rfl
      refine take_ (i:=2) (N:=some 22) (v:=?_) (a':=?_) #[true,false,true,false,false,false] rfl rfl (by kernel_rfl) (fun _ _ _ h=>h) (Or.inl ⟨by rfl,?_⟩) hHeld ?_ ?_
      rotate_left;·rintro w' ⟨s0,s1,s2,s3,s4,s5⟩;go_simp;with_reducible rfl
      rotate_left;·simp only [Act.put,List.setIfInBounds_toArray,List.set_cons_zero,List.set_cons_succ,i64_w,i32_w];rfl
      refine one_ (i:=1) (N:=some 21) #[true,true,true,false,false,false] rfl rfl (by kernel_rfl) (by decide) (fun K hK=>?_)
      refine goes_ Tryd.func21 (by kernel_rfl) rfl #[.agg #[.int .i64 a0_0,.int .i64 a0_1,.slice A0_2 l0_2.length c0_2]] (by rfl) rfl rfl (by (try simp only [List.map_toArray,List.map_cons,List.map_nil]);first | done | rfl | (simp only [List.length_drop,List.length_take];rfl)) ?_
      with_reducible refine (laws_toSeal.calls k a0_0 a0_1 _ _ l0_2 t334 t335 t336 _ ?side1 ?side2 A19.out).mono ?_
      (case side1=>repeat (first | exact (Kd.C_below HR0_2.out HB.out) | (with_reducible refine Kd.C_alloc ?_ _) | (with_reducible refine Kd.C_drewN ?_ _) | (with_reducible refine Kd.C_drew ?_)))
      (case side2=>exact HC0_2.out)
      rintro e w70 ⟨v337,rfl,ho0,hb⟩
      refine ⟨_,rfl,?_⟩
      have n0_:=Aside0.mk (Kd.R_lower ho0 (below_size (by repeat (first | (with_reducible first | exact HB.out | apply below_alloc | apply pw_below_drewN | apply below_drew1 | refine below_set ?_ GE330.out | refine below_set ?_ GE331.out) | exact HB.out))))
      have n1_:=Aside0.mk (blk_below (g:=gb330) (o:=.cells #[.int .i64 a0_0,.int .i64 a0_1,.slice A0_2 l0_2.length c0_2] 33 (0,0)) (by (with_reducible repeat (first | refine blk_drewN ?_ _ | refine blk_drew ?_ | refine blk_alloc ?_ _));exact BK330.out) hb)
      have n2_:=Aside0.mk (blk_below (g:=gb331) (o:=.cells #[.int .i64 a1_0,.int .i64 a1_1,.slice A1_2 l1_2.length c1_2] 33 (0,0)) (by (with_reducible repeat (first | refine blk_drewN ?_ _ | refine blk_drew ?_ | refine blk_alloc ?_ _));exact BK331.out) hb)
      have n3_:=Aside0.mk (below_step (by repeat (first | (with_reducible first | exact HB.out | apply below_alloc | apply pw_below_drewN | apply below_drew1 | refine below_set ?_ GE330.out | refine below_set ?_ GE331.out) | exact HB.out)) hb)
      clear BK330
      clear BK331
      clear HB
      have HO338:=n0_
      have BK330:=n1_
      have BK331:=n2_
      have HB:=n3_
      clear n0_ n1_ n2_ n3_
      (try clear hb)
      (try clear hb2)
      (try clear hk)
      (try clear hi)
      (try clear ho0)
      refine hK.out _ _ ⟨(blk_cell BK330.out 0).trans rfl,(blk_cell BK330.out 1).trans rfl,(blk_cell BK330.out 2).trans rfl,(blk_cell BK331.out 0).trans rfl,(blk_cell BK331.out 1).trans rfl,(blk_cell BK331.out 2).trans rfl⟩ (fun hHeld=>?_)
      clear hK K
      refine norm_ (a':=?_) ?_ ?_
      rotate_left
      ·show Act.put _ (some 21) _ = _
       simp only [Act.put,List.setIfInBounds_toArray,List.set_cons_zero,List.set_cons_succ,i64_w,i32_w]
       rfl
      refine one_ (i:=3) (N:=some 23) #[true,true,true,true,false,false] rfl rfl (by kernel_rfl) (by decide) (fun K hK=>?_)
      refine goes_ Tryd.func21 (by kernel_rfl) rfl #[.agg #[.int .i64 a1_0,.int .i64 a1_1,.slice A1_2 l1_2.length c1_2]] (by rfl) rfl rfl (by (try simp only [List.map_toArray,List.map_cons,List.map_nil]);first | done | rfl | (simp only [List.length_drop,List.length_take];rfl)) ?_
      with_reducible refine (laws_toSeal.calls k a1_0 a1_1 _ _ l1_2 t339 t340 t341 _ ?side1 ?side2 A20.out).mono ?_
      (case side1=>repeat (first | exact (Kd.C_below HR1_2.out HB.out) | (with_reducible refine Kd.C_alloc ?_ _) | (with_reducible refine Kd.C_drewN ?_ _) | (with_reducible refine Kd.C_drew ?_)))
      (case side2=>exact HC1_2.out)
      rintro e w71 ⟨v342,rfl,ho0,hb⟩
      refine ⟨_,rfl,?_⟩
      have n0_:=Aside0.mk (Kd.R_elder' (by (with_reducible repeat (first | apply Kd.R_alloc | apply Kd.R_drewN | apply Kd.R_drew));exact HO338.out) (Kd.R_base ho0) hb)
      have n1_:=Aside0.mk (Kd.R_lower (Kd.R_new' ho0 (Kd.R_lt (by (with_reducible repeat (first | apply Kd.R_alloc | apply Kd.R_drewN | apply Kd.R_drew));exact HO338.out))) (below_size (by repeat (first | (with_reducible first | exact HB.out | apply below_alloc | apply pw_below_drewN | apply below_drew1 | refine below_set ?_ GE330.out | refine below_set ?_ GE331.out) | exact HB.out))))
      have n2_:=Aside0.mk (blk_below (g:=gb330) (o:=.cells #[.int .i64 a0_0,.int .i64 a0_1,.slice A0_2 l0_2.length c0_2] 33 (0,0)) (by (with_reducible repeat (first | refine blk_drewN ?_ _ | refine blk_drew ?_ | refine blk_alloc ?_ _));exact BK330.out) hb)
      have n3_:=Aside0.mk (blk_below (g:=gb331) (o:=.cells #[.int .i64 a1_0,.int .i64 a1_1,.slice A1_2 l1_2.length c1_2] 33 (0,0)) (by (with_reducible repeat (first | refine blk_drewN ?_ _ | refine blk_drew ?_ | refine blk_alloc ?_ _));exact BK331.out) hb)
      have n4_:=Aside0.mk (below_step (by repeat (first | (with_reducible first | exact HB.out | apply below_alloc | apply pw_below_drewN | apply below_drew1 | refine below_set ?_ GE330.out | refine below_set ?_ GE331.out) | exact HB.out)) hb)
      clear HO338
      clear BK330
      clear BK331
      clear HB
      have HO338:=n0_
      have HO343:=n1_
      have BK330:=n2_
      have BK331:=n3_
      have HB:=n4_
      clear n0_ n1_ n2_ n3_ n4_
      (try clear hb)
      (try clear hb2)
      (try clear hk)
      (try clear hi)
      (try clear ho0)
      obtain ⟨Ao72,co72,eo72⟩:=Kd.R_slice HO338.out
      (first | subst eo72 | (injection eo72 with f1_ f2_ f3_;have f4_:=f1_.symm;have f5_:=f3_.symm;clear f1_ f2_ f3_;subst f4_;subst f5_))
      obtain ⟨Ao73,co73,eo73⟩:=Kd.R_slice HO343.out
      (first | subst eo73 | (injection eo73 with f1_ f2_ f3_;have f4_:=f1_.symm;have f5_:=f3_.symm;clear f1_ f2_ f3_;subst f4_;subst f5_))
      refine hK.out _ _ ⟨(blk_cell BK330.out 0).trans rfl,(blk_cell BK330.out 1).trans rfl,(blk_cell BK330.out 2).trans rfl,(blk_cell BK331.out 0).trans rfl,(blk_cell BK331.out 1).trans rfl,(blk_cell BK331.out 2).trans rfl⟩ (fun hHeld=>?_)
      clear hK K
      refine norm_ (a':=?_) ?_ ?_
      rotate_left
      ·show Act.put _ (some 23) _ = _
       simp only [Act.put,List.setIfInBounds_toArray,List.set_cons_zero,List.set_cons_succ,i64_w,i32_w]
       rfl
      refine one_ (i:=4) (N:=some 24) #[true,true,true,true,true,false] rfl rfl (by kernel_rfl) (by decide) (fun K hK=>?_)
      refine goes_ Tryd.func23 (by kernel_rfl) rfl #[.agg #[.int .i64 t334,.int .i64 t335,.slice Ao72 t336.length co72],.agg #[.int .i64 t339,.int .i64 t340,.slice Ao73 t341.length co73]] (by rfl) rfl rfl (by (try simp only [List.map_toArray,List.map_cons,List.map_nil]);first | done | rfl | (simp only [List.length_drop,List.length_take];rfl)) ?_
      with_reducible refine (spec_SealUnder.calls k t334 t335 _ _ t336 t339 t340 _ _ t341 t344 _ ?side1 ?side2 ?side3 ?side4 A21.out).mono ?_
      (case side1=>repeat (first | exact (Kd.R_reads' HO338.out).2.2 | (with_reducible refine Kd.C_alloc ?_ _) | (with_reducible refine Kd.C_drewN ?_ _) | (with_reducible refine Kd.C_drew ?_)))
      (case side2=>exact (Kd.R_reads' HO338.out).2.1)
      (case side3=>repeat (first | exact (Kd.R_reads' HO343.out).2.2 | (with_reducible refine Kd.C_alloc ?_ _) | (with_reducible refine Kd.C_drewN ?_ _) | (with_reducible refine Kd.C_drew ?_)))
      (case side4=>exact (Kd.R_reads' HO343.out).2.1)
      rintro e w74 ⟨rfl,hb⟩
      refine ⟨_,rfl,?_⟩
      have n0_:=Aside0.mk (Kd.R_below (by (with_reducible repeat (first | apply Kd.R_alloc | apply Kd.R_drewN | apply Kd.R_drew));exact HO338.out) hb)
      have n1_:=Aside0.mk (Kd.R_below (by (with_reducible repeat (first | apply Kd.R_alloc | apply Kd.R_drewN | apply Kd.R_drew));exact HO343.out) hb)
      have n2_:=Aside0.mk (blk_below (g:=gb330) (o:=.cells #[.int .i64 a0_0,.int .i64 a0_1,.slice A0_2 l0_2.length c0_2] 33 (0,0)) (by (with_reducible repeat (first | refine blk_drewN ?_ _ | refine blk_drew ?_ | refine blk_alloc ?_ _));exact BK330.out) hb)
      have n3_:=Aside0.mk (blk_below (g:=gb331) (o:=.cells #[.int .i64 a1_0,.int .i64 a1_1,.slice A1_2 l1_2.length c1_2] 33 (0,0)) (by (with_reducible repeat (first | refine blk_drewN ?_ _ | refine blk_drew ?_ | refine blk_alloc ?_ _));exact BK331.out) hb)
      have n4_:=Aside0.mk (below_step (by repeat (first | (with_reducible first | exact HB.out | apply below_alloc | apply pw_below_drewN | apply below_drew1 | refine below_set ?_ GE330.out | refine below_set ?_ GE331.out) | exact HB.out)) hb)
      clear HO338
      clear HO343
      clear BK330
      clear BK331
      clear HB
      have HO338:=n0_
      have HO343:=n1_
      have BK330:=n2_
      have BK331:=n3_
      have HB:=n4_
      clear n0_ n1_ n2_ n3_ n4_
      (try clear hb)
      (try clear hb2)
      (try clear hk)
      (try clear hi)
      refine hK.out _ _ ⟨(blk_cell BK330.out 0).trans rfl,(blk_cell BK330.out 1).trans rfl,(blk_cell BK330.out 2).trans rfl,(blk_cell BK331.out 0).trans rfl,(blk_cell BK331.out 1).trans rfl,(blk_cell BK331.out 2).trans rfl⟩ (fun hHeld=>?_)
      clear hK K
      refine norm_ (a':=?_) ?_ ?_
      rotate_left
      ·show Act.put _ (some 24) _ = _
       simp only [Act.put,List.setIfInBounds_toArray,List.set_cons_zero,List.set_cons_succ,i64_w,i32_w]
       rfl
      refine pure_ (i:=5) (N:=some 6) (v:=?_) (a':=?_) #[true,true,true,true,true,true] rfl rfl (by kernel_rfl) (fun _ _ _ h=>h) (Or.inl ⟨by rfl,?_⟩) ?_ ?_
      rotate_left;·intro w';go_simp;with_reducible rfl
      rotate_left;·simp only [Act.put,List.setIfInBounds_toArray,List.set_cons_zero,List.set_cons_succ,i64_w,i32_w];rfl
      refine done_ (by kernel_rfl) ?_
      have hcz75_0:w74.cell? ⟨gb330,0,none⟩ = some (.int .i64 a0_0):=(blk_cell BK330.out 0).trans rfl
      have hcz75_1:w74.cell? ⟨gb330,1,none⟩ = some (.int .i64 a0_1):=(blk_cell BK330.out 1).trans rfl
      have hcz75_2:w74.cell? ⟨gb330,2,none⟩ = some (.slice A0_2 l0_2.length c0_2):=(blk_cell BK330.out 2).trans rfl
      have hfz75_0:=blk_frozen BK330.out 0
      have hfz75_1:=blk_frozen BK330.out 1
      have hfz75_2:=blk_frozen BK330.out 2
      try go_wp2_with (first | ((with_reducible refine gate_callee (f:=21) rfl ?_);refine goesL_ (some 26) rfl rfl Tryd.func21 (by kernel_rfl) rfl #[.agg #[.int .i64 a0_0,.int .i64 a0_1,.slice A0_2 l0_2.length c0_2]] rfl (by (try simp only [List.map_toArray,List.map_cons,List.map_nil]);first | done | rfl | (simp only [List.length_drop,List.length_take];rfl)) ?_;(with_reducible refine (laws_toSeal.calls k a0_0 a0_1 _ _ l0_2 t345 t346 t347 _ ?side1 ?side2 A22.out).mono ?_);(case side1=>repeat (first | exact (Kd.C_below HR0_2.out HB.out) | (with_reducible refine Kd.C_alloc ?_ _) | (with_reducible refine Kd.C_drewN ?_ _) | (with_reducible refine Kd.C_drew ?_)));(case side2=>exact HC0_2.out);rintro e w76 ⟨v348,rfl,ho0,hb⟩;refine ⟨_,rfl,?_⟩;have n0_:=Aside0.mk (Kd.R_elder' (by (with_reducible repeat (first | apply Kd.R_alloc | apply Kd.R_drewN | apply Kd.R_drew));exact HO338.out) (Kd.R_base ho0) hb);have n1_:=Aside0.mk (Kd.R_elder' (by (with_reducible repeat (first | apply Kd.R_alloc | apply Kd.R_drewN | apply Kd.R_drew));exact HO343.out) (Kd.R_base ho0) hb);have n2_:=Aside0.mk (Kd.R_lower (Kd.R_new' (Kd.R_new' ho0 (Kd.R_lt (by (with_reducible repeat (first | apply Kd.R_alloc | apply Kd.R_drewN | apply Kd.R_drew));exact HO338.out))) (Kd.R_lt (by (with_reducible repeat (first | apply Kd.R_alloc | apply Kd.R_drewN | apply Kd.R_drew));exact HO343.out))) (below_size (by repeat (first | (with_reducible first | exact HB.out | apply below_alloc | apply pw_below_drewN | apply below_drew1 | refine below_set ?_ GE330.out | refine below_set ?_ GE331.out) | exact HB.out))));have n3_:=Aside0.mk (blk_below (g:=gb330) (o:=.cells #[.int .i64 a0_0,.int .i64 a0_1,.slice A0_2 l0_2.length c0_2] 33 (0,0)) (by (with_reducible repeat (first | refine blk_drewN ?_ _ | refine blk_drew ?_ | refine blk_alloc ?_ _));exact BK330.out) hb);have n4_:=Aside0.mk (blk_below (g:=gb331) (o:=.cells #[.int .i64 a1_0,.int .i64 a1_1,.slice A1_2 l1_2.length c1_2] 33 (0,0)) (by (with_reducible repeat (first | refine blk_drewN ?_ _ | refine blk_drew ?_ | refine blk_alloc ?_ _));exact BK331.out) hb);have n5_:=Aside0.mk (below_step (by repeat (first | (with_reducible first | exact HB.out | apply below_alloc | apply pw_below_drewN | apply below_drew1 | refine below_set ?_ GE330.out | refine below_set ?_ GE331.out) | exact HB.out)) hb);clear HO338;clear HO343;clear BK330;clear BK331;clear HB;have HO338:=n0_;have HO343:=n1_;have HO349:=n2_;have BK330:=n3_;have BK331:=n4_;have HB:=n5_;clear n0_ n1_ n2_ n3_ n4_ n5_;(try clear hb);(try clear hb2);(try clear hk);(try clear hi);(try clear ho0)) | ((with_reducible refine gate_dst (N:=7) rfl ?_);refine box_event ?hg (N:=7) ?hd (cs:=#[.int .i64 0,.int .i64 0,.slice none 0 0]) (t:=25) ?hr ?_;(case hd=>rfl);(case hg=>rfl);(case hr=>first | (go_simp;done) | (go_simp;rfl));intro gb350 hg w77 hbox hb;have n0_:=Aside0.mk (Kd.R_below (Kd.R_elderB (by (with_reducible repeat (first | apply Kd.R_alloc | apply Kd.R_drewN | apply Kd.R_drew));exact HO338.out) gb350 (Nat.le_of_eq hg.symm)) hb);have n1_:=Aside0.mk (Kd.R_below (Kd.R_elderB (by (with_reducible repeat (first | apply Kd.R_alloc | apply Kd.R_drewN | apply Kd.R_drew));exact HO343.out) gb350 (Nat.le_of_eq hg.symm)) hb);have n2_:=Aside0.mk (Kd.R_below (Kd.R_elderB (by (with_reducible repeat (first | apply Kd.R_alloc | apply Kd.R_drewN | apply Kd.R_drew));exact HO349.out) gb350 (Nat.le_of_eq hg.symm)) hb);have n3_:=Aside0.mk (blk_below (g:=gb330) (o:=.cells #[.int .i64 a0_0,.int .i64 a0_1,.slice A0_2 l0_2.length c0_2] 33 (0,0)) (by (with_reducible repeat (first | refine blk_drewN ?_ _ | refine blk_drew ?_ | refine blk_alloc ?_ _));exact BK330.out) hb);have n4_:=Aside0.mk (blk_below (g:=gb331) (o:=.cells #[.int .i64 a1_0,.int .i64 a1_1,.slice A1_2 l1_2.length c1_2] 33 (0,0)) (by (with_reducible repeat (first | refine blk_drewN ?_ _ | refine blk_drew ?_ | refine blk_alloc ?_ _));exact BK331.out) hb);have n5_:=Aside0.mk (below_step (by repeat (first | (with_reducible first | exact HB.out | apply below_alloc | apply pw_below_drewN | apply below_drew1 | refine below_set ?_ GE330.out | refine below_set ?_ GE331.out) | exact HB.out)) hb);have n6_:=Aside0.mk (hbox);have n7_:=Aside0.mk ((by rw [hg];exact (below_size (by repeat (first | (with_reducible first | exact HB.out | apply below_alloc | apply pw_below_drewN | apply below_drew1 | refine below_set ?_ GE330.out | refine below_set ?_ GE331.out) | exact HB.out))):w.heap.size ≤ gb350));have n8_:=Aside0.mk ((by rw [hg];exact (below_size (by repeat (first | (with_reducible first | exact HB.out | apply below_alloc | apply pw_below_drewN | apply below_drew1 | refine below_set ?_ GE330.out | refine below_set ?_ GE331.out) | exact HB.out))):w.heap.size ≤ gb350));have n9_:=Aside0.mk ((by rw [hg];exact Nat.ne_of_lt (blk_lt (g:=gb330) (o:=.cells #[.int .i64 a0_0,.int .i64 a0_1,.slice A0_2 l0_2.length c0_2] 33 (0,0)) (by (with_reducible repeat (first | refine blk_drewN ?_ _ | refine blk_drew ?_ | refine blk_alloc ?_ _));exact BK330.out)):gb330 ≠ gb350));have n10_:=Aside0.mk ((by rw [hg];exact Nat.ne_of_gt (blk_lt (g:=gb330) (o:=.cells #[.int .i64 a0_0,.int .i64 a0_1,.slice A0_2 l0_2.length c0_2] 33 (0,0)) (by (with_reducible repeat (first | refine blk_drewN ?_ _ | refine blk_drew ?_ | refine blk_alloc ?_ _));exact BK330.out)):gb350 ≠ gb330));have n11_:=Aside0.mk ((by rw [hg];exact Nat.ne_of_lt (blk_lt (g:=gb331) (o:=.cells #[.int .i64 a1_0,.int .i64 a1_1,.slice A1_2 l1_2.length c1_2] 33 (0,0)) (by (with_reducible repeat (first | refine blk_drewN ?_ _ | refine blk_drew ?_ | refine blk_alloc ?_ _));exact BK331.out)):gb331 ≠ gb350));have n12_:=Aside0.mk ((by rw [hg];exact Nat.ne_of_gt (blk_lt (g:=gb331) (o:=.cells #[.int .i64 a1_0,.int .i64 a1_1,.slice A1_2 l1_2.length c1_2] 33 (0,0)) (by (with_reducible repeat (first | refine blk_drewN ?_ _ | refine blk_drew ?_ | refine blk_alloc ?_ _));exact BK331.out)):gb350 ≠ gb331));clear HO338;clear HO343;clear HO349;clear BK330;clear BK331;clear HB;have HO338:=n0_;have HO343:=n1_;have HO349:=n2_;have BK330:=n3_;have BK331:=n4_;have HB:=n5_;have BK350:=n6_;have GW350:=n7_;have GE350:=n8_;have NB330_350:=n9_;have NB350_330:=n10_;have NB331_350:=n11_;have NB350_331:=n12_;clear n0_ n1_ n2_ n3_ n4_ n5_ n6_ n7_ n8_ n9_ n10_ n11_ n12_;clear hb hbox hg;have hnb78:=NB350_330.out;have hnc78:=NB330_350.out;have hnb79:=NB350_331.out;have hnc79:=NB331_350.out;have hcz80_0:w77.cell? ⟨gb350,0,none⟩ = some (.int .i64 0):=(blk_cell BK350.out 0).trans rfl;have hcz80_1:w77.cell? ⟨gb350,1,none⟩ = some (.int .i64 0):=(blk_cell BK350.out 1).trans rfl;have hcz80_2:w77.cell? ⟨gb350,2,none⟩ = some (.slice none 0 0):=(blk_cell BK350.out 2).trans rfl;have hfz80_0:=blk_frozen BK350.out 0;have hfz80_1:=blk_frozen BK350.out 1;have hfz80_2:=blk_frozen BK350.out 2;obtain ⟨Ao81,co81,eo81⟩:=Kd.R_slice HO349.out;subst eo81;have hcz82_0:w77.cell? ⟨gb331,0,none⟩ = some (.int .i64 a1_0):=(blk_cell BK331.out 0).trans rfl;have hcz82_1:w77.cell? ⟨gb331,1,none⟩ = some (.int .i64 a1_1):=(blk_cell BK331.out 1).trans rfl;have hcz82_2:w77.cell? ⟨gb331,2,none⟩ = some (.slice A1_2 l1_2.length c1_2):=(blk_cell BK331.out 2).trans rfl;have hfz82_0:=blk_frozen BK331.out 0;have hfz82_1:=blk_frozen BK331.out 1;have hfz82_2:=blk_frozen BK331.out 2) | ((with_reducible refine gate_callee (f:=21) rfl ?_);refine goesL_ (some 28) rfl rfl Tryd.func21 (by kernel_rfl) rfl #[.agg #[.int .i64 a1_0,.int .i64 a1_1,.slice A1_2 l1_2.length c1_2]] rfl (by (try simp only [List.map_toArray,List.map_cons,List.map_nil]);first | done | rfl | (simp only [List.length_drop,List.length_take];rfl)) ?_;(with_reducible refine (laws_toSeal.calls k a1_0 a1_1 _ _ l1_2 t351 t352 t353 _ ?side1 ?side2 A23.out).mono ?_);(case side1=>exact Kd.C_below HR1_2.out (by repeat (first | (with_reducible first | exact HB.out | apply below_alloc | apply pw_below_drewN | apply below_drew1 | refine below_set ?_ GE330.out | refine below_set ?_ GE331.out | refine below_set ?_ GE350.out) | exact HB.out)));(case side2=>exact HC1_2.out);rintro e w83 ⟨v354,rfl,ho0,hb⟩;refine ⟨_,rfl,?_⟩;have n0_:=Aside0.mk (Kd.R_elder' (by (with_reducible repeat (first | apply Kd.R_alloc | apply Kd.R_drewN | apply Kd.R_drew));exact (Kd.R_mono (Kd.R_far (p:=⟨gb350,2,none⟩) (Kd.R_far (p:=⟨gb350,1,none⟩) (Kd.R_far (p:=⟨gb350,0,none⟩) (Kd.R_mono HO338.out (fun k_ hk=>(⟨hk,hk.2⟩:_∧k_ ≠ gb350))) (fun _ hk=>hk.2) (.int .i64 t345)) (fun _ hk=>hk.2) (.int .i64 t346)) (fun _ hk=>hk.2) (.slice Ao81 t347.length co81)) (fun _ h_=>h_.1))) (Kd.R_base ho0) hb);have n1_:=Aside0.mk (Kd.R_elder' (by (with_reducible repeat (first | apply Kd.R_alloc | apply Kd.R_drewN | apply Kd.R_drew));exact (Kd.R_mono (Kd.R_far (p:=⟨gb350,2,none⟩) (Kd.R_far (p:=⟨gb350,1,none⟩) (Kd.R_far (p:=⟨gb350,0,none⟩) (Kd.R_mono HO343.out (fun k_ hk=>(⟨hk,hk.2⟩:_∧k_ ≠ gb350))) (fun _ hk=>hk.2) (.int .i64 t345)) (fun _ hk=>hk.2) (.int .i64 t346)) (fun _ hk=>hk.2) (.slice Ao81 t347.length co81)) (fun _ h_=>h_.1))) (Kd.R_base ho0) hb);have n2_:=Aside0.mk (Kd.R_elder' (by (with_reducible repeat (first | apply Kd.R_alloc | apply Kd.R_drewN | apply Kd.R_drew));exact (Kd.R_mono (Kd.R_far (p:=⟨gb350,2,none⟩) (Kd.R_far (p:=⟨gb350,1,none⟩) (Kd.R_far (p:=⟨gb350,0,none⟩) (Kd.R_mono HO349.out (fun k_ hk=>(⟨hk,hk.2⟩:_∧k_ ≠ gb350))) (fun _ hk=>hk.2) (.int .i64 t345)) (fun _ hk=>hk.2) (.int .i64 t346)) (fun _ hk=>hk.2) (.slice Ao81 t347.length co81)) (fun _ h_=>h_.1))) (Kd.R_base ho0) hb);have n3_:=Aside0.mk (Kd.R_lower (Kd.R_newB (Kd.R_new' (Kd.R_new' (Kd.R_new' ho0 (Kd.R_lt (by (with_reducible repeat (first | apply Kd.R_alloc | apply Kd.R_drewN | apply Kd.R_drew));exact (Kd.R_mono (Kd.R_far (p:=⟨gb350,2,none⟩) (Kd.R_far (p:=⟨gb350,1,none⟩) (Kd.R_far (p:=⟨gb350,0,none⟩) (Kd.R_mono HO338.out (fun k_ hk=>(⟨hk,hk.2⟩:_∧k_ ≠ gb350))) (fun _ hk=>hk.2) (.int .i64 t345)) (fun _ hk=>hk.2) (.int .i64 t346)) (fun _ hk=>hk.2) (.slice Ao81 t347.length co81)) (fun _ h_=>h_.1))))) (Kd.R_lt (by (with_reducible repeat (first | apply Kd.R_alloc | apply Kd.R_drewN | apply Kd.R_drew));exact (Kd.R_mono (Kd.R_far (p:=⟨gb350,2,none⟩) (Kd.R_far (p:=⟨gb350,1,none⟩) (Kd.R_far (p:=⟨gb350,0,none⟩) (Kd.R_mono HO343.out (fun k_ hk=>(⟨hk,hk.2⟩:_∧k_ ≠ gb350))) (fun _ hk=>hk.2) (.int .i64 t345)) (fun _ hk=>hk.2) (.int .i64 t346)) (fun _ hk=>hk.2) (.slice Ao81 t347.length co81)) (fun _ h_=>h_.1))))) (Kd.R_lt (by (with_reducible repeat (first | apply Kd.R_alloc | apply Kd.R_drewN | apply Kd.R_drew));exact (Kd.R_mono (Kd.R_far (p:=⟨gb350,2,none⟩) (Kd.R_far (p:=⟨gb350,1,none⟩) (Kd.R_far (p:=⟨gb350,0,none⟩) (Kd.R_mono HO349.out (fun k_ hk=>(⟨hk,hk.2⟩:_∧k_ ≠ gb350))) (fun _ hk=>hk.2) (.int .i64 t345)) (fun _ hk=>hk.2) (.int .i64 t346)) (fun _ hk=>hk.2) (.slice Ao81 t347.length co81)) (fun _ h_=>h_.1))))) (g:=gb350) (o:=.cells #[.int .i64 t345,.int .i64 t346,.slice Ao81 t347.length co81] 25 (0,0)) (by (with_reducible repeat (first | refine blk_drewN ?_ _ | refine blk_drew ?_ | refine blk_alloc ?_ _));refine blk_put (cs:=#[.int .i64 t345,.int .i64 t346,.slice none 0 0]) ?_ 2 _ rfl;(with_reducible repeat (first | refine blk_drewN ?_ _ | refine blk_drew ?_ | refine blk_alloc ?_ _));refine blk_put (cs:=#[.int .i64 t345,.int .i64 0,.slice none 0 0]) ?_ 1 _ rfl;(with_reducible repeat (first | refine blk_drewN ?_ _ | refine blk_drew ?_ | refine blk_alloc ?_ _));refine blk_put (cs:=#[.int .i64 0,.int .i64 0,.slice none 0 0]) ?_ 0 _ rfl;(with_reducible repeat (first | refine blk_drewN ?_ _ | refine blk_drew ?_ | refine blk_alloc ?_ _));exact BK350.out)) (below_size (by repeat (first | (with_reducible first | exact HB.out | apply below_alloc | apply pw_below_drewN | apply below_drew1 | refine below_set ?_ GE330.out | refine below_set ?_ GE331.out | refine below_set ?_ GE350.out) | exact HB.out))));have n4_:=Aside0.mk (blk_below (g:=gb330) (o:=.cells #[.int .i64 a0_0,.int .i64 a0_1,.slice A0_2 l0_2.length c0_2] 33 (0,0)) (by (with_reducible repeat (first | refine blk_drewN ?_ _ | refine blk_drew ?_ | refine blk_alloc ?_ _));refine blk_far ?_ NB330_350.out _;(with_reducible repeat (first | refine blk_drewN ?_ _ | refine blk_drew ?_ | refine blk_alloc ?_ _));refine blk_far ?_ NB330_350.out _;(with_reducible repeat (first | refine blk_drewN ?_ _ | refine blk_drew ?_ | refine blk_alloc ?_ _));refine blk_far ?_ NB330_350.out _;(with_reducible repeat (first | refine blk_drewN ?_ _ | refine blk_drew ?_ | refine blk_alloc ?_ _));exact BK330.out) hb);have n5_:=Aside0.mk (blk_below (g:=gb331) (o:=.cells #[.int .i64 a1_0,.int .i64 a1_1,.slice A1_2 l1_2.length c1_2] 33 (0,0)) (by (with_reducible repeat (first | refine blk_drewN ?_ _ | refine blk_drew ?_ | refine blk_alloc ?_ _));refine blk_far ?_ NB331_350.out _;(with_reducible repeat (first | refine blk_drewN ?_ _ | refine blk_drew ?_ | refine blk_alloc ?_ _));refine blk_far ?_ NB331_350.out _;(with_reducible repeat (first | refine blk_drewN ?_ _ | refine blk_drew ?_ | refine blk_alloc ?_ _));refine blk_far ?_ NB331_350.out _;(with_reducible repeat (first | refine blk_drewN ?_ _ | refine blk_drew ?_ | refine blk_alloc ?_ _));exact BK331.out) hb);have n6_:=Aside0.mk (blk_below (g:=gb350) (o:=.cells #[.int .i64 t345,.int .i64 t346,.slice Ao81 t347.length co81] 25 (0,0)) (by (with_reducible repeat (first | refine blk_drewN ?_ _ | refine blk_drew ?_ | refine blk_alloc ?_ _));refine blk_put (cs:=#[.int .i64 t345,.int .i64 t346,.slice none 0 0]) ?_ 2 _ rfl;(with_reducible repeat (first | refine blk_drewN ?_ _ | refine blk_drew ?_ | refine blk_alloc ?_ _));refine blk_put (cs:=#[.int .i64 t345,.int .i64 0,.slice none 0 0]) ?_ 1 _ rfl;(with_reducible repeat (first | refine blk_drewN ?_ _ | refine blk_drew ?_ | refine blk_alloc ?_ _));refine blk_put (cs:=#[.int .i64 0,.int .i64 0,.slice none 0 0]) ?_ 0 _ rfl;(with_reducible repeat (first | refine blk_drewN ?_ _ | refine blk_drew ?_ | refine blk_alloc ?_ _));exact BK350.out) hb);have n7_:=Aside0.mk (below_step (by repeat (first | (with_reducible first | exact HB.out | apply below_alloc | apply pw_below_drewN | apply below_drew1 | refine below_set ?_ GE330.out | refine below_set ?_ GE331.out | refine below_set ?_ GE350.out) | exact HB.out)) hb);clear HO338;clear HO343;clear HO349;clear BK330;clear BK331;clear BK350;clear HB;have HO338:=n0_;have HO343:=n1_;have HO349:=n2_;have HO355:=n3_;have BK330:=n4_;have BK331:=n5_;have BK350:=n6_;have HB:=n7_;clear n0_ n1_ n2_ n3_ n4_ n5_ n6_ n7_;(try clear hb);(try clear hb2);(try clear hk);(try clear hi);(try clear ho0)) | ((with_reducible refine gate_dst (N:=8) rfl ?_);refine box_event ?hg (N:=8) ?hd (cs:=#[.int .i64 0,.int .i64 0,.slice none 0 0]) (t:=25) ?hr ?_;(case hd=>rfl);(case hg=>rfl);(case hr=>first | (go_simp;done) | (go_simp;rfl));intro gb356 hg w84 hbox hb;have n0_:=Aside0.mk (Kd.R_below (Kd.R_elderB (by (with_reducible repeat (first | apply Kd.R_alloc | apply Kd.R_drewN | apply Kd.R_drew));exact HO338.out) gb356 (Nat.le_of_eq hg.symm)) hb);have n1_:=Aside0.mk (Kd.R_below (Kd.R_elderB (by (with_reducible repeat (first | apply Kd.R_alloc | apply Kd.R_drewN | apply Kd.R_drew));exact HO343.out) gb356 (Nat.le_of_eq hg.symm)) hb);have n2_:=Aside0.mk (Kd.R_below (Kd.R_elderB (by (with_reducible repeat (first | apply Kd.R_alloc | apply Kd.R_drewN | apply Kd.R_drew));exact HO349.out) gb356 (Nat.le_of_eq hg.symm)) hb);have n3_:=Aside0.mk (Kd.R_below (Kd.R_elderB (by (with_reducible repeat (first | apply Kd.R_alloc | apply Kd.R_drewN | apply Kd.R_drew));exact HO355.out) gb356 (Nat.le_of_eq hg.symm)) hb);have n4_:=Aside0.mk (blk_below (g:=gb330) (o:=.cells #[.int .i64 a0_0,.int .i64 a0_1,.slice A0_2 l0_2.length c0_2] 33 (0,0)) (by (with_reducible repeat (first | refine blk_drewN ?_ _ | refine blk_drew ?_ | refine blk_alloc ?_ _));exact BK330.out) hb);have n5_:=Aside0.mk (blk_below (g:=gb331) (o:=.cells #[.int .i64 a1_0,.int .i64 a1_1,.slice A1_2 l1_2.length c1_2] 33 (0,0)) (by (with_reducible repeat (first | refine blk_drewN ?_ _ | refine blk_drew ?_ | refine blk_alloc ?_ _));exact BK331.out) hb);have n6_:=Aside0.mk (blk_below (g:=gb350) (o:=.cells #[.int .i64 t345,.int .i64 t346,.slice Ao81 t347.length co81] 25 (0,0)) (by (with_reducible repeat (first | refine blk_drewN ?_ _ | refine blk_drew ?_ | refine blk_alloc ?_ _));exact BK350.out) hb);have n7_:=Aside0.mk (below_step (by repeat (first | (with_reducible first | exact HB.out | apply below_alloc | apply pw_below_drewN | apply below_drew1 | refine below_set ?_ GE330.out | refine below_set ?_ GE331.out | refine below_set ?_ GE350.out) | exact HB.out)) hb);have n8_:=Aside0.mk (hbox);have n9_:=Aside0.mk ((by rw [hg];exact (below_size (by repeat (first | (with_reducible first | exact HB.out | apply below_alloc | apply pw_below_drewN | apply below_drew1 | refine below_set ?_ GE330.out | refine below_set ?_ GE331.out | refine below_set ?_ GE350.out) | exact HB.out))):w.heap.size ≤ gb356));have n10_:=Aside0.mk ((by rw [hg];exact (below_size (by repeat (first | (with_reducible first | exact HB.out | apply below_alloc | apply pw_below_drewN | apply below_drew1 | refine below_set ?_ GE330.out | refine below_set ?_ GE331.out | refine below_set ?_ GE350.out) | exact HB.out))):w.heap.size ≤ gb356));have n11_:=Aside0.mk ((by rw [hg];exact Nat.ne_of_lt (blk_lt (g:=gb330) (o:=.cells #[.int .i64 a0_0,.int .i64 a0_1,.slice A0_2 l0_2.length c0_2] 33 (0,0)) (by (with_reducible repeat (first | refine blk_drewN ?_ _ | refine blk_drew ?_ | refine blk_alloc ?_ _));exact BK330.out)):gb330 ≠ gb356));have n12_:=Aside0.mk ((by rw [hg];exact Nat.ne_of_gt (blk_lt (g:=gb330) (o:=.cells #[.int .i64 a0_0,.int .i64 a0_1,.slice A0_2 l0_2.length c0_2] 33 (0,0)) (by (with_reducible repeat (first | refine blk_drewN ?_ _ | refine blk_drew ?_ | refine blk_alloc ?_ _));exact BK330.out)):gb356 ≠ gb330));have n13_:=Aside0.mk ((by rw [hg];exact Nat.ne_of_lt (blk_lt (g:=gb331) (o:=.cells #[.int .i64 a1_0,.int .i64 a1_1,.slice A1_2 l1_2.length c1_2] 33 (0,0)) (by (with_reducible repeat (first | refine blk_drewN ?_ _ | refine blk_drew ?_ | refine blk_alloc ?_ _));exact BK331.out)):gb331 ≠ gb356));have n14_:=Aside0.mk ((by rw [hg];exact Nat.ne_of_gt (blk_lt (g:=gb331) (o:=.cells #[.int .i64 a1_0,.int .i64 a1_1,.slice A1_2 l1_2.length c1_2] 33 (0,0)) (by (with_reducible repeat (first | refine blk_drewN ?_ _ | refine blk_drew ?_ | refine blk_alloc ?_ _));exact BK331.out)):gb356 ≠ gb331));have n15_:=Aside0.mk ((by rw [hg];exact Nat.ne_of_lt (blk_lt (g:=gb350) (o:=.cells #[.int .i64 t345,.int .i64 t346,.slice Ao81 t347.length co81] 25 (0,0)) (by (with_reducible repeat (first | refine blk_drewN ?_ _ | refine blk_drew ?_ | refine blk_alloc ?_ _));exact BK350.out)):gb350 ≠ gb356));have n16_:=Aside0.mk ((by rw [hg];exact Nat.ne_of_gt (blk_lt (g:=gb350) (o:=.cells #[.int .i64 t345,.int .i64 t346,.slice Ao81 t347.length co81] 25 (0,0)) (by (with_reducible repeat (first | refine blk_drewN ?_ _ | refine blk_drew ?_ | refine blk_alloc ?_ _));exact BK350.out)):gb356 ≠ gb350));clear HO338;clear HO343;clear HO349;clear HO355;clear BK330;clear BK331;clear BK350;clear HB;have HO338:=n0_;have HO343:=n1_;have HO349:=n2_;have HO355:=n3_;have BK330:=n4_;have BK331:=n5_;have BK350:=n6_;have HB:=n7_;have BK356:=n8_;have GW356:=n9_;have GE356:=n10_;have NB330_356:=n11_;have NB356_330:=n12_;have NB331_356:=n13_;have NB356_331:=n14_;have NB350_356:=n15_;have NB356_350:=n16_;clear n0_ n1_ n2_ n3_ n4_ n5_ n6_ n7_ n8_ n9_ n10_ n11_ n12_ n13_ n14_ n15_ n16_;clear hb hbox hg;have hnb85:=NB356_330.out;have hnc85:=NB330_356.out;have hnb86:=NB356_331.out;have hnc86:=NB331_356.out;have hnb87:=NB356_350.out;have hnc87:=NB350_356.out;have hcz88_0:w84.cell? ⟨gb356,0,none⟩ = some (.int .i64 0):=(blk_cell BK356.out 0).trans rfl;have hcz88_1:w84.cell? ⟨gb356,1,none⟩ = some (.int .i64 0):=(blk_cell BK356.out 1).trans rfl;have hcz88_2:w84.cell? ⟨gb356,2,none⟩ = some (.slice none 0 0):=(blk_cell BK356.out 2).trans rfl;have hfz88_0:=blk_frozen BK356.out 0;have hfz88_1:=blk_frozen BK356.out 1;have hfz88_2:=blk_frozen BK356.out 2;obtain ⟨Ao89,co89,eo89⟩:=Kd.R_slice HO355.out;subst eo89;have hcz90_0:w84.cell? ⟨gb350,0,none⟩ = some (.int .i64 t345):=(blk_cell BK350.out 0).trans rfl;have hcz90_1:w84.cell? ⟨gb350,1,none⟩ = some (.int .i64 t346):=(blk_cell BK350.out 1).trans rfl;have hcz90_2:w84.cell? ⟨gb350,2,none⟩ = some (.slice Ao81 t347.length co81):=(blk_cell BK350.out 2).trans rfl;have hfz90_0:=blk_frozen BK350.out 0;have hfz90_1:=blk_frozen BK350.out 1;have hfz90_2:=blk_frozen BK350.out 2) | ((with_reducible refine gate_callee (f:=17) rfl ?_);refine goesL_ (some 31) rfl rfl Tryd.func17 (by kernel_rfl) rfl #[.agg #[.int .i64 t345,.int .i64 t346,.slice Ao81 t347.length co81],.agg #[.int .i64 t351,.int .i64 t352,.slice Ao89 t353.length co89]] rfl (by (try simp only [List.map_toArray,List.map_cons,List.map_nil]);first | done | rfl | (simp only [List.length_drop,List.length_take];rfl)) ?_;(with_reducible refine (impl_SealUnder.calls k t345 t346 _ _ t347 t351 t352 _ _ t353 t357 _ ?side1 ?side2 ?side3 ?side4 A24.out).mono ?_);(case side1=>refine (Kd.R_reads' (e:=25) (base:=w.heap.size) (ok:=fun k_=>(((((True∧some k_ ≠ (.slice Ao72 t336.length co72:Value).ownBlock)∧some k_ ≠ (.slice Ao73 t341.length co73:Value).ownBlock)∧k_ ≠ gb350)∧some k_ ≠ (.slice Ao89 t353.length co89:Value).ownBlock)∧k_ ≠ gb356)) (n:=t347.length) (c:=co81) ?_).2.2;exact (by (with_reducible repeat (first | apply Kd.R_alloc | apply Kd.R_drewN | apply Kd.R_drew));exact (Kd.R_mono (Kd.R_far (p:=⟨gb356,2,none⟩) (Kd.R_far (p:=⟨gb356,1,none⟩) (Kd.R_far (p:=⟨gb356,0,none⟩) (Kd.R_mono HO349.out (fun k_ hk=>(⟨hk,hk.2⟩:_∧k_ ≠ gb356))) (fun _ hk=>hk.2) (.int .i64 t351)) (fun _ hk=>hk.2) (.int .i64 t352)) (fun _ hk=>hk.2) (.slice Ao89 t353.length co89)) (fun _ h_=>h_.1))));(case side2=>exact (Kd.R_reads' HO349.out).2.1);(case side3=>refine (Kd.R_reads' (e:=25) (base:=w.heap.size) (ok:=fun k_=>(((((True∧some k_ ≠ (.slice Ao72 t336.length co72:Value).ownBlock)∧some k_ ≠ (.slice Ao73 t341.length co73:Value).ownBlock)∧some k_ ≠ (.slice Ao81 t347.length co81:Value).ownBlock)∧k_ ≠ gb350)∧k_ ≠ gb356)) (n:=t353.length) (c:=co89) ?_).2.2;exact (by (with_reducible repeat (first | apply Kd.R_alloc | apply Kd.R_drewN | apply Kd.R_drew));exact (Kd.R_mono (Kd.R_far (p:=⟨gb356,2,none⟩) (Kd.R_far (p:=⟨gb356,1,none⟩) (Kd.R_far (p:=⟨gb356,0,none⟩) (Kd.R_mono HO355.out (fun k_ hk=>(⟨hk,hk.2⟩:_∧k_ ≠ gb356))) (fun _ hk=>hk.2) (.int .i64 t351)) (fun _ hk=>hk.2) (.int .i64 t352)) (fun _ hk=>hk.2) (.slice Ao89 t353.length co89)) (fun _ h_=>h_.1))));(case side4=>exact (Kd.R_reads' HO355.out).2.1);rintro e w91 ⟨rfl,hb⟩;refine ⟨_,rfl,?_⟩;have n0_:=Aside0.mk (Kd.R_below (by (with_reducible repeat (first | apply Kd.R_alloc | apply Kd.R_drewN | apply Kd.R_drew));exact (Kd.R_mono (Kd.R_far (p:=⟨gb356,2,none⟩) (Kd.R_far (p:=⟨gb356,1,none⟩) (Kd.R_far (p:=⟨gb356,0,none⟩) (Kd.R_mono HO338.out (fun k_ hk=>(⟨hk,hk.2⟩:_∧k_ ≠ gb356))) (fun _ hk=>hk.2) (.int .i64 t351)) (fun _ hk=>hk.2) (.int .i64 t352)) (fun _ hk=>hk.2) (.slice Ao89 t353.length co89)) (fun _ h_=>h_.1))) hb);have n1_:=Aside0.mk (Kd.R_below (by (with_reducible repeat (first | apply Kd.R_alloc | apply Kd.R_drewN | apply Kd.R_drew));exact (Kd.R_mono (Kd.R_far (p:=⟨gb356,2,none⟩) (Kd.R_far (p:=⟨gb356,1,none⟩) (Kd.R_far (p:=⟨gb356,0,none⟩) (Kd.R_mono HO343.out (fun k_ hk=>(⟨hk,hk.2⟩:_∧k_ ≠ gb356))) (fun _ hk=>hk.2) (.int .i64 t351)) (fun _ hk=>hk.2) (.int .i64 t352)) (fun _ hk=>hk.2) (.slice Ao89 t353.length co89)) (fun _ h_=>h_.1))) hb);have n2_:=Aside0.mk (Kd.R_below (by (with_reducible repeat (first | apply Kd.R_alloc | apply Kd.R_drewN | apply Kd.R_drew));exact (Kd.R_mono (Kd.R_far (p:=⟨gb356,2,none⟩) (Kd.R_far (p:=⟨gb356,1,none⟩) (Kd.R_far (p:=⟨gb356,0,none⟩) (Kd.R_mono HO349.out (fun k_ hk=>(⟨hk,hk.2⟩:_∧k_ ≠ gb356))) (fun _ hk=>hk.2) (.int .i64 t351)) (fun _ hk=>hk.2) (.int .i64 t352)) (fun _ hk=>hk.2) (.slice Ao89 t353.length co89)) (fun _ h_=>h_.1))) hb);have n3_:=Aside0.mk (Kd.R_below (by (with_reducible repeat (first | apply Kd.R_alloc | apply Kd.R_drewN | apply Kd.R_drew));exact (Kd.R_mono (Kd.R_far (p:=⟨gb356,2,none⟩) (Kd.R_far (p:=⟨gb356,1,none⟩) (Kd.R_far (p:=⟨gb356,0,none⟩) (Kd.R_mono HO355.out (fun k_ hk=>(⟨hk,hk.2⟩:_∧k_ ≠ gb356))) (fun _ hk=>hk.2) (.int .i64 t351)) (fun _ hk=>hk.2) (.int .i64 t352)) (fun _ hk=>hk.2) (.slice Ao89 t353.length co89)) (fun _ h_=>h_.1))) hb);have n4_:=Aside0.mk (blk_below (g:=gb330) (o:=.cells #[.int .i64 a0_0,.int .i64 a0_1,.slice A0_2 l0_2.length c0_2] 33 (0,0)) (by (with_reducible repeat (first | refine blk_drewN ?_ _ | refine blk_drew ?_ | refine blk_alloc ?_ _));refine blk_far ?_ NB330_356.out _;(with_reducible repeat (first | refine blk_drewN ?_ _ | refine blk_drew ?_ | refine blk_alloc ?_ _));refine blk_far ?_ NB330_356.out _;(with_reducible repeat (first | refine blk_drewN ?_ _ | refine blk_drew ?_ | refine blk_alloc ?_ _));refine blk_far ?_ NB330_356.out _;(with_reducible repeat (first | refine blk_drewN ?_ _ | refine blk_drew ?_ | refine blk_alloc ?_ _));exact BK330.out) hb);have n5_:=Aside0.mk (blk_below (g:=gb331) (o:=.cells #[.int .i64 a1_0,.int .i64 a1_1,.slice A1_2 l1_2.length c1_2] 33 (0,0)) (by (with_reducible repeat (first | refine blk_drewN ?_ _ | refine blk_drew ?_ | refine blk_alloc ?_ _));refine blk_far ?_ NB331_356.out _;(with_reducible repeat (first | refine blk_drewN ?_ _ | refine blk_drew ?_ | refine blk_alloc ?_ _));refine blk_far ?_ NB331_356.out _;(with_reducible repeat (first | refine blk_drewN ?_ _ | refine blk_drew ?_ | refine blk_alloc ?_ _));refine blk_far ?_ NB331_356.out _;(with_reducible repeat (first | refine blk_drewN ?_ _ | refine blk_drew ?_ | refine blk_alloc ?_ _));exact BK331.out) hb);have n6_:=Aside0.mk (blk_below (g:=gb350) (o:=.cells #[.int .i64 t345,.int .i64 t346,.slice Ao81 t347.length co81] 25 (0,0)) (by (with_reducible repeat (first | refine blk_drewN ?_ _ | refine blk_drew ?_ | refine blk_alloc ?_ _));refine blk_far ?_ NB350_356.out _;(with_reducible repeat (first | refine blk_drewN ?_ _ | refine blk_drew ?_ | refine blk_alloc ?_ _));refine blk_far ?_ NB350_356.out _;(with_reducible repeat (first | refine blk_drewN ?_ _ | refine blk_drew ?_ | refine blk_alloc ?_ _));refine blk_far ?_ NB350_356.out _;(with_reducible repeat (first | refine blk_drewN ?_ _ | refine blk_drew ?_ | refine blk_alloc ?_ _));exact BK350.out) hb);have n7_:=Aside0.mk (blk_below (g:=gb356) (o:=.cells #[.int .i64 t351,.int .i64 t352,.slice Ao89 t353.length co89] 25 (0,0)) (by (with_reducible repeat (first | refine blk_drewN ?_ _ | refine blk_drew ?_ | refine blk_alloc ?_ _));refine blk_put (cs:=#[.int .i64 t351,.int .i64 t352,.slice none 0 0]) ?_ 2 _ rfl;(with_reducible repeat (first | refine blk_drewN ?_ _ | refine blk_drew ?_ | refine blk_alloc ?_ _));refine blk_put (cs:=#[.int .i64 t351,.int .i64 0,.slice none 0 0]) ?_ 1 _ rfl;(with_reducible repeat (first | refine blk_drewN ?_ _ | refine blk_drew ?_ | refine blk_alloc ?_ _));refine blk_put (cs:=#[.int .i64 0,.int .i64 0,.slice none 0 0]) ?_ 0 _ rfl;(with_reducible repeat (first | refine blk_drewN ?_ _ | refine blk_drew ?_ | refine blk_alloc ?_ _));exact BK356.out) hb);have n8_:=Aside0.mk (below_step (by repeat (first | (with_reducible first | exact HB.out | apply below_alloc | apply pw_below_drewN | apply below_drew1 | refine below_set ?_ GE330.out | refine below_set ?_ GE331.out | refine below_set ?_ GE350.out | refine below_set ?_ GE356.out) | exact HB.out)) hb);clear HO338;clear HO343;clear HO349;clear HO355;clear BK330;clear BK331;clear BK350;clear BK356;clear HB;have HO338:=n0_;have HO343:=n1_;have HO349:=n2_;have HO355:=n3_;have BK330:=n4_;have BK331:=n5_;have BK350:=n6_;have BK356:=n7_;have HB:=n8_;clear n0_ n1_ n2_ n3_ n4_ n5_ n6_ n7_ n8_;(try clear hb);(try clear hb2);(try clear hk);(try clear hi)))
      have n0_:=Aside0.mk (Kd.R_drew HO338.out)
      have n1_:=Aside0.mk (Kd.R_drew HO343.out)
      have n2_:=Aside0.mk (Kd.R_drew HO349.out)
      have n3_:=Aside0.mk (Kd.R_drew HO355.out)
      have n4_:=Aside0.mk (blk_drew BK330.out)
      have n5_:=Aside0.mk (blk_drew BK331.out)
      have n6_:=Aside0.mk (blk_drew BK350.out)
      have n7_:=Aside0.mk (blk_drew BK356.out)
      have n8_:=Aside0.mk (below_drew1 HB.out)
      clear HO338
      clear HO343
      clear HO349
      clear HO355
      clear BK330
      clear BK331
      clear BK350
      clear BK356
      clear HB
      have HO338:=n0_
      have HO343:=n1_
      have HO349:=n2_
      have HO355:=n3_
      have BK330:=n4_
      have BK331:=n5_
      have BK350:=n6_
      have BK356:=n7_
      have HB:=n8_
      clear n0_ n1_ n2_ n3_ n4_ n5_ n6_ n7_ n8_
      refine start_ (n:=5) (S:=fun w'=>w'.cell? ⟨gb350,0,none⟩ = some (.int .i64 t345)∧w'.cell? ⟨gb350,1,none⟩ = some (.int .i64 t346)∧w'.cell? ⟨gb350,2,none⟩ = some (.slice Ao81 t347.length co81)∧w'.cell? ⟨gb330,0,none⟩ = some (.int .i64 a0_0)∧w'.cell? ⟨gb330,1,none⟩ = some (.int .i64 a0_1)∧w'.cell? ⟨gb330,2,none⟩ = some (.slice A0_2 l0_2.length c0_2)) (ds:=[]) #[false,false,false,false,false] (by kernel_rfl) rfl rfl ⟨(blk_cell BK350.out 0).trans rfl,(blk_cell BK350.out 1).trans rfl,(blk_cell BK350.out 2).trans rfl,(blk_cell BK330.out 0).trans rfl,(blk_cell BK330.out 1).trans rfl,(blk_cell BK330.out 2).trans rfl⟩ (fun hHeld=>?_)
      generalize w91.drew = w92 at HO338 HO343 HO349 HO355 BK330 BK331 BK350 BK356 HB hHeld ⊢
      refine take_ (i:=0) (N:=some 35) (v:=?_) (a':=?_) #[true,false,false,false,false] rfl rfl (by kernel_rfl) (fun _ _ _ h=>h) (Or.inl ⟨by rfl,?_⟩) hHeld ?_ ?_
      rotate_left;·rintro w' ⟨s0,s1,s2,s3,s4,s5⟩;go_simp;with_reducible rfl
      rotate_left;·simp only [Act.put,List.setIfInBounds_toArray,List.set_cons_zero,List.set_cons_succ,i64_w,i32_w];rfl
      refine take_ (i:=1) (N:=some 36) (v:=?_) (a':=?_) #[true,true,false,false,false] rfl rfl (by kernel_rfl) (fun _ _ _ h=>h) (Or.inl ⟨by rfl,?_⟩) hHeld ?_ ?_
      rotate_left;·rintro w' ⟨s0,s1,s2,s3,s4,s5⟩;go_simp;with_reducible rfl
      rotate_left;·simp only [Act.put,List.setIfInBounds_toArray,List.set_cons_zero,List.set_cons_succ,i64_w,i32_w];rfl
      refine one_ (i:=2) (N:=some 37) #[true,true,true,false,false] rfl rfl (by kernel_rfl) (by decide) (fun K hK=>?_)
      refine goes_ Tryd.func21 (by kernel_rfl) rfl #[.agg #[.int .i64 a0_0,.int .i64 a0_1,.slice A0_2 l0_2.length c0_2]] (by rfl) rfl rfl (by (try simp only [List.map_toArray,List.map_cons,List.map_nil]);first | done | rfl | (simp only [List.length_drop,List.length_take];rfl)) ?_
      with_reducible refine (laws_toSeal.calls k a0_0 a0_1 _ _ l0_2 t358 t359 t360 _ ?side1 ?side2 A56.out).mono ?_
      (case side1=>repeat (first | exact (Kd.C_below HR0_2.out HB.out) | (with_reducible refine Kd.C_alloc ?_ _) | (with_reducible refine Kd.C_drewN ?_ _) | (with_reducible refine Kd.C_drew ?_)))
      (case side2=>exact HC0_2.out)
      rintro e w93 ⟨v361,rfl,ho0,hb⟩
      refine ⟨_,rfl,?_⟩
      have n0_:=Aside0.mk (Kd.R_elder' (by (with_reducible repeat (first | apply Kd.R_alloc | apply Kd.R_drewN | apply Kd.R_drew));exact HO338.out) (Kd.R_base ho0) hb)
      have n1_:=Aside0.mk (Kd.R_elder' (by (with_reducible repeat (first | apply Kd.R_alloc | apply Kd.R_drewN | apply Kd.R_drew));exact HO343.out) (Kd.R_base ho0) hb)
      have n2_:=Aside0.mk (Kd.R_elder' (by (with_reducible repeat (first | apply Kd.R_alloc | apply Kd.R_drewN | apply Kd.R_drew));exact HO349.out) (Kd.R_base ho0) hb)
      have n3_:=Aside0.mk (Kd.R_elder' (by (with_reducible repeat (first | apply Kd.R_alloc | apply Kd.R_drewN | apply Kd.R_drew));exact HO355.out) (Kd.R_base ho0) hb)
      have n4_:=Aside0.mk (Kd.R_lower (Kd.R_newB (Kd.R_newB (Kd.R_new' (Kd.R_new' (Kd.R_new' (Kd.R_new' ho0 (Kd.R_lt (by (with_reducible repeat (first | apply Kd.R_alloc | apply Kd.R_drewN | apply Kd.R_drew));exact HO338.out))) (Kd.R_lt (by (with_reducible repeat (first | apply Kd.R_alloc | apply Kd.R_drewN | apply Kd.R_drew));exact HO343.out))) (Kd.R_lt (by (with_reducible repeat (first | apply Kd.R_alloc | apply Kd.R_drewN | apply Kd.R_drew));exact HO349.out))) (Kd.R_lt (by (with_reducible repeat (first | apply Kd.R_alloc | apply Kd.R_drewN | apply Kd.R_drew));exact HO355.out))) (g:=gb350) (o:=.cells #[.int .i64 t345,.int .i64 t346,.slice Ao81 t347.length co81] 25 (0,0)) (by (with_reducible repeat (first | refine blk_drewN ?_ _ | refine blk_drew ?_ | refine blk_alloc ?_ _));exact BK350.out)) (g:=gb356) (o:=.cells #[.int .i64 t351,.int .i64 t352,.slice Ao89 t353.length co89] 25 (0,0)) (by (with_reducible repeat (first | refine blk_drewN ?_ _ | refine blk_drew ?_ | refine blk_alloc ?_ _));exact BK356.out)) (below_size (by repeat (first | (with_reducible first | exact HB.out | apply below_alloc | apply pw_below_drewN | apply below_drew1 | refine below_set ?_ GE330.out | refine below_set ?_ GE331.out | refine below_set ?_ GE350.out | refine below_set ?_ GE356.out) | exact HB.out))))
      have n5_:=Aside0.mk (blk_below (g:=gb330) (o:=.cells #[.int .i64 a0_0,.int .i64 a0_1,.slice A0_2 l0_2.length c0_2] 33 (0,0)) (by (with_reducible repeat (first | refine blk_drewN ?_ _ | refine blk_drew ?_ | refine blk_alloc ?_ _));exact BK330.out) hb)
      have n6_:=Aside0.mk (blk_below (g:=gb331) (o:=.cells #[.int .i64 a1_0,.int .i64 a1_1,.slice A1_2 l1_2.length c1_2] 33 (0,0)) (by (with_reducible repeat (first | refine blk_drewN ?_ _ | refine blk_drew ?_ | refine blk_alloc ?_ _));exact BK331.out) hb)
      have n7_:=Aside0.mk (blk_below (g:=gb350) (o:=.cells #[.int .i64 t345,.int .i64 t346,.slice Ao81 t347.length co81] 25 (0,0)) (by (with_reducible repeat (first | refine blk_drewN ?_ _ | refine blk_drew ?_ | refine blk_alloc ?_ _));exact BK350.out) hb)
      have n8_:=Aside0.mk (blk_below (g:=gb356) (o:=.cells #[.int .i64 t351,.int .i64 t352,.slice Ao89 t353.length co89] 25 (0,0)) (by (with_reducible repeat (first | refine blk_drewN ?_ _ | refine blk_drew ?_ | refine blk_alloc ?_ _));exact BK356.out) hb)
      have n9_:=Aside0.mk (below_step (by repeat (first | (with_reducible first | exact HB.out | apply below_alloc | apply pw_below_drewN | apply below_drew1 | refine below_set ?_ GE330.out | refine below_set ?_ GE331.out | refine below_set ?_ GE350.out | refine below_set ?_ GE356.out) | exact HB.out)) hb)
      clear HO338
      clear HO343
      clear HO349
      clear HO355
      clear BK330
      clear BK331
      clear BK350
      clear BK356
      clear HB
      have HO338:=n0_
      have HO343:=n1_
      have HO349:=n2_
      have HO355:=n3_
      have HO362:=n4_
      have BK330:=n5_
      have BK331:=n6_
      have BK350:=n7_
      have BK356:=n8_
      have HB:=n9_
      clear n0_ n1_ n2_ n3_ n4_ n5_ n6_ n7_ n8_ n9_
      (try clear hb)
      (try clear hb2)
      (try clear hk)
      (try clear hi)
      (try clear ho0)
      obtain ⟨Ao94,co94,eo94⟩:=Kd.R_slice HO362.out
      (first | subst eo94 | (injection eo94 with f1_ f2_ f3_;have f4_:=f1_.symm;have f5_:=f3_.symm;clear f1_ f2_ f3_;subst f4_;subst f5_))
      refine hK.out _ _ ⟨(blk_cell BK350.out 0).trans rfl,(blk_cell BK350.out 1).trans rfl,(blk_cell BK350.out 2).trans rfl,(blk_cell BK330.out 0).trans rfl,(blk_cell BK330.out 1).trans rfl,(blk_cell BK330.out 2).trans rfl⟩ (fun hHeld=>?_)
      clear hK K
      refine norm_ (a':=?_) ?_ ?_
      rotate_left
      ·show Act.put _ (some 37) _ = _
       simp only [Act.put,List.setIfInBounds_toArray,List.set_cons_zero,List.set_cons_succ,i64_w,i32_w]
       rfl
      refine one_ (i:=3) (N:=some 38) #[true,true,true,true,false] rfl rfl (by kernel_rfl) (by decide) (fun K hK=>?_)
      refine goes_ Tryd.func22 (by kernel_rfl) rfl #[.agg #[.int .i64 t345,.int .i64 t346,.slice Ao81 t347.length co81],.agg #[.int .i64 t358,.int .i64 t359,.slice Ao94 t360.length co94]] (by rfl) rfl rfl (by (try simp only [List.map_toArray,List.map_cons,List.map_nil]);first | done | rfl | (simp only [List.length_drop,List.length_take];rfl)) ?_
      with_reducible refine (laws_eqSeal.calls k t345 t346 _ _ t347 t358 t359 _ _ t360 true _ ?side1 ?side2 ?side3 ?side4 A57.out).mono ?_
      (case side1=>repeat (first | exact (Kd.R_reads' HO349.out).2.2 | (with_reducible refine Kd.C_alloc ?_ _) | (with_reducible refine Kd.C_drewN ?_ _) | (with_reducible refine Kd.C_drew ?_)))
      (case side2=>exact (Kd.R_reads' HO349.out).2.1)
      (case side3=>repeat (first | exact (Kd.R_reads' HO362.out).2.2 | (with_reducible refine Kd.C_alloc ?_ _) | (with_reducible refine Kd.C_drewN ?_ _) | (with_reducible refine Kd.C_drew ?_)))
      (case side4=>exact (Kd.R_reads' HO362.out).2.1)
      rintro e w95 ⟨rfl,hb⟩
      refine ⟨_,rfl,?_⟩
      have n0_:=Aside0.mk (Kd.R_below (by (with_reducible repeat (first | apply Kd.R_alloc | apply Kd.R_drewN | apply Kd.R_drew));exact HO338.out) hb)
      have n1_:=Aside0.mk (Kd.R_below (by (with_reducible repeat (first | apply Kd.R_alloc | apply Kd.R_drewN | apply Kd.R_drew));exact HO343.out) hb)
      have n2_:=Aside0.mk (Kd.R_below (by (with_reducible repeat (first | apply Kd.R_alloc | apply Kd.R_drewN | apply Kd.R_drew));exact HO349.out) hb)
      have n3_:=Aside0.mk (Kd.R_below (by (with_reducible repeat (first | apply Kd.R_alloc | apply Kd.R_drewN | apply Kd.R_drew));exact HO355.out) hb)
      have n4_:=Aside0.mk (Kd.R_below (by (with_reducible repeat (first | apply Kd.R_alloc | apply Kd.R_drewN | apply Kd.R_drew));exact HO362.out) hb)
      have n5_:=Aside0.mk (blk_below (g:=gb330) (o:=.cells #[.int .i64 a0_0,.int .i64 a0_1,.slice A0_2 l0_2.length c0_2] 33 (0,0)) (by (with_reducible repeat (first | refine blk_drewN ?_ _ | refine blk_drew ?_ | refine blk_alloc ?_ _));exact BK330.out) hb)
      have n6_:=Aside0.mk (blk_below (g:=gb331) (o:=.cells #[.int .i64 a1_0,.int .i64 a1_1,.slice A1_2 l1_2.length c1_2] 33 (0,0)) (by (with_reducible repeat (first | refine blk_drewN ?_ _ | refine blk_drew ?_ | refine blk_alloc ?_ _));exact BK331.out) hb)
      have n7_:=Aside0.mk (blk_below (g:=gb350) (o:=.cells #[.int .i64 t345,.int .i64 t346,.slice Ao81 t347.length co81] 25 (0,0)) (by (with_reducible repeat (first | refine blk_drewN ?_ _ | refine blk_drew ?_ | refine blk_alloc ?_ _));exact BK350.out) hb)
      have n8_:=Aside0.mk (blk_below (g:=gb356) (o:=.cells #[.int .i64 t351,.int .i64 t352,.slice Ao89 t353.length co89] 25 (0,0)) (by (with_reducible repeat (first | refine blk_drewN ?_ _ | refine blk_drew ?_ | refine blk_alloc ?_ _));exact BK356.out) hb)
      have n9_:=Aside0.mk (below_step (by repeat (first | (with_reducible first | exact HB.out | apply below_alloc | apply pw_below_drewN | apply below_drew1 | refine below_set ?_ GE330.out | refine below_set ?_ GE331.out | refine below_set ?_ GE350.out | refine below_set ?_ GE356.out) | exact HB.out)) hb)
      clear HO338
      clear HO343
      clear HO349
      clear HO355
      clear HO362
      clear BK330
      clear BK331
      clear BK350
      clear BK356
      clear HB
      have HO338:=n0_
      have HO343:=n1_
      have HO349:=n2_
      have HO355:=n3_
      have HO362:=n4_
      have BK330:=n5_
      have BK331:=n6_
      have BK350:=n7_
      have BK356:=n8_
      have HB:=n9_
      clear n0_ n1_ n2_ n3_ n4_ n5_ n6_ n7_ n8_ n9_
      (try clear hb)
      (try clear hb2)
      (try clear hk)
      (try clear hi)
      refine hK.out _ _ ⟨(blk_cell BK350.out 0).trans rfl,(blk_cell BK350.out 1).trans rfl,(blk_cell BK350.out 2).trans rfl,(blk_cell BK330.out 0).trans rfl,(blk_cell BK330.out 1).trans rfl,(blk_cell BK330.out 2).trans rfl⟩ (fun hHeld=>?_)
      clear hK K
      refine norm_ (a':=?_) ?_ ?_
      rotate_left
      ·show Act.put _ (some 38) _ = _
       simp only [Act.put,List.setIfInBounds_toArray,List.set_cons_zero,List.set_cons_succ,i64_w,i32_w]
       rfl
      refine pure_ (i:=4) (N:=some 39) (v:=?_) (a':=?_) #[true,true,true,true,true] rfl rfl (by kernel_rfl) (fun _ _ _ h=>h) (Or.inl ⟨by rfl,?_⟩) ?_ ?_
      rotate_left;·intro w';go_simp;with_reducible rfl
      rotate_left;·simp only [Act.put,List.setIfInBounds_toArray,List.set_cons_zero,List.set_cons_succ,i64_w,i32_w];rfl
      refine done_ (by kernel_rfl) ?_
      try go_wp2
      have n0_:=Aside0.mk (Kd.R_drew HO338.out)
      have n1_:=Aside0.mk (Kd.R_drew HO343.out)
      have n2_:=Aside0.mk (Kd.R_drew HO349.out)
      have n3_:=Aside0.mk (Kd.R_drew HO355.out)
      have n4_:=Aside0.mk (Kd.R_drew HO362.out)
      have n5_:=Aside0.mk (blk_drew BK330.out)
      have n6_:=Aside0.mk (blk_drew BK331.out)
      have n7_:=Aside0.mk (blk_drew BK350.out)
      have n8_:=Aside0.mk (blk_drew BK356.out)
      have n9_:=Aside0.mk (below_drew1 HB.out)
      clear HO338
      clear HO343
      clear HO349
      clear HO355
      clear HO362
      clear BK330
      clear BK331
      clear BK350
      clear BK356
      clear HB
      have HO338:=n0_
      have HO343:=n1_
      have HO349:=n2_
      have HO355:=n3_
      have HO362:=n4_
      have BK330:=n5_
      have BK331:=n6_
      have BK350:=n7_
      have BK356:=n8_
      have HB:=n9_
      clear n0_ n1_ n2_ n3_ n4_ n5_ n6_ n7_ n8_ n9_
      refine start_ (n:=5) (S:=fun w'=>w'.cell? ⟨gb356,0,none⟩ = some (.int .i64 t351)∧w'.cell? ⟨gb356,1,none⟩ = some (.int .i64 t352)∧w'.cell? ⟨gb356,2,none⟩ = some (.slice Ao89 t353.length co89)∧w'.cell? ⟨gb331,0,none⟩ = some (.int .i64 a1_0)∧w'.cell? ⟨gb331,1,none⟩ = some (.int .i64 a1_1)∧w'.cell? ⟨gb331,2,none⟩ = some (.slice A1_2 l1_2.length c1_2)) (ds:=[]) #[false,false,false,false,false] (by kernel_rfl) rfl rfl ⟨(blk_cell BK356.out 0).trans rfl,(blk_cell BK356.out 1).trans rfl,(blk_cell BK356.out 2).trans rfl,(blk_cell BK331.out 0).trans rfl,(blk_cell BK331.out 1).trans rfl,(blk_cell BK331.out 2).trans rfl⟩ (fun hHeld=>?_)
      generalize w95.drew = w96 at HO338 HO343 HO349 HO355 HO362 BK330 BK331 BK350 BK356 HB hHeld ⊢
      refine take_ (i:=0) (N:=some 40) (v:=?_) (a':=?_) #[true,false,false,false,false] rfl rfl (by kernel_rfl) (fun _ _ _ h=>h) (Or.inl ⟨by rfl,?_⟩) hHeld ?_ ?_
      rotate_left;·rintro w' ⟨s0,s1,s2,s3,s4,s5⟩;go_simp;with_reducible rfl
      rotate_left;·simp only [Act.put,List.setIfInBounds_toArray,List.set_cons_zero,List.set_cons_succ,i64_w,i32_w];rfl
      refine take_ (i:=1) (N:=some 41) (v:=?_) (a':=?_) #[true,true,false,false,false] rfl rfl (by kernel_rfl) (fun _ _ _ h=>h) (Or.inl ⟨by rfl,?_⟩) hHeld ?_ ?_
      rotate_left;·rintro w' ⟨s0,s1,s2,s3,s4,s5⟩;go_simp;with_reducible rfl
      rotate_left;·simp only [Act.put,List.setIfInBounds_toArray,List.set_cons_zero,List.set_cons_succ,i64_w,i32_w];rfl
      refine one_ (i:=2) (N:=some 42) #[true,true,true,false,false] rfl rfl (by kernel_rfl) (by decide) (fun K hK=>?_)
      refine goes_ Tryd.func21 (by kernel_rfl) rfl #[.agg #[.int .i64 a1_0,.int .i64 a1_1,.slice A1_2 l1_2.length c1_2]] (by rfl) rfl rfl (by (try simp only [List.map_toArray,List.map_cons,List.map_nil]);first | done | rfl | (simp only [List.length_drop,List.length_take];rfl)) ?_
      with_reducible refine (laws_toSeal.calls k a1_0 a1_1 _ _ l1_2 t364 t365 t366 _ ?side1 ?side2 A59.out).mono ?_
      (case side1=>repeat (first | exact (Kd.C_below HR1_2.out HB.out) | (with_reducible refine Kd.C_alloc ?_ _) | (with_reducible refine Kd.C_drewN ?_ _) | (with_reducible refine Kd.C_drew ?_)))
      (case side2=>exact HC1_2.out)
      rintro e w97 ⟨v367,rfl,ho0,hb⟩
      refine ⟨_,rfl,?_⟩
      have n0_:=Aside0.mk (Kd.R_elder' (by (with_reducible repeat (first | apply Kd.R_alloc | apply Kd.R_drewN | apply Kd.R_drew));exact HO338.out) (Kd.R_base ho0) hb)
      have n1_:=Aside0.mk (Kd.R_elder' (by (with_reducible repeat (first | apply Kd.R_alloc | apply Kd.R_drewN | apply Kd.R_drew));exact HO343.out) (Kd.R_base ho0) hb)
      have n2_:=Aside0.mk (Kd.R_elder' (by (with_reducible repeat (first | apply Kd.R_alloc | apply Kd.R_drewN | apply Kd.R_drew));exact HO349.out) (Kd.R_base ho0) hb)
      have n3_:=Aside0.mk (Kd.R_elder' (by (with_reducible repeat (first | apply Kd.R_alloc | apply Kd.R_drewN | apply Kd.R_drew));exact HO355.out) (Kd.R_base ho0) hb)
      have n4_:=Aside0.mk (Kd.R_elder' (by (with_reducible repeat (first | apply Kd.R_alloc | apply Kd.R_drewN | apply Kd.R_drew));exact HO362.out) (Kd.R_base ho0) hb)
      have n5_:=Aside0.mk (Kd.R_lower (Kd.R_newB (Kd.R_newB (Kd.R_new' (Kd.R_new' (Kd.R_new' (Kd.R_new' (Kd.R_new' ho0 (Kd.R_lt (by (with_reducible repeat (first | apply Kd.R_alloc | apply Kd.R_drewN | apply Kd.R_drew));exact HO338.out))) (Kd.R_lt (by (with_reducible repeat (first | apply Kd.R_alloc | apply Kd.R_drewN | apply Kd.R_drew));exact HO343.out))) (Kd.R_lt (by (with_reducible repeat (first | apply Kd.R_alloc | apply Kd.R_drewN | apply Kd.R_drew));exact HO349.out))) (Kd.R_lt (by (with_reducible repeat (first | apply Kd.R_alloc | apply Kd.R_drewN | apply Kd.R_drew));exact HO355.out))) (Kd.R_lt (by (with_reducible repeat (first | apply Kd.R_alloc | apply Kd.R_drewN | apply Kd.R_drew));exact HO362.out))) (g:=gb350) (o:=.cells #[.int .i64 t345,.int .i64 t346,.slice Ao81 t347.length co81] 25 (0,0)) (by (with_reducible repeat (first | refine blk_drewN ?_ _ | refine blk_drew ?_ | refine blk_alloc ?_ _));exact BK350.out)) (g:=gb356) (o:=.cells #[.int .i64 t351,.int .i64 t352,.slice Ao89 t353.length co89] 25 (0,0)) (by (with_reducible repeat (first | refine blk_drewN ?_ _ | refine blk_drew ?_ | refine blk_alloc ?_ _));exact BK356.out)) (below_size (by repeat (first | (with_reducible first | exact HB.out | apply below_alloc | apply pw_below_drewN | apply below_drew1 | refine below_set ?_ GE330.out | refine below_set ?_ GE331.out | refine below_set ?_ GE350.out | refine below_set ?_ GE356.out) | exact HB.out))))
      have n6_:=Aside0.mk (blk_below (g:=gb330) (o:=.cells #[.int .i64 a0_0,.int .i64 a0_1,.slice A0_2 l0_2.length c0_2] 33 (0,0)) (by (with_reducible repeat (first | refine blk_drewN ?_ _ | refine blk_drew ?_ | refine blk_alloc ?_ _));exact BK330.out) hb)
      have n7_:=Aside0.mk (blk_below (g:=gb331) (o:=.cells #[.int .i64 a1_0,.int .i64 a1_1,.slice A1_2 l1_2.length c1_2] 33 (0,0)) (by (with_reducible repeat (first | refine blk_drewN ?_ _ | refine blk_drew ?_ | refine blk_alloc ?_ _));exact BK331.out) hb)
      have n8_:=Aside0.mk (blk_below (g:=gb350) (o:=.cells #[.int .i64 t345,.int .i64 t346,.slice Ao81 t347.length co81] 25 (0,0)) (by (with_reducible repeat (first | refine blk_drewN ?_ _ | refine blk_drew ?_ | refine blk_alloc ?_ _));exact BK350.out) hb)
      have n9_:=Aside0.mk (blk_below (g:=gb356) (o:=.cells #[.int .i64 t351,.int .i64 t352,.slice Ao89 t353.length co89] 25 (0,0)) (by (with_reducible repeat (first | refine blk_drewN ?_ _ | refine blk_drew ?_ | refine blk_alloc ?_ _));exact BK356.out) hb)
      have n10_:=Aside0.mk (below_step (by repeat (first | (with_reducible first | exact HB.out | apply below_alloc | apply pw_below_drewN | apply below_drew1 | refine below_set ?_ GE330.out | refine below_set ?_ GE331.out | refine below_set ?_ GE350.out | refine below_set ?_ GE356.out) | exact HB.out)) hb)
      clear HO338
      clear HO343
      clear HO349
      clear HO355
      clear HO362
      clear BK330
      clear BK331
      clear BK350
      clear BK356
      clear HB
      have HO338:=n0_
      have HO343:=n1_
      have HO349:=n2_
      have HO355:=n3_
      have HO362:=n4_
      have HO368:=n5_
      have BK330:=n6_
      have BK331:=n7_
      have BK350:=n8_
      have BK356:=n9_
      have HB:=n10_
      clear n0_ n1_ n2_ n3_ n4_ n5_ n6_ n7_ n8_ n9_ n10_
      (try clear hb)
      (try clear hb2)
      (try clear hk)
      (try clear hi)
      (try clear ho0)
      obtain ⟨Ao98,co98,eo98⟩:=Kd.R_slice HO368.out
      (first | subst eo98 | (injection eo98 with f1_ f2_ f3_;have f4_:=f1_.symm;have f5_:=f3_.symm;clear f1_ f2_ f3_;subst f4_;subst f5_))
      refine hK.out _ _ ⟨(blk_cell BK356.out 0).trans rfl,(blk_cell BK356.out 1).trans rfl,(blk_cell BK356.out 2).trans rfl,(blk_cell BK331.out 0).trans rfl,(blk_cell BK331.out 1).trans rfl,(blk_cell BK331.out 2).trans rfl⟩ (fun hHeld=>?_)
      clear hK K
      refine norm_ (a':=?_) ?_ ?_
      rotate_left
      ·show Act.put _ (some 42) _ = _
       simp only [Act.put,List.setIfInBounds_toArray,List.set_cons_zero,List.set_cons_succ,i64_w,i32_w]
       rfl
      refine one_ (i:=3) (N:=some 43) #[true,true,true,true,false] rfl rfl (by kernel_rfl) (by decide) (fun K hK=>?_)
      refine goes_ Tryd.func22 (by kernel_rfl) rfl #[.agg #[.int .i64 t351,.int .i64 t352,.slice Ao89 t353.length co89],.agg #[.int .i64 t364,.int .i64 t365,.slice Ao98 t366.length co98]] (by rfl) rfl rfl (by (try simp only [List.map_toArray,List.map_cons,List.map_nil]);first | done | rfl | (simp only [List.length_drop,List.length_take];rfl)) ?_
      with_reducible refine (laws_eqSeal.calls k t351 t352 _ _ t353 t364 t365 _ _ t366 true _ ?side1 ?side2 ?side3 ?side4 A60.out).mono ?_
      (case side1=>repeat (first | exact (Kd.R_reads' HO355.out).2.2 | (with_reducible refine Kd.C_alloc ?_ _) | (with_reducible refine Kd.C_drewN ?_ _) | (with_reducible refine Kd.C_drew ?_)))
      (case side2=>exact (Kd.R_reads' HO355.out).2.1)
      (case side3=>repeat (first | exact (Kd.R_reads' HO368.out).2.2 | (with_reducible refine Kd.C_alloc ?_ _) | (with_reducible refine Kd.C_drewN ?_ _) | (with_reducible refine Kd.C_drew ?_)))
      (case side4=>exact (Kd.R_reads' HO368.out).2.1)
      rintro e w99 ⟨rfl,hb⟩
      refine ⟨_,rfl,?_⟩
      have n0_:=Aside0.mk (Kd.R_below (by (with_reducible repeat (first | apply Kd.R_alloc | apply Kd.R_drewN | apply Kd.R_drew));exact HO338.out) hb)
      have n1_:=Aside0.mk (Kd.R_below (by (with_reducible repeat (first | apply Kd.R_alloc | apply Kd.R_drewN | apply Kd.R_drew));exact HO343.out) hb)
      have n2_:=Aside0.mk (Kd.R_below (by (with_reducible repeat (first | apply Kd.R_alloc | apply Kd.R_drewN | apply Kd.R_drew));exact HO349.out) hb)
      have n3_:=Aside0.mk (Kd.R_below (by (with_reducible repeat (first | apply Kd.R_alloc | apply Kd.R_drewN | apply Kd.R_drew));exact HO355.out) hb)
      have n4_:=Aside0.mk (Kd.R_below (by (with_reducible repeat (first | apply Kd.R_alloc | apply Kd.R_drewN | apply Kd.R_drew));exact HO362.out) hb)
      have n5_:=Aside0.mk (Kd.R_below (by (with_reducible repeat (first | apply Kd.R_alloc | apply Kd.R_drewN | apply Kd.R_drew));exact HO368.out) hb)
      have n6_:=Aside0.mk (blk_below (g:=gb330) (o:=.cells #[.int .i64 a0_0,.int .i64 a0_1,.slice A0_2 l0_2.length c0_2] 33 (0,0)) (by (with_reducible repeat (first | refine blk_drewN ?_ _ | refine blk_drew ?_ | refine blk_alloc ?_ _));exact BK330.out) hb)
      have n7_:=Aside0.mk (blk_below (g:=gb331) (o:=.cells #[.int .i64 a1_0,.int .i64 a1_1,.slice A1_2 l1_2.length c1_2] 33 (0,0)) (by (with_reducible repeat (first | refine blk_drewN ?_ _ | refine blk_drew ?_ | refine blk_alloc ?_ _));exact BK331.out) hb)
      have n8_:=Aside0.mk (blk_below (g:=gb350) (o:=.cells #[.int .i64 t345,.int .i64 t346,.slice Ao81 t347.length co81] 25 (0,0)) (by (with_reducible repeat (first | refine blk_drewN ?_ _ | refine blk_drew ?_ | refine blk_alloc ?_ _));exact BK350.out) hb)
      have n9_:=Aside0.mk (blk_below (g:=gb356) (o:=.cells #[.int .i64 t351,.int .i64 t352,.slice Ao89 t353.length co89] 25 (0,0)) (by (with_reducible repeat (first | refine blk_drewN ?_ _ | refine blk_drew ?_ | refine blk_alloc ?_ _));exact BK356.out) hb)
      have n10_:=Aside0.mk (below_step (by repeat (first | (with_reducible first | exact HB.out | apply below_alloc | apply pw_below_drewN | apply below_drew1 | refine below_set ?_ GE330.out | refine below_set ?_ GE331.out | refine below_set ?_ GE350.out | refine below_set ?_ GE356.out) | exact HB.out)) hb)
      clear HO338
      clear HO343
      clear HO349
      clear HO355
      clear HO362
      clear HO368
      clear BK330
      clear BK331
      clear BK350
      clear BK356
      clear HB
      have HO338:=n0_
      have HO343:=n1_
      have HO349:=n2_
      have HO355:=n3_
      have HO362:=n4_
      have HO368:=n5_
      have BK330:=n6_
      have BK331:=n7_
      have BK350:=n8_
      have BK356:=n9_
      have HB:=n10_
      clear n0_ n1_ n2_ n3_ n4_ n5_ n6_ n7_ n8_ n9_ n10_
      (try clear hb)
      (try clear hb2)
      (try clear hk)
      (try clear hi)
      refine hK.out _ _ ⟨(blk_cell BK356.out 0).trans rfl,(blk_cell BK356.out 1).trans rfl,(blk_cell BK356.out 2).trans rfl,(blk_cell BK331.out 0).trans rfl,(blk_cell BK331.out 1).trans rfl,(blk_cell BK331.out 2).trans rfl⟩ (fun hHeld=>?_)
      clear hK K
      refine norm_ (a':=?_) ?_ ?_
      rotate_left
      ·show Act.put _ (some 43) _ = _
       simp only [Act.put,List.setIfInBounds_toArray,List.set_cons_zero,List.set_cons_succ,i64_w,i32_w]
       rfl
      refine pure_ (i:=4) (N:=some 44) (v:=?_) (a':=?_) #[true,true,true,true,true] rfl rfl (by kernel_rfl) (fun _ _ _ h=>h) (Or.inl ⟨by rfl,?_⟩) ?_ ?_
      rotate_left;·intro w';go_simp;with_reducible rfl
      rotate_left;·simp only [Act.put,List.setIfInBounds_toArray,List.set_cons_zero,List.set_cons_succ,i64_w,i32_w];rfl
      refine done_ (by kernel_rfl) ?_
      try go_wp2
      go_ret
      exact ⟨by first | rfl | (simp [errW_none,errW_some] <;> rfl) | (simp [*,errW_none,errW_some] <;> rfl),by repeat (first | (with_reducible first | exact HB.out | apply below_alloc | apply pw_below_drewN | apply below_drew1 | refine below_set ?_ GE330.out | refine below_set ?_ GE331.out | refine below_set ?_ GE350.out | refine below_set ?_ GE356.out) | exact HB.out)⟩
     ·replace c61:=Bool.eq_false_iff.mpr c61
      subst c61
      have H1:(some false) = some r:=by rw [if_neg (show ¬ (false = true) by decide)] at H;exact H
      clear H
      have H:=H1
      clear H1
      obtain rfl:=Option.some.inj H
      go_enter Tryd.func6,Tryd.ntmps6
      try go_wp2_with (first | ((with_reducible refine gate_dst (N:=2) rfl ?_);refine box_event ?hg (N:=2) ?hd (cs:=#[.int .i64 a0_0,.int .i64 a0_1,.slice A0_2 l0_2.length c0_2]) (t:=33) ?hr ?_;(case hd=>rfl);(case hg=>rfl);(case hr=>first | (go_simp;done) | (go_simp;rfl));intro gb330 hg w100 hbox hb;have n0_:=Aside0.mk (below_step (by repeat (first | (with_reducible first | exact HB.out | apply below_alloc | apply pw_below_drewN | apply below_drew1) | exact HB.out)) hb);have n1_:=Aside0.mk (hbox);have n2_:=Aside0.mk ((by rw [hg];exact (below_size (by repeat (first | (with_reducible first | exact HB.out | apply below_alloc | apply pw_below_drewN | apply below_drew1) | exact HB.out))):w.heap.size ≤ gb330));have n3_:=Aside0.mk ((by rw [hg];exact (below_size (by repeat (first | (with_reducible first | exact HB.out | apply below_alloc | apply pw_below_drewN | apply below_drew1) | exact HB.out))):w.heap.size ≤ gb330));clear HB;have HB:=n0_;have BK330:=n1_;have GW330:=n2_;have GE330:=n3_;clear n0_ n1_ n2_ n3_;clear hb hbox hg) | ((with_reducible refine gate_dst (N:=3) rfl ?_);refine box_event ?hg (N:=3) ?hd (cs:=#[.int .i64 a1_0,.int .i64 a1_1,.slice A1_2 l1_2.length c1_2]) (t:=33) ?hr ?_;(case hd=>rfl);(case hg=>rfl);(case hr=>first | (go_simp;done) | (go_simp;rfl));intro gb331 hg w101 hbox hb;have n0_:=Aside0.mk (blk_below (g:=gb330) (o:=.cells #[.int .i64 a0_0,.int .i64 a0_1,.slice A0_2 l0_2.length c0_2] 33 (0,0)) (by (with_reducible repeat (first | refine blk_drewN ?_ _ | refine blk_drew ?_ | refine blk_alloc ?_ _));exact BK330.out) hb);have n1_:=Aside0.mk (below_step (by repeat (first | (with_reducible first | exact HB.out | apply below_alloc | apply pw_below_drewN | apply below_drew1 | refine below_set ?_ GE330.out) | exact HB.out)) hb);have n2_:=Aside0.mk (hbox);have n3_:=Aside0.mk ((by rw [hg];exact (below_size (by repeat (first | (with_reducible first | exact HB.out | apply below_alloc | apply pw_below_drewN | apply below_drew1 | refine below_set ?_ GE330.out) | exact HB.out))):w.heap.size ≤ gb331));have n4_:=Aside0.mk ((by rw [hg];exact (below_size (by repeat (first | (with_reducible first | exact HB.out | apply below_alloc | apply pw_below_drewN | apply below_drew1 | refine below_set ?_ GE330.out) | exact HB.out))):w.heap.size ≤ gb331));have n5_:=Aside0.mk ((by rw [hg];exact Nat.ne_of_lt (blk_lt (g:=gb330) (o:=.cells #[.int .i64 a0_0,.int .i64 a0_1,.slice A0_2 l0_2.length c0_2] 33 (0,0)) (by (with_reducible repeat (first | refine blk_drewN ?_ _ | refine blk_drew ?_ | refine blk_alloc ?_ _));exact BK330.out)):gb330 ≠ gb331));have n6_:=Aside0.mk ((by rw [hg];exact Nat.ne_of_gt (blk_lt (g:=gb330) (o:=.cells #[.int .i64 a0_0,.int .i64 a0_1,.slice A0_2 l0_2.length c0_2] 33 (0,0)) (by (with_reducible repeat (first | refine blk_drewN ?_ _ | refine blk_drew ?_ | refine blk_alloc ?_ _));exact BK330.out)):gb331 ≠ gb330));clear BK330;clear HB;have BK330:=n0_;have HB:=n1_;have BK331:=n2_;have GW331:=n3_;have GE331:=n4_;have NB330_331:=n5_;have NB331_330:=n6_;clear n0_ n1_ n2_ n3_ n4_ n5_ n6_;clear hb hbox hg;have hnb102:=NB330_331.out;have hnc102:=NB331_330.out;have hcz103_0:w101.cell? ⟨gb330,0,none⟩ = some (.int .i64 a0_0):=(blk_cell BK330.out 0).trans rfl;have hcz103_1:w101.cell? ⟨gb330,1,none⟩ = some (.int .i64 a0_1):=(blk_cell BK330.out 1).trans rfl;have hcz103_2:w101.cell? ⟨gb330,2,none⟩ = some (.slice A0_2 l0_2.length c0_2):=(blk_cell BK330.out 2).trans rfl;have hfz103_0:=blk_frozen BK330.out 0;have hfz103_1:=blk_frozen BK330.out 1;have hfz103_2:=blk_frozen BK330.out 2) | ((with_reducible refine gate_callee (f:=20) rfl ?_);refine goesL_ (some 12) rfl rfl Tryd.func20 (by kernel_rfl) rfl #[.agg #[.int .i64 a0_0,.int .i64 a0_1,.slice A0_2 l0_2.length c0_2],.int .i64 1048576] rfl (by (try simp only [List.map_toArray,List.map_cons,List.map_nil]);first | done | rfl | (simp only [List.length_drop,List.length_take];rfl)) ?_;(with_reducible refine (laws_szSeal.calls k a0_0 a0_1 _ _ l0_2 1048576 t332 _ ?side1 ?side2 A3.out).mono ?_);(case side1=>repeat (first | exact (Kd.C_below HR0_2.out HB.out) | (with_reducible refine Kd.C_alloc ?_ _) | (with_reducible refine Kd.C_drewN ?_ _) | (with_reducible refine Kd.C_drew ?_)));(case side2=>exact HC0_2.out);rintro e w104 ⟨rfl,hb⟩;refine ⟨_,rfl,?_⟩;have n0_:=Aside0.mk (blk_below (g:=gb330) (o:=.cells #[.int .i64 a0_0,.int .i64 a0_1,.slice A0_2 l0_2.length c0_2] 33 (0,0)) (by (with_reducible repeat (first | refine blk_drewN ?_ _ | refine blk_drew ?_ | refine blk_alloc ?_ _));exact BK330.out) hb);have n1_:=Aside0.mk (blk_below (g:=gb331) (o:=.cells #[.int .i64 a1_0,.int .i64 a1_1,.slice A1_2 l1_2.length c1_2] 33 (0,0)) (by (with_reducible repeat (first | refine blk_drewN ?_ _ | refine blk_drew ?_ | refine blk_alloc ?_ _));exact BK331.out) hb);have n2_:=Aside0.mk (below_step (by repeat (first | (with_reducible first | exact HB.out | apply below_alloc | apply pw_below_drewN | apply below_drew1 | refine below_set ?_ GE330.out | refine below_set ?_ GE331.out) | exact HB.out)) hb);clear BK330;clear BK331;clear HB;have BK330:=n0_;have BK331:=n1_;have HB:=n2_;clear n0_ n1_ n2_;(try clear hb);(try clear hb2);(try clear hk);(try clear hi);have hcz105_0:w104.cell? ⟨gb331,0,none⟩ = some (.int .i64 a1_0):=(blk_cell BK331.out 0).trans rfl;have hcz105_1:w104.cell? ⟨gb331,1,none⟩ = some (.int .i64 a1_1):=(blk_cell BK331.out 1).trans rfl;have hcz105_2:w104.cell? ⟨gb331,2,none⟩ = some (.slice A1_2 l1_2.length c1_2):=(blk_cell BK331.out 2).trans rfl;have hfz105_0:=blk_frozen BK331.out 0;have hfz105_1:=blk_frozen BK331.out 1;have hfz105_2:=blk_frozen BK331.out 2) | ((with_reducible refine gate_callee (f:=20) rfl ?_);refine goesL_ (some 17) rfl rfl Tryd.func20 (by kernel_rfl) rfl #[.agg #[.int .i64 a1_0,.int .i64 a1_1,.slice A1_2 l1_2.length c1_2],.int .i64 t332] rfl (by (try simp only [List.map_toArray,List.map_cons,List.map_nil]);first | done | rfl | (simp only [List.length_drop,List.length_take];rfl)) ?_;(with_reducible refine (laws_szSeal.calls k a1_0 a1_1 _ _ l1_2 t332 t333 _ ?side1 ?side2 A10.out).mono ?_);(case side1=>repeat (first | exact (Kd.C_below HR1_2.out HB.out) | (with_reducible refine Kd.C_alloc ?_ _) | (with_reducible refine Kd.C_drewN ?_ _) | (with_reducible refine Kd.C_drew ?_)));(case side2=>exact HC1_2.out);rintro e w106 ⟨rfl,hb⟩;refine ⟨_,rfl,?_⟩;have n0_:=Aside0.mk (blk_below (g:=gb330) (o:=.cells #[.int .i64 a0_0,.int .i64 a0_1,.slice A0_2 l0_2.length c0_2] 33 (0,0)) (by (with_reducible repeat (first | refine blk_drewN ?_ _ | refine blk_drew ?_ | refine blk_alloc ?_ _));exact BK330.out) hb);have n1_:=Aside0.mk (blk_below (g:=gb331) (o:=.cells #[.int .i64 a1_0,.int .i64 a1_1,.slice A1_2 l1_2.length c1_2] 33 (0,0)) (by (with_reducible repeat (first | refine blk_drewN ?_ _ | refine blk_drew ?_ | refine blk_alloc ?_ _));exact BK331.out) hb);have n2_:=Aside0.mk (below_step (by repeat (first | (with_reducible first | exact HB.out | apply below_alloc | apply pw_below_drewN | apply below_drew1 | refine below_set ?_ GE330.out | refine below_set ?_ GE331.out) | exact HB.out)) hb);clear BK330;clear BK331;clear HB;have BK330:=n0_;have BK331:=n1_;have HB:=n2_;clear n0_ n1_ n2_;(try clear hb);(try clear hb2);(try clear hk);(try clear hi)))
      have n0_:=Aside0.mk (blk_drew BK330.out)
      have n1_:=Aside0.mk (blk_drew BK331.out)
      have n2_:=Aside0.mk (below_drew1 HB.out)
      clear BK330
      clear BK331
      clear HB
      have BK330:=n0_
      have BK331:=n1_
      have HB:=n2_
      clear n0_ n1_ n2_
      refine start_ (n:=6) (S:=fun w'=>w'.cell? ⟨gb330,0,none⟩ = some (.int .i64 a0_0)∧w'.cell? ⟨gb330,1,none⟩ = some (.int .i64 a0_1)∧w'.cell? ⟨gb330,2,none⟩ = some (.slice A0_2 l0_2.length c0_2)∧w'.cell? ⟨gb331,0,none⟩ = some (.int .i64 a1_0)∧w'.cell? ⟨gb331,1,none⟩ = some (.int .i64 a1_1)∧w'.cell? ⟨gb331,2,none⟩ = some (.slice A1_2 l1_2.length c1_2)) (ds:=[]) #[false,false,false,false,false,false] (by kernel_rfl) rfl rfl ⟨(blk_cell BK330.out 0).trans rfl,(blk_cell BK330.out 1).trans rfl,(blk_cell BK330.out 2).trans rfl,(blk_cell BK331.out 0).trans rfl,(blk_cell BK331.out 1).trans rfl,(blk_cell BK331.out 2).trans rfl⟩ (fun hHeld=>?_)
      generalize w106.drew = w107 at BK330 BK331 HB hHeld ⊢
      refine take_ (i:=0) (N:=some 20) (v:=?_) (a':=?_) #[true,false,false,false,false,false] rfl rfl (by kernel_rfl) (fun _ _ _ h=>h) (Or.inl ⟨by rfl,?_⟩) hHeld ?_ ?_
      rotate_left;·rintro w' ⟨s0,s1,s2,s3,s4,s5⟩;go_simp;with_reducible rfl
      rotate_left;·simp only [Act.put,List.setIfInBounds_toArray,List.set_cons_zero,List.set_cons_succ,i64_w,i32_w];rfl
      refine take_ (i:=2) (N:=some 22) (v:=?_) (a':=?_) #[true,false,true,false,false,false] rfl rfl (by kernel_rfl) (fun _ _ _ h=>h) (Or.inl ⟨by rfl,?_⟩) hHeld ?_ ?_
      rotate_left;·rintro w' ⟨s0,s1,s2,s3,s4,s5⟩;go_simp;with_reducible rfl
      rotate_left;·simp only [Act.put,List.setIfInBounds_toArray,List.set_cons_zero,List.set_cons_succ,i64_w,i32_w];rfl
      refine one_ (i:=1) (N:=some 21) #[true,true,true,false,false,false] rfl rfl (by kernel_rfl) (by decide) (fun K hK=>?_)
      refine goes_ Tryd.func21 (by kernel_rfl) rfl #[.agg #[.int .i64 a0_0,.int .i64 a0_1,.slice A0_2 l0_2.length c0_2]] (by rfl) rfl rfl (by (try simp only [List.map_toArray,List.map_cons,List.map_nil]);first | done | rfl | (simp only [List.length_drop,List.length_take];rfl)) ?_
      with_reducible refine (laws_toSeal.calls k a0_0 a0_1 _ _ l0_2 t334 t335 t336 _ ?side1 ?side2 A19.out).mono ?_
      (case side1=>repeat (first | exact (Kd.C_below HR0_2.out HB.out) | (with_reducible refine Kd.C_alloc ?_ _) | (with_reducible refine Kd.C_drewN ?_ _) | (with_reducible refine Kd.C_drew ?_)))
      (case side2=>exact HC0_2.out)
      rintro e w108 ⟨v337,rfl,ho0,hb⟩
      refine ⟨_,rfl,?_⟩
      have n0_:=Aside0.mk (Kd.R_lower ho0 (below_size (by repeat (first | (with_reducible first | exact HB.out | apply below_alloc | apply pw_below_drewN | apply below_drew1 | refine below_set ?_ GE330.out | refine below_set ?_ GE331.out) | exact HB.out))))
      have n1_:=Aside0.mk (blk_below (g:=gb330) (o:=.cells #[.int .i64 a0_0,.int .i64 a0_1,.slice A0_2 l0_2.length c0_2] 33 (0,0)) (by (with_reducible repeat (first | refine blk_drewN ?_ _ | refine blk_drew ?_ | refine blk_alloc ?_ _));exact BK330.out) hb)
      have n2_:=Aside0.mk (blk_below (g:=gb331) (o:=.cells #[.int .i64 a1_0,.int .i64 a1_1,.slice A1_2 l1_2.length c1_2] 33 (0,0)) (by (with_reducible repeat (first | refine blk_drewN ?_ _ | refine blk_drew ?_ | refine blk_alloc ?_ _));exact BK331.out) hb)
      have n3_:=Aside0.mk (below_step (by repeat (first | (with_reducible first | exact HB.out | apply below_alloc | apply pw_below_drewN | apply below_drew1 | refine below_set ?_ GE330.out | refine below_set ?_ GE331.out) | exact HB.out)) hb)
      clear BK330
      clear BK331
      clear HB
      have HO338:=n0_
      have BK330:=n1_
      have BK331:=n2_
      have HB:=n3_
      clear n0_ n1_ n2_ n3_
      (try clear hb)
      (try clear hb2)
      (try clear hk)
      (try clear hi)
      (try clear ho0)
      refine hK.out _ _ ⟨(blk_cell BK330.out 0).trans rfl,(blk_cell BK330.out 1).trans rfl,(blk_cell BK330.out 2).trans rfl,(blk_cell BK331.out 0).trans rfl,(blk_cell BK331.out 1).trans rfl,(blk_cell BK331.out 2).trans rfl⟩ (fun hHeld=>?_)
      clear hK K
      refine norm_ (a':=?_) ?_ ?_
      rotate_left
      ·show Act.put _ (some 21) _ = _
       simp only [Act.put,List.setIfInBounds_toArray,List.set_cons_zero,List.set_cons_succ,i64_w,i32_w]
       rfl
      refine one_ (i:=3) (N:=some 23) #[true,true,true,true,false,false] rfl rfl (by kernel_rfl) (by decide) (fun K hK=>?_)
      refine goes_ Tryd.func21 (by kernel_rfl) rfl #[.agg #[.int .i64 a1_0,.int .i64 a1_1,.slice A1_2 l1_2.length c1_2]] (by rfl) rfl rfl (by (try simp only [List.map_toArray,List.map_cons,List.map_nil]);first | done | rfl | (simp only [List.length_drop,List.length_take];rfl)) ?_
      with_reducible refine (laws_toSeal.calls k a1_0 a1_1 _ _ l1_2 t339 t340 t341 _ ?side1 ?side2 A20.out).mono ?_
      (case side1=>repeat (first | exact (Kd.C_below HR1_2.out HB.out) | (with_reducible refine Kd.C_alloc ?_ _) | (with_reducible refine Kd.C_drewN ?_ _) | (with_reducible refine Kd.C_drew ?_)))
      (case side2=>exact HC1_2.out)
      rintro e w109 ⟨v342,rfl,ho0,hb⟩
      refine ⟨_,rfl,?_⟩
      have n0_:=Aside0.mk (Kd.R_elder' (by (with_reducible repeat (first | apply Kd.R_alloc | apply Kd.R_drewN | apply Kd.R_drew));exact HO338.out) (Kd.R_base ho0) hb)
      have n1_:=Aside0.mk (Kd.R_lower (Kd.R_new' ho0 (Kd.R_lt (by (with_reducible repeat (first | apply Kd.R_alloc | apply Kd.R_drewN | apply Kd.R_drew));exact HO338.out))) (below_size (by repeat (first | (with_reducible first | exact HB.out | apply below_alloc | apply pw_below_drewN | apply below_drew1 | refine below_set ?_ GE330.out | refine below_set ?_ GE331.out) | exact HB.out))))
      have n2_:=Aside0.mk (blk_below (g:=gb330) (o:=.cells #[.int .i64 a0_0,.int .i64 a0_1,.slice A0_2 l0_2.length c0_2] 33 (0,0)) (by (with_reducible repeat (first | refine blk_drewN ?_ _ | refine blk_drew ?_ | refine blk_alloc ?_ _));exact BK330.out) hb)
      have n3_:=Aside0.mk (blk_below (g:=gb331) (o:=.cells #[.int .i64 a1_0,.int .i64 a1_1,.slice A1_2 l1_2.length c1_2] 33 (0,0)) (by (with_reducible repeat (first | refine blk_drewN ?_ _ | refine blk_drew ?_ | refine blk_alloc ?_ _));exact BK331.out) hb)
      have n4_:=Aside0.mk (below_step (by repeat (first | (with_reducible first | exact HB.out | apply below_alloc | apply pw_below_drewN | apply below_drew1 | refine below_set ?_ GE330.out | refine below_set ?_ GE331.out) | exact HB.out)) hb)
      clear HO338
      clear BK330
      clear BK331
      clear HB
      have HO338:=n0_
      have HO343:=n1_
      have BK330:=n2_
      have BK331:=n3_
      have HB:=n4_
      clear n0_ n1_ n2_ n3_ n4_
      (try clear hb)
      (try clear hb2)
      (try clear hk)
      (try clear hi)
      (try clear ho0)
      obtain ⟨Ao110,co110,eo110⟩:=Kd.R_slice HO338.out
      (first | subst eo110 | (injection eo110 with f1_ f2_ f3_;have f4_:=f1_.symm;have f5_:=f3_.symm;clear f1_ f2_ f3_;subst f4_;subst f5_))
      obtain ⟨Ao111,co111,eo111⟩:=Kd.R_slice HO343.out
      (first | subst eo111 | (injection eo111 with f1_ f2_ f3_;have f4_:=f1_.symm;have f5_:=f3_.symm;clear f1_ f2_ f3_;subst f4_;subst f5_))
      refine hK.out _ _ ⟨(blk_cell BK330.out 0).trans rfl,(blk_cell BK330.out 1).trans rfl,(blk_cell BK330.out 2).trans rfl,(blk_cell BK331.out 0).trans rfl,(blk_cell BK331.out 1).trans rfl,(blk_cell BK331.out 2).trans rfl⟩ (fun hHeld=>?_)
      clear hK K
      refine norm_ (a':=?_) ?_ ?_
      rotate_left
      ·show Act.put _ (some 23) _ = _
       simp only [Act.put,List.setIfInBounds_toArray,List.set_cons_zero,List.set_cons_succ,i64_w,i32_w]
       rfl
      refine one_ (i:=4) (N:=some 24) #[true,true,true,true,true,false] rfl rfl (by kernel_rfl) (by decide) (fun K hK=>?_)
      refine goes_ Tryd.func23 (by kernel_rfl) rfl #[.agg #[.int .i64 t334,.int .i64 t335,.slice Ao110 t336.length co110],.agg #[.int .i64 t339,.int .i64 t340,.slice Ao111 t341.length co111]] (by rfl) rfl rfl (by (try simp only [List.map_toArray,List.map_cons,List.map_nil]);first | done | rfl | (simp only [List.length_drop,List.length_take];rfl)) ?_
      with_reducible refine (spec_SealUnder.calls k t334 t335 _ _ t336 t339 t340 _ _ t341 t344 _ ?side1 ?side2 ?side3 ?side4 A21.out).mono ?_
      (case side1=>repeat (first | exact (Kd.R_reads' HO338.out).2.2 | (with_reducible refine Kd.C_alloc ?_ _) | (with_reducible refine Kd.C_drewN ?_ _) | (with_reducible refine Kd.C_drew ?_)))
      (case side2=>exact (Kd.R_reads' HO338.out).2.1)
      (case side3=>repeat (first | exact (Kd.R_reads' HO343.out).2.2 | (with_reducible refine Kd.C_alloc ?_ _) | (with_reducible refine Kd.C_drewN ?_ _) | (with_reducible refine Kd.C_drew ?_)))
      (case side4=>exact (Kd.R_reads' HO343.out).2.1)
      rintro e w112 ⟨rfl,hb⟩
      refine ⟨_,rfl,?_⟩
      have n0_:=Aside0.mk (Kd.R_below (by (with_reducible repeat (first | apply Kd.R_alloc | apply Kd.R_drewN | apply Kd.R_drew));exact HO338.out) hb)
      have n1_:=Aside0.mk (Kd.R_below (by (with_reducible repeat (first | apply Kd.R_alloc | apply Kd.R_drewN | apply Kd.R_drew));exact HO343.out) hb)
      have n2_:=Aside0.mk (blk_below (g:=gb330) (o:=.cells #[.int .i64 a0_0,.int .i64 a0_1,.slice A0_2 l0_2.length c0_2] 33 (0,0)) (by (with_reducible repeat (first | refine blk_drewN ?_ _ | refine blk_drew ?_ | refine blk_alloc ?_ _));exact BK330.out) hb)
      have n3_:=Aside0.mk (blk_below (g:=gb331) (o:=.cells #[.int .i64 a1_0,.int .i64 a1_1,.slice A1_2 l1_2.length c1_2] 33 (0,0)) (by (with_reducible repeat (first | refine blk_drewN ?_ _ | refine blk_drew ?_ | refine blk_alloc ?_ _));exact BK331.out) hb)
      have n4_:=Aside0.mk (below_step (by repeat (first | (with_reducible first | exact HB.out | apply below_alloc | apply pw_below_drewN | apply below_drew1 | refine below_set ?_ GE330.out | refine below_set ?_ GE331.out) | exact HB.out)) hb)
      clear HO338
      clear HO343
      clear BK330
      clear BK331
      clear HB
      have HO338:=n0_
      have HO343:=n1_
      have BK330:=n2_
      have BK331:=n3_
      have HB:=n4_
      clear n0_ n1_ n2_ n3_ n4_
      (try clear hb)
      (try clear hb2)
      (try clear hk)
      (try clear hi)
      refine hK.out _ _ ⟨(blk_cell BK330.out 0).trans rfl,(blk_cell BK330.out 1).trans rfl,(blk_cell BK330.out 2).trans rfl,(blk_cell BK331.out 0).trans rfl,(blk_cell BK331.out 1).trans rfl,(blk_cell BK331.out 2).trans rfl⟩ (fun hHeld=>?_)
      clear hK K
      refine norm_ (a':=?_) ?_ ?_
      rotate_left
      ·show Act.put _ (some 24) _ = _
       simp only [Act.put,List.setIfInBounds_toArray,List.set_cons_zero,List.set_cons_succ,i64_w,i32_w]
       rfl
      refine pure_ (i:=5) (N:=some 6) (v:=?_) (a':=?_) #[true,true,true,true,true,true] rfl rfl (by kernel_rfl) (fun _ _ _ h=>h) (Or.inl ⟨by rfl,?_⟩) ?_ ?_
      rotate_left;·intro w';go_simp;with_reducible rfl
      rotate_left;·simp only [Act.put,List.setIfInBounds_toArray,List.set_cons_zero,List.set_cons_succ,i64_w,i32_w];rfl
      refine done_ (by kernel_rfl) ?_
      have hcz113_0:w112.cell? ⟨gb330,0,none⟩ = some (.int .i64 a0_0):=(blk_cell BK330.out 0).trans rfl
      have hcz113_1:w112.cell? ⟨gb330,1,none⟩ = some (.int .i64 a0_1):=(blk_cell BK330.out 1).trans rfl
      have hcz113_2:w112.cell? ⟨gb330,2,none⟩ = some (.slice A0_2 l0_2.length c0_2):=(blk_cell BK330.out 2).trans rfl
      have hfz113_0:=blk_frozen BK330.out 0
      have hfz113_1:=blk_frozen BK330.out 1
      have hfz113_2:=blk_frozen BK330.out 2
      try go_wp2_with (first | ((with_reducible refine gate_callee (f:=21) rfl ?_);refine goesL_ (some 26) rfl rfl Tryd.func21 (by kernel_rfl) rfl #[.agg #[.int .i64 a0_0,.int .i64 a0_1,.slice A0_2 l0_2.length c0_2]] rfl (by (try simp only [List.map_toArray,List.map_cons,List.map_nil]);first | done | rfl | (simp only [List.length_drop,List.length_take];rfl)) ?_;(with_reducible refine (laws_toSeal.calls k a0_0 a0_1 _ _ l0_2 t345 t346 t347 _ ?side1 ?side2 A22.out).mono ?_);(case side1=>repeat (first | exact (Kd.C_below HR0_2.out HB.out) | (with_reducible refine Kd.C_alloc ?_ _) | (with_reducible refine Kd.C_drewN ?_ _) | (with_reducible refine Kd.C_drew ?_)));(case side2=>exact HC0_2.out);rintro e w114 ⟨v348,rfl,ho0,hb⟩;refine ⟨_,rfl,?_⟩;have n0_:=Aside0.mk (Kd.R_elder' (by (with_reducible repeat (first | apply Kd.R_alloc | apply Kd.R_drewN | apply Kd.R_drew));exact HO338.out) (Kd.R_base ho0) hb);have n1_:=Aside0.mk (Kd.R_elder' (by (with_reducible repeat (first | apply Kd.R_alloc | apply Kd.R_drewN | apply Kd.R_drew));exact HO343.out) (Kd.R_base ho0) hb);have n2_:=Aside0.mk (Kd.R_lower (Kd.R_new' (Kd.R_new' ho0 (Kd.R_lt (by (with_reducible repeat (first | apply Kd.R_alloc | apply Kd.R_drewN | apply Kd.R_drew));exact HO338.out))) (Kd.R_lt (by (with_reducible repeat (first | apply Kd.R_alloc | apply Kd.R_drewN | apply Kd.R_drew));exact HO343.out))) (below_size (by repeat (first | (with_reducible first | exact HB.out | apply below_alloc | apply pw_below_drewN | apply below_drew1 | refine below_set ?_ GE330.out | refine below_set ?_ GE331.out) | exact HB.out))));have n3_:=Aside0.mk (blk_below (g:=gb330) (o:=.cells #[.int .i64 a0_0,.int .i64 a0_1,.slice A0_2 l0_2.length c0_2] 33 (0,0)) (by (with_reducible repeat (first | refine blk_drewN ?_ _ | refine blk_drew ?_ | refine blk_alloc ?_ _));exact BK330.out) hb);have n4_:=Aside0.mk (blk_below (g:=gb331) (o:=.cells #[.int .i64 a1_0,.int .i64 a1_1,.slice A1_2 l1_2.length c1_2] 33 (0,0)) (by (with_reducible repeat (first | refine blk_drewN ?_ _ | refine blk_drew ?_ | refine blk_alloc ?_ _));exact BK331.out) hb);have n5_:=Aside0.mk (below_step (by repeat (first | (with_reducible first | exact HB.out | apply below_alloc | apply pw_below_drewN | apply below_drew1 | refine below_set ?_ GE330.out | refine below_set ?_ GE331.out) | exact HB.out)) hb);clear HO338;clear HO343;clear BK330;clear BK331;clear HB;have HO338:=n0_;have HO343:=n1_;have HO349:=n2_;have BK330:=n3_;have BK331:=n4_;have HB:=n5_;clear n0_ n1_ n2_ n3_ n4_ n5_;(try clear hb);(try clear hb2);(try clear hk);(try clear hi);(try clear ho0)) | ((with_reducible refine gate_dst (N:=7) rfl ?_);refine box_event ?hg (N:=7) ?hd (cs:=#[.int .i64 0,.int .i64 0,.slice none 0 0]) (t:=25) ?hr ?_;(case hd=>rfl);(case hg=>rfl);(case hr=>first | (go_simp;done) | (go_simp;rfl));intro gb350 hg w115 hbox hb;have n0_:=Aside0.mk (Kd.R_below (Kd.R_elderB (by (with_reducible repeat (first | apply Kd.R_alloc | apply Kd.R_drewN | apply Kd.R_drew));exact HO338.out) gb350 (Nat.le_of_eq hg.symm)) hb);have n1_:=Aside0.mk (Kd.R_below (Kd.R_elderB (by (with_reducible repeat (first | apply Kd.R_alloc | apply Kd.R_drewN | apply Kd.R_drew));exact HO343.out) gb350 (Nat.le_of_eq hg.symm)) hb);have n2_:=Aside0.mk (Kd.R_below (Kd.R_elderB (by (with_reducible repeat (first | apply Kd.R_alloc | apply Kd.R_drewN | apply Kd.R_drew));exact HO349.out) gb350 (Nat.le_of_eq hg.symm)) hb);have n3_:=Aside0.mk (blk_below (g:=gb330) (o:=.cells #[.int .i64 a0_0,.int .i64 a0_1,.slice A0_2 l0_2.length c0_2] 33 (0,0)) (by (with_reducible repeat (first | refine blk_drewN ?_ _ | refine blk_drew ?_ | refine blk_alloc ?_ _));exact BK330.out) hb);have n4_:=Aside0.mk (blk_below (g:=gb331) (o:=.cells #[.int .i64 a1_0,.int .i64 a1_1,.slice A1_2 l1_2.length c1_2] 33 (0,0)) (by (with_reducible repeat (first | refine blk_drewN ?_ _ | refine blk_drew ?_ | refine blk_alloc ?_ _));exact BK331.out) hb);have n5_:=Aside0.mk (below_step (by repeat (first | (with_reducible first | exact HB.out | apply below_alloc | apply pw_below_drewN | apply below_drew1 | refine below_set ?_ GE330.out | refine below_set ?_ GE331.out) | exact HB.out)) hb);have n6_:=Aside0.mk (hbox);have n7_:=Aside0.mk ((by rw [hg];exact (below_size (by repeat (first | (with_reducible first | exact HB.out | apply below_alloc | apply pw_below_drewN | apply below_drew1 | refine below_set ?_ GE330.out | refine below_set ?_ GE331.out) | exact HB.out))):w.heap.size ≤ gb350));have n8_:=Aside0.mk ((by rw [hg];exact (below_size (by repeat (first | (with_reducible first | exact HB.out | apply below_alloc | apply pw_below_drewN | apply below_drew1 | refine below_set ?_ GE330.out | refine below_set ?_ GE331.out) | exact HB.out))):w.heap.size ≤ gb350));have n9_:=Aside0.mk ((by rw [hg];exact Nat.ne_of_lt (blk_lt (g:=gb330) (o:=.cells #[.int .i64 a0_0,.int .i64 a0_1,.slice A0_2 l0_2.length c0_2] 33 (0,0)) (by (with_reducible repeat (first | refine blk_drewN ?_ _ | refine blk_drew ?_ | refine blk_alloc ?_ _));exact BK330.out)):gb330 ≠ gb350));have n10_:=Aside0.mk ((by rw [hg];exact Nat.ne_of_gt (blk_lt (g:=gb330) (o:=.cells #[.int .i64 a0_0,.int .i64 a0_1,.slice A0_2 l0_2.length c0_2] 33 (0,0)) (by (with_reducible repeat (first | refine blk_drewN ?_ _ | refine blk_drew ?_ | refine blk_alloc ?_ _));exact BK330.out)):gb350 ≠ gb330));have n11_:=Aside0.mk ((by rw [hg];exact Nat.ne_of_lt (blk_lt (g:=gb331) (o:=.cells #[.int .i64 a1_0,.int .i64 a1_1,.slice A1_2 l1_2.length c1_2] 33 (0,0)) (by (with_reducible repeat (first | refine blk_drewN ?_ _ | refine blk_drew ?_ | refine blk_alloc ?_ _));exact BK331.out)):gb331 ≠ gb350));have n12_:=Aside0.mk ((by rw [hg];exact Nat.ne_of_gt (blk_lt (g:=gb331) (o:=.cells #[.int .i64 a1_0,.int .i64 a1_1,.slice A1_2 l1_2.length c1_2] 33 (0,0)) (by (with_reducible repeat (first | refine blk_drewN ?_ _ | refine blk_drew ?_ | refine blk_alloc ?_ _));exact BK331.out)):gb350 ≠ gb331));clear HO338;clear HO343;clear HO349;clear BK330;clear BK331;clear HB;have HO338:=n0_;have HO343:=n1_;have HO349:=n2_;have BK330:=n3_;have BK331:=n4_;have HB:=n5_;have BK350:=n6_;have GW350:=n7_;have GE350:=n8_;have NB330_350:=n9_;have NB350_330:=n10_;have NB331_350:=n11_;have NB350_331:=n12_;clear n0_ n1_ n2_ n3_ n4_ n5_ n6_ n7_ n8_ n9_ n10_ n11_ n12_;clear hb hbox hg;have hnb116:=NB350_330.out;have hnc116:=NB330_350.out;have hnb117:=NB350_331.out;have hnc117:=NB331_350.out;have hcz118_0:w115.cell? ⟨gb350,0,none⟩ = some (.int .i64 0):=(blk_cell BK350.out 0).trans rfl;have hcz118_1:w115.cell? ⟨gb350,1,none⟩ = some (.int .i64 0):=(blk_cell BK350.out 1).trans rfl;have hcz118_2:w115.cell? ⟨gb350,2,none⟩ = some (.slice none 0 0):=(blk_cell BK350.out 2).trans rfl;have hfz118_0:=blk_frozen BK350.out 0;have hfz118_1:=blk_frozen BK350.out 1;have hfz118_2:=blk_frozen BK350.out 2;obtain ⟨Ao119,co119,eo119⟩:=Kd.R_slice HO349.out;subst eo119;have hcz120_0:w115.cell? ⟨gb331,0,none⟩ = some (.int .i64 a1_0):=(blk_cell BK331.out 0).trans rfl;have hcz120_1:w115.cell? ⟨gb331,1,none⟩ = some (.int .i64 a1_1):=(blk_cell BK331.out 1).trans rfl;have hcz120_2:w115.cell? ⟨gb331,2,none⟩ = some (.slice A1_2 l1_2.length c1_2):=(blk_cell BK331.out 2).trans rfl;have hfz120_0:=blk_frozen BK331.out 0;have hfz120_1:=blk_frozen BK331.out 1;have hfz120_2:=blk_frozen BK331.out 2) | ((with_reducible refine gate_callee (f:=21) rfl ?_);refine goesL_ (some 28) rfl rfl Tryd.func21 (by kernel_rfl) rfl #[.agg #[.int .i64 a1_0,.int .i64 a1_1,.slice A1_2 l1_2.length c1_2]] rfl (by (try simp only [List.map_toArray,List.map_cons,List.map_nil]);first | done | rfl | (simp only [List.length_drop,List.length_take];rfl)) ?_;(with_reducible refine (laws_toSeal.calls k a1_0 a1_1 _ _ l1_2 t351 t352 t353 _ ?side1 ?side2 A23.out).mono ?_);(case side1=>exact Kd.C_below HR1_2.out (by repeat (first | (with_reducible first | exact HB.out | apply below_alloc | apply pw_below_drewN | apply below_drew1 | refine below_set ?_ GE330.out | refine below_set ?_ GE331.out | refine below_set ?_ GE350.out) | exact HB.out)));(case side2=>exact HC1_2.out);rintro e w121 ⟨v354,rfl,ho0,hb⟩;refine ⟨_,rfl,?_⟩;have n0_:=Aside0.mk (Kd.R_elder' (by (with_reducible repeat (first | apply Kd.R_alloc | apply Kd.R_drewN | apply Kd.R_drew));exact (Kd.R_mono (Kd.R_far (p:=⟨gb350,2,none⟩) (Kd.R_far (p:=⟨gb350,1,none⟩) (Kd.R_far (p:=⟨gb350,0,none⟩) (Kd.R_mono HO338.out (fun k_ hk=>(⟨hk,hk.2⟩:_∧k_ ≠ gb350))) (fun _ hk=>hk.2) (.int .i64 t345)) (fun _ hk=>hk.2) (.int .i64 t346)) (fun _ hk=>hk.2) (.slice Ao119 t347.length co119)) (fun _ h_=>h_.1))) (Kd.R_base ho0) hb);have n1_:=Aside0.mk (Kd.R_elder' (by (with_reducible repeat (first | apply Kd.R_alloc | apply Kd.R_drewN | apply Kd.R_drew));exact (Kd.R_mono (Kd.R_far (p:=⟨gb350,2,none⟩) (Kd.R_far (p:=⟨gb350,1,none⟩) (Kd.R_far (p:=⟨gb350,0,none⟩) (Kd.R_mono HO343.out (fun k_ hk=>(⟨hk,hk.2⟩:_∧k_ ≠ gb350))) (fun _ hk=>hk.2) (.int .i64 t345)) (fun _ hk=>hk.2) (.int .i64 t346)) (fun _ hk=>hk.2) (.slice Ao119 t347.length co119)) (fun _ h_=>h_.1))) (Kd.R_base ho0) hb);have n2_:=Aside0.mk (Kd.R_elder' (by (with_reducible repeat (first | apply Kd.R_alloc | apply Kd.R_drewN | apply Kd.R_drew));exact (Kd.R_mono (Kd.R_far (p:=⟨gb350,2,none⟩) (Kd.R_far (p:=⟨gb350,1,none⟩) (Kd.R_far (p:=⟨gb350,0,none⟩) (Kd.R_mono HO349.out (fun k_ hk=>(⟨hk,hk.2⟩:_∧k_ ≠ gb350))) (fun _ hk=>hk.2) (.int .i64 t345)) (fun _ hk=>hk.2) (.int .i64 t346)) (fun _ hk=>hk.2) (.slice Ao119 t347.length co119)) (fun _ h_=>h_.1))) (Kd.R_base ho0) hb);have n3_:=Aside0.mk (Kd.R_lower (Kd.R_newB (Kd.R_new' (Kd.R_new' (Kd.R_new' ho0 (Kd.R_lt (by (with_reducible repeat (first | apply Kd.R_alloc | apply Kd.R_drewN | apply Kd.R_drew));exact (Kd.R_mono (Kd.R_far (p:=⟨gb350,2,none⟩) (Kd.R_far (p:=⟨gb350,1,none⟩) (Kd.R_far (p:=⟨gb350,0,none⟩) (Kd.R_mono HO338.out (fun k_ hk=>(⟨hk,hk.2⟩:_∧k_ ≠ gb350))) (fun _ hk=>hk.2) (.int .i64 t345)) (fun _ hk=>hk.2) (.int .i64 t346)) (fun _ hk=>hk.2) (.slice Ao119 t347.length co119)) (fun _ h_=>h_.1))))) (Kd.R_lt (by (with_reducible repeat (first | apply Kd.R_alloc | apply Kd.R_drewN | apply Kd.R_drew));exact (Kd.R_mono (Kd.R_far (p:=⟨gb350,2,none⟩) (Kd.R_far (p:=⟨gb350,1,none⟩) (Kd.R_far (p:=⟨gb350,0,none⟩) (Kd.R_mono HO343.out (fun k_ hk=>(⟨hk,hk.2⟩:_∧k_ ≠ gb350))) (fun _ hk=>hk.2) (.int .i64 t345)) (fun _ hk=>hk.2) (.int .i64 t346)) (fun _ hk=>hk.2) (.slice Ao119 t347.length co119)) (fun _ h_=>h_.1))))) (Kd.R_lt (by (with_reducible repeat (first | apply Kd.R_alloc | apply Kd.R_drewN | apply Kd.R_drew));exact (Kd.R_mono (Kd.R_far (p:=⟨gb350,2,none⟩) (Kd.R_far (p:=⟨gb350,1,none⟩) (Kd.R_far (p:=⟨gb350,0,none⟩) (Kd.R_mono HO349.out (fun k_ hk=>(⟨hk,hk.2⟩:_∧k_ ≠ gb350))) (fun _ hk=>hk.2) (.int .i64 t345)) (fun _ hk=>hk.2) (.int .i64 t346)) (fun _ hk=>hk.2) (.slice Ao119 t347.length co119)) (fun _ h_=>h_.1))))) (g:=gb350) (o:=.cells #[.int .i64 t345,.int .i64 t346,.slice Ao119 t347.length co119] 25 (0,0)) (by (with_reducible repeat (first | refine blk_drewN ?_ _ | refine blk_drew ?_ | refine blk_alloc ?_ _));refine blk_put (cs:=#[.int .i64 t345,.int .i64 t346,.slice none 0 0]) ?_ 2 _ rfl;(with_reducible repeat (first | refine blk_drewN ?_ _ | refine blk_drew ?_ | refine blk_alloc ?_ _));refine blk_put (cs:=#[.int .i64 t345,.int .i64 0,.slice none 0 0]) ?_ 1 _ rfl;(with_reducible repeat (first | refine blk_drewN ?_ _ | refine blk_drew ?_ | refine blk_alloc ?_ _));refine blk_put (cs:=#[.int .i64 0,.int .i64 0,.slice none 0 0]) ?_ 0 _ rfl;(with_reducible repeat (first | refine blk_drewN ?_ _ | refine blk_drew ?_ | refine blk_alloc ?_ _));exact BK350.out)) (below_size (by repeat (first | (with_reducible first | exact HB.out | apply below_alloc | apply pw_below_drewN | apply below_drew1 | refine below_set ?_ GE330.out | refine below_set ?_ GE331.out | refine below_set ?_ GE350.out) | exact HB.out))));have n4_:=Aside0.mk (blk_below (g:=gb330) (o:=.cells #[.int .i64 a0_0,.int .i64 a0_1,.slice A0_2 l0_2.length c0_2] 33 (0,0)) (by (with_reducible repeat (first | refine blk_drewN ?_ _ | refine blk_drew ?_ | refine blk_alloc ?_ _));refine blk_far ?_ NB330_350.out _;(with_reducible repeat (first | refine blk_drewN ?_ _ | refine blk_drew ?_ | refine blk_alloc ?_ _));refine blk_far ?_ NB330_350.out _;(with_reducible repeat (first | refine blk_drewN ?_ _ | refine blk_drew ?_ | refine blk_alloc ?_ _));refine blk_far ?_ NB330_350.out _;(with_reducible repeat (first | refine blk_drewN ?_ _ | refine blk_drew ?_ | refine blk_alloc ?_ _));exact BK330.out) hb);have n5_:=Aside0.mk (blk_below (g:=gb331) (o:=.cells #[.int .i64 a1_0,.int .i64 a1_1,.slice A1_2 l1_2.length c1_2] 33 (0,0)) (by (with_reducible repeat (first | refine blk_drewN ?_ _ | refine blk_drew ?_ | refine blk_alloc ?_ _));refine blk_far ?_ NB331_350.out _;(with_reducible repeat (first | refine blk_drewN ?_ _ | refine blk_drew ?_ | refine blk_alloc ?_ _));refine blk_far ?_ NB331_350.out _;(with_reducible repeat (first | refine blk_drewN ?_ _ | refine blk_drew ?_ | refine blk_alloc ?_ _));refine blk_far ?_ NB331_350.out _;(with_reducible repeat (first | refine blk_drewN ?_ _ | refine blk_drew ?_ | refine blk_alloc ?_ _));exact BK331.out) hb);have n6_:=Aside0.mk (blk_below (g:=gb350) (o:=.cells #[.int .i64 t345,.int .i64 t346,.slice Ao119 t347.length co119] 25 (0,0)) (by (with_reducible repeat (first | refine blk_drewN ?_ _ | refine blk_drew ?_ | refine blk_alloc ?_ _));refine blk_put (cs:=#[.int .i64 t345,.int .i64 t346,.slice none 0 0]) ?_ 2 _ rfl;(with_reducible repeat (first | refine blk_drewN ?_ _ | refine blk_drew ?_ | refine blk_alloc ?_ _));refine blk_put (cs:=#[.int .i64 t345,.int .i64 0,.slice none 0 0]) ?_ 1 _ rfl;(with_reducible repeat (first | refine blk_drewN ?_ _ | refine blk_drew ?_ | refine blk_alloc ?_ _));refine blk_put (cs:=#[.int .i64 0,.int .i64 0,.slice none 0 0]) ?_ 0 _ rfl;(with_reducible repeat (first | refine blk_drewN ?_ _ | refine blk_drew ?_ | refine blk_alloc ?_ _));exact BK350.out) hb);have n7_:=Aside0.mk (below_step (by repeat (first | (with_reducible first | exact HB.out | apply below_alloc | apply pw_below_drewN | apply below_drew1 | refine below_set ?_ GE330.out | refine below_set ?_ GE331.out | refine below_set ?_ GE350.out) | exact HB.out)) hb);clear HO338;clear HO343;clear HO349;clear BK330;clear BK331;clear BK350;clear HB;have HO338:=n0_;have HO343:=n1_;have HO349:=n2_;have HO355:=n3_;have BK330:=n4_;have BK331:=n5_;have BK350:=n6_;have HB:=n7_;clear n0_ n1_ n2_ n3_ n4_ n5_ n6_ n7_;(try clear hb);(try clear hb2);(try clear hk);(try clear hi);(try clear ho0)) | ((with_reducible refine gate_dst (N:=8) rfl ?_);refine box_event ?hg (N:=8) ?hd (cs:=#[.int .i64 0,.int .i64 0,.slice none 0 0]) (t:=25) ?hr ?_;(case hd=>rfl);(case hg=>rfl);(case hr=>first | (go_simp;done) | (go_simp;rfl));intro gb356 hg w122 hbox hb;have n0_:=Aside0.mk (Kd.R_below (Kd.R_elderB (by (with_reducible repeat (first | apply Kd.R_alloc | apply Kd.R_drewN | apply Kd.R_drew));exact HO338.out) gb356 (Nat.le_of_eq hg.symm)) hb);have n1_:=Aside0.mk (Kd.R_below (Kd.R_elderB (by (with_reducible repeat (first | apply Kd.R_alloc | apply Kd.R_drewN | apply Kd.R_drew));exact HO343.out) gb356 (Nat.le_of_eq hg.symm)) hb);have n2_:=Aside0.mk (Kd.R_below (Kd.R_elderB (by (with_reducible repeat (first | apply Kd.R_alloc | apply Kd.R_drewN | apply Kd.R_drew));exact HO349.out) gb356 (Nat.le_of_eq hg.symm)) hb);have n3_:=Aside0.mk (Kd.R_below (Kd.R_elderB (by (with_reducible repeat (first | apply Kd.R_alloc | apply Kd.R_drewN | apply Kd.R_drew));exact HO355.out) gb356 (Nat.le_of_eq hg.symm)) hb);have n4_:=Aside0.mk (blk_below (g:=gb330) (o:=.cells #[.int .i64 a0_0,.int .i64 a0_1,.slice A0_2 l0_2.length c0_2] 33 (0,0)) (by (with_reducible repeat (first | refine blk_drewN ?_ _ | refine blk_drew ?_ | refine blk_alloc ?_ _));exact BK330.out) hb);have n5_:=Aside0.mk (blk_below (g:=gb331) (o:=.cells #[.int .i64 a1_0,.int .i64 a1_1,.slice A1_2 l1_2.length c1_2] 33 (0,0)) (by (with_reducible repeat (first | refine blk_drewN ?_ _ | refine blk_drew ?_ | refine blk_alloc ?_ _));exact BK331.out) hb);have n6_:=Aside0.mk (blk_below (g:=gb350) (o:=.cells #[.int .i64 t345,.int .i64 t346,.slice Ao119 t347.length co119] 25 (0,0)) (by (with_reducible repeat (first | refine blk_drewN ?_ _ | refine blk_drew ?_ | refine blk_alloc ?_ _));exact BK350.out) hb);have n7_:=Aside0.mk (below_step (by repeat (first | (with_reducible first | exact HB.out | apply below_alloc | apply pw_below_drewN | apply below_drew1 | refine below_set ?_ GE330.out | refine below_set ?_ GE331.out | refine below_set ?_ GE350.out) | exact HB.out)) hb);have n8_:=Aside0.mk (hbox);have n9_:=Aside0.mk ((by rw [hg];exact (below_size (by repeat (first | (with_reducible first | exact HB.out | apply below_alloc | apply pw_below_drewN | apply below_drew1 | refine below_set ?_ GE330.out | refine below_set ?_ GE331.out | refine below_set ?_ GE350.out) | exact HB.out))):w.heap.size ≤ gb356));have n10_:=Aside0.mk ((by rw [hg];exact (below_size (by repeat (first | (with_reducible first | exact HB.out | apply below_alloc | apply pw_below_drewN | apply below_drew1 | refine below_set ?_ GE330.out | refine below_set ?_ GE331.out | refine below_set ?_ GE350.out) | exact HB.out))):w.heap.size ≤ gb356));have n11_:=Aside0.mk ((by rw [hg];exact Nat.ne_of_lt (blk_lt (g:=gb330) (o:=.cells #[.int .i64 a0_0,.int .i64 a0_1,.slice A0_2 l0_2.length c0_2] 33 (0,0)) (by (with_reducible repeat (first | refine blk_drewN ?_ _ | refine blk_drew ?_ | refine blk_alloc ?_ _));exact BK330.out)):gb330 ≠ gb356));have n12_:=Aside0.mk ((by rw [hg];exact Nat.ne_of_gt (blk_lt (g:=gb330) (o:=.cells #[.int .i64 a0_0,.int .i64 a0_1,.slice A0_2 l0_2.length c0_2] 33 (0,0)) (by (with_reducible repeat (first | refine blk_drewN ?_ _ | refine blk_drew ?_ | refine blk_alloc ?_ _));exact BK330.out)):gb356 ≠ gb330));have n13_:=Aside0.mk ((by rw [hg];exact Nat.ne_of_lt (blk_lt (g:=gb331) (o:=.cells #[.int .i64 a1_0,.int .i64 a1_1,.slice A1_2 l1_2.length c1_2] 33 (0,0)) (by (with_reducible repeat (first | refine blk_drewN ?_ _ | refine blk_drew ?_ | refine blk_alloc ?_ _));exact BK331.out)):gb331 ≠ gb356));have n14_:=Aside0.mk ((by rw [hg];exact Nat.ne_of_gt (blk_lt (g:=gb331) (o:=.cells #[.int .i64 a1_0,.int .i64 a1_1,.slice A1_2 l1_2.length c1_2] 33 (0,0)) (by (with_reducible repeat (first | refine blk_drewN ?_ _ | refine blk_drew ?_ | refine blk_alloc ?_ _));exact BK331.out)):gb356 ≠ gb331));have n15_:=Aside0.mk ((by rw [hg];exact Nat.ne_of_lt (blk_lt (g:=gb350) (o:=.cells #[.int .i64 t345,.int .i64 t346,.slice Ao119 t347.length co119] 25 (0,0)) (by (with_reducible repeat (first | refine blk_drewN ?_ _ | refine blk_drew ?_ | refine blk_alloc ?_ _));exact BK350.out)):gb350 ≠ gb356));have n16_:=Aside0.mk ((by rw [hg];exact Nat.ne_of_gt (blk_lt (g:=gb350) (o:=.cells #[.int .i64 t345,.int .i64 t346,.slice Ao119 t347.length co119] 25 (0,0)) (by (with_reducible repeat (first | refine blk_drewN ?_ _ | refine blk_drew ?_ | refine blk_alloc ?_ _));exact BK350.out)):gb356 ≠ gb350));clear HO338;clear HO343;clear HO349;clear HO355;clear BK330;clear BK331;clear BK350;clear HB;have HO338:=n0_;have HO343:=n1_;have HO349:=n2_;have HO355:=n3_;have BK330:=n4_;have BK331:=n5_;have BK350:=n6_;have HB:=n7_;have BK356:=n8_;have GW356:=n9_;have GE356:=n10_;have NB330_356:=n11_;have NB356_330:=n12_;have NB331_356:=n13_;have NB356_331:=n14_;have NB350_356:=n15_;have NB356_350:=n16_;clear n0_ n1_ n2_ n3_ n4_ n5_ n6_ n7_ n8_ n9_ n10_ n11_ n12_ n13_ n14_ n15_ n16_;clear hb hbox hg;have hnb123:=NB356_330.out;have hnc123:=NB330_356.out;have hnb124:=NB356_331.out;have hnc124:=NB331_356.out;have hnb125:=NB356_350.out;have hnc125:=NB350_356.out;have hcz126_0:w122.cell? ⟨gb356,0,none⟩ = some (.int .i64 0):=(blk_cell BK356.out 0).trans rfl;have hcz126_1:w122.cell? ⟨gb356,1,none⟩ = some (.int .i64 0):=(blk_cell BK356.out 1).trans rfl;have hcz126_2:w122.cell? ⟨gb356,2,none⟩ = some (.slice none 0 0):=(blk_cell BK356.out 2).trans rfl;have hfz126_0:=blk_frozen BK356.out 0;have hfz126_1:=blk_frozen BK356.out 1;have hfz126_2:=blk_frozen BK356.out 2;obtain ⟨Ao127,co127,eo127⟩:=Kd.R_slice HO355.out;subst eo127;have hcz128_0:w122.cell? ⟨gb350,0,none⟩ = some (.int .i64 t345):=(blk_cell BK350.out 0).trans rfl;have hcz128_1:w122.cell? ⟨gb350,1,none⟩ = some (.int .i64 t346):=(blk_cell BK350.out 1).trans rfl;have hcz128_2:w122.cell? ⟨gb350,2,none⟩ = some (.slice Ao119 t347.length co119):=(blk_cell BK350.out 2).trans rfl;have hfz128_0:=blk_frozen BK350.out 0;have hfz128_1:=blk_frozen BK350.out 1;have hfz128_2:=blk_frozen BK350.out 2) | ((with_reducible refine gate_callee (f:=17) rfl ?_);refine goesL_ (some 31) rfl rfl Tryd.func17 (by kernel_rfl) rfl #[.agg #[.int .i64 t345,.int .i64 t346,.slice Ao119 t347.length co119],.agg #[.int .i64 t351,.int .i64 t352,.slice Ao127 t353.length co127]] rfl (by (try simp only [List.map_toArray,List.map_cons,List.map_nil]);first | done | rfl | (simp only [List.length_drop,List.length_take];rfl)) ?_;(with_reducible refine (impl_SealUnder.calls k t345 t346 _ _ t347 t351 t352 _ _ t353 t357 _ ?side1 ?side2 ?side3 ?side4 A24.out).mono ?_);(case side1=>refine (Kd.R_reads' (e:=25) (base:=w.heap.size) (ok:=fun k_=>(((((True∧some k_ ≠ (.slice Ao110 t336.length co110:Value).ownBlock)∧some k_ ≠ (.slice Ao111 t341.length co111:Value).ownBlock)∧k_ ≠ gb350)∧some k_ ≠ (.slice Ao127 t353.length co127:Value).ownBlock)∧k_ ≠ gb356)) (n:=t347.length) (c:=co119) ?_).2.2;exact (by (with_reducible repeat (first | apply Kd.R_alloc | apply Kd.R_drewN | apply Kd.R_drew));exact (Kd.R_mono (Kd.R_far (p:=⟨gb356,2,none⟩) (Kd.R_far (p:=⟨gb356,1,none⟩) (Kd.R_far (p:=⟨gb356,0,none⟩) (Kd.R_mono HO349.out (fun k_ hk=>(⟨hk,hk.2⟩:_∧k_ ≠ gb356))) (fun _ hk=>hk.2) (.int .i64 t351)) (fun _ hk=>hk.2) (.int .i64 t352)) (fun _ hk=>hk.2) (.slice Ao127 t353.length co127)) (fun _ h_=>h_.1))));(case side2=>exact (Kd.R_reads' HO349.out).2.1);(case side3=>refine (Kd.R_reads' (e:=25) (base:=w.heap.size) (ok:=fun k_=>(((((True∧some k_ ≠ (.slice Ao110 t336.length co110:Value).ownBlock)∧some k_ ≠ (.slice Ao111 t341.length co111:Value).ownBlock)∧some k_ ≠ (.slice Ao119 t347.length co119:Value).ownBlock)∧k_ ≠ gb350)∧k_ ≠ gb356)) (n:=t353.length) (c:=co127) ?_).2.2;exact (by (with_reducible repeat (first | apply Kd.R_alloc | apply Kd.R_drewN | apply Kd.R_drew));exact (Kd.R_mono (Kd.R_far (p:=⟨gb356,2,none⟩) (Kd.R_far (p:=⟨gb356,1,none⟩) (Kd.R_far (p:=⟨gb356,0,none⟩) (Kd.R_mono HO355.out (fun k_ hk=>(⟨hk,hk.2⟩:_∧k_ ≠ gb356))) (fun _ hk=>hk.2) (.int .i64 t351)) (fun _ hk=>hk.2) (.int .i64 t352)) (fun _ hk=>hk.2) (.slice Ao127 t353.length co127)) (fun _ h_=>h_.1))));(case side4=>exact (Kd.R_reads' HO355.out).2.1);rintro e w129 ⟨rfl,hb⟩;refine ⟨_,rfl,?_⟩;have n0_:=Aside0.mk (Kd.R_below (by (with_reducible repeat (first | apply Kd.R_alloc | apply Kd.R_drewN | apply Kd.R_drew));exact (Kd.R_mono (Kd.R_far (p:=⟨gb356,2,none⟩) (Kd.R_far (p:=⟨gb356,1,none⟩) (Kd.R_far (p:=⟨gb356,0,none⟩) (Kd.R_mono HO338.out (fun k_ hk=>(⟨hk,hk.2⟩:_∧k_ ≠ gb356))) (fun _ hk=>hk.2) (.int .i64 t351)) (fun _ hk=>hk.2) (.int .i64 t352)) (fun _ hk=>hk.2) (.slice Ao127 t353.length co127)) (fun _ h_=>h_.1))) hb);have n1_:=Aside0.mk (Kd.R_below (by (with_reducible repeat (first | apply Kd.R_alloc | apply Kd.R_drewN | apply Kd.R_drew));exact (Kd.R_mono (Kd.R_far (p:=⟨gb356,2,none⟩) (Kd.R_far (p:=⟨gb356,1,none⟩) (Kd.R_far (p:=⟨gb356,0,none⟩) (Kd.R_mono HO343.out (fun k_ hk=>(⟨hk,hk.2⟩:_∧k_ ≠ gb356))) (fun _ hk=>hk.2) (.int .i64 t351)) (fun _ hk=>hk.2) (.int .i64 t352)) (fun _ hk=>hk.2) (.slice Ao127 t353.length co127)) (fun _ h_=>h_.1))) hb);have n2_:=Aside0.mk (Kd.R_below (by (with_reducible repeat (first | apply Kd.R_alloc | apply Kd.R_drewN | apply Kd.R_drew));exact (Kd.R_mono (Kd.R_far (p:=⟨gb356,2,none⟩) (Kd.R_far (p:=⟨gb356,1,none⟩) (Kd.R_far (p:=⟨gb356,0,none⟩) (Kd.R_mono HO349.out (fun k_ hk=>(⟨hk,hk.2⟩:_∧k_ ≠ gb356))) (fun _ hk=>hk.2) (.int .i64 t351)) (fun _ hk=>hk.2) (.int .i64 t352)) (fun _ hk=>hk.2) (.slice Ao127 t353.length co127)) (fun _ h_=>h_.1))) hb);have n3_:=Aside0.mk (Kd.R_below (by (with_reducible repeat (first | apply Kd.R_alloc | apply Kd.R_drewN | apply Kd.R_drew));exact (Kd.R_mono (Kd.R_far (p:=⟨gb356,2,none⟩) (Kd.R_far (p:=⟨gb356,1,none⟩) (Kd.R_far (p:=⟨gb356,0,none⟩) (Kd.R_mono HO355.out (fun k_ hk=>(⟨hk,hk.2⟩:_∧k_ ≠ gb356))) (fun _ hk=>hk.2) (.int .i64 t351)) (fun _ hk=>hk.2) (.int .i64 t352)) (fun _ hk=>hk.2) (.slice Ao127 t353.length co127)) (fun _ h_=>h_.1))) hb);have n4_:=Aside0.mk (blk_below (g:=gb330) (o:=.cells #[.int .i64 a0_0,.int .i64 a0_1,.slice A0_2 l0_2.length c0_2] 33 (0,0)) (by (with_reducible repeat (first | refine blk_drewN ?_ _ | refine blk_drew ?_ | refine blk_alloc ?_ _));refine blk_far ?_ NB330_356.out _;(with_reducible repeat (first | refine blk_drewN ?_ _ | refine blk_drew ?_ | refine blk_alloc ?_ _));refine blk_far ?_ NB330_356.out _;(with_reducible repeat (first | refine blk_drewN ?_ _ | refine blk_drew ?_ | refine blk_alloc ?_ _));refine blk_far ?_ NB330_356.out _;(with_reducible repeat (first | refine blk_drewN ?_ _ | refine blk_drew ?_ | refine blk_alloc ?_ _));exact BK330.out) hb);have n5_:=Aside0.mk (blk_below (g:=gb331) (o:=.cells #[.int .i64 a1_0,.int .i64 a1_1,.slice A1_2 l1_2.length c1_2] 33 (0,0)) (by (with_reducible repeat (first | refine blk_drewN ?_ _ | refine blk_drew ?_ | refine blk_alloc ?_ _));refine blk_far ?_ NB331_356.out _;(with_reducible repeat (first | refine blk_drewN ?_ _ | refine blk_drew ?_ | refine blk_alloc ?_ _));refine blk_far ?_ NB331_356.out _;(with_reducible repeat (first | refine blk_drewN ?_ _ | refine blk_drew ?_ | refine blk_alloc ?_ _));refine blk_far ?_ NB331_356.out _;(with_reducible repeat (first | refine blk_drewN ?_ _ | refine blk_drew ?_ | refine blk_alloc ?_ _));exact BK331.out) hb);have n6_:=Aside0.mk (blk_below (g:=gb350) (o:=.cells #[.int .i64 t345,.int .i64 t346,.slice Ao119 t347.length co119] 25 (0,0)) (by (with_reducible repeat (first | refine blk_drewN ?_ _ | refine blk_drew ?_ | refine blk_alloc ?_ _));refine blk_far ?_ NB350_356.out _;(with_reducible repeat (first | refine blk_drewN ?_ _ | refine blk_drew ?_ | refine blk_alloc ?_ _));refine blk_far ?_ NB350_356.out _;(with_reducible repeat (first | refine blk_drewN ?_ _ | refine blk_drew ?_ | refine blk_alloc ?_ _));refine blk_far ?_ NB350_356.out _;(with_reducible repeat (first | refine blk_drewN ?_ _ | refine blk_drew ?_ | refine blk_alloc ?_ _));exact BK350.out) hb);have n7_:=Aside0.mk (blk_below (g:=gb356) (o:=.cells #[.int .i64 t351,.int .i64 t352,.slice Ao127 t353.length co127] 25 (0,0)) (by (with_reducible repeat (first | refine blk_drewN ?_ _ | refine blk_drew ?_ | refine blk_alloc ?_ _));refine blk_put (cs:=#[.int .i64 t351,.int .i64 t352,.slice none 0 0]) ?_ 2 _ rfl;(with_reducible repeat (first | refine blk_drewN ?_ _ | refine blk_drew ?_ | refine blk_alloc ?_ _));refine blk_put (cs:=#[.int .i64 t351,.int .i64 0,.slice none 0 0]) ?_ 1 _ rfl;(with_reducible repeat (first | refine blk_drewN ?_ _ | refine blk_drew ?_ | refine blk_alloc ?_ _));refine blk_put (cs:=#[.int .i64 0,.int .i64 0,.slice none 0 0]) ?_ 0 _ rfl;(with_reducible repeat (first | refine blk_drewN ?_ _ | refine blk_drew ?_ | refine blk_alloc ?_ _));exact BK356.out) hb);have n8_:=Aside0.mk (below_step (by repeat (first | (with_reducible first | exact HB.out | apply below_alloc | apply pw_below_drewN | apply below_drew1 | refine below_set ?_ GE330.out | refine below_set ?_ GE331.out | refine below_set ?_ GE350.out | refine below_set ?_ GE356.out) | exact HB.out)) hb);clear HO338;clear HO343;clear HO349;clear HO355;clear BK330;clear BK331;clear BK350;clear BK356;clear HB;have HO338:=n0_;have HO343:=n1_;have HO349:=n2_;have HO355:=n3_;have BK330:=n4_;have BK331:=n5_;have BK350:=n6_;have BK356:=n7_;have HB:=n8_;clear n0_ n1_ n2_ n3_ n4_ n5_ n6_ n7_ n8_;(try clear hb);(try clear hb2);(try clear hk);(try clear hi)))
      have n0_:=Aside0.mk (Kd.R_drew HO338.out)
      have n1_:=Aside0.mk (Kd.R_drew HO343.out)
      have n2_:=Aside0.mk (Kd.R_drew HO349.out)
      have n3_:=Aside0.mk (Kd.R_drew HO355.out)
      have n4_:=Aside0.mk (blk_drew BK330.out)
      have n5_:=Aside0.mk (blk_drew BK331.out)
      have n6_:=Aside0.mk (blk_drew BK350.out)
      have n7_:=Aside0.mk (blk_drew BK356.out)
      have n8_:=Aside0.mk (below_drew1 HB.out)
      clear HO338
      clear HO343
      clear HO349
      clear HO355
      clear BK330
      clear BK331
      clear BK350
      clear BK356
      clear HB
      have HO338:=n0_
      have HO343:=n1_
      have HO349:=n2_
      have HO355:=n3_
      have BK330:=n4_
      have BK331:=n5_
      have BK350:=n6_
      have BK356:=n7_
      have HB:=n8_
      clear n0_ n1_ n2_ n3_ n4_ n5_ n6_ n7_ n8_
      refine start_ (n:=5) (S:=fun w'=>w'.cell? ⟨gb350,0,none⟩ = some (.int .i64 t345)∧w'.cell? ⟨gb350,1,none⟩ = some (.int .i64 t346)∧w'.cell? ⟨gb350,2,none⟩ = some (.slice Ao119 t347.length co119)∧w'.cell? ⟨gb330,0,none⟩ = some (.int .i64 a0_0)∧w'.cell? ⟨gb330,1,none⟩ = some (.int .i64 a0_1)∧w'.cell? ⟨gb330,2,none⟩ = some (.slice A0_2 l0_2.length c0_2)) (ds:=[]) #[false,false,false,false,false] (by kernel_rfl) rfl rfl ⟨(blk_cell BK350.out 0).trans rfl,(blk_cell BK350.out 1).trans rfl,(blk_cell BK350.out 2).trans rfl,(blk_cell BK330.out 0).trans rfl,(blk_cell BK330.out 1).trans rfl,(blk_cell BK330.out 2).trans rfl⟩ (fun hHeld=>?_)
      generalize w129.drew = w130 at HO338 HO343 HO349 HO355 BK330 BK331 BK350 BK356 HB hHeld ⊢
      refine take_ (i:=0) (N:=some 35) (v:=?_) (a':=?_) #[true,false,false,false,false] rfl rfl (by kernel_rfl) (fun _ _ _ h=>h) (Or.inl ⟨by rfl,?_⟩) hHeld ?_ ?_
      rotate_left;·rintro w' ⟨s0,s1,s2,s3,s4,s5⟩;go_simp;with_reducible rfl
      rotate_left;·simp only [Act.put,List.setIfInBounds_toArray,List.set_cons_zero,List.set_cons_succ,i64_w,i32_w];rfl
      refine take_ (i:=1) (N:=some 36) (v:=?_) (a':=?_) #[true,true,false,false,false] rfl rfl (by kernel_rfl) (fun _ _ _ h=>h) (Or.inl ⟨by rfl,?_⟩) hHeld ?_ ?_
      rotate_left;·rintro w' ⟨s0,s1,s2,s3,s4,s5⟩;go_simp;with_reducible rfl
      rotate_left;·simp only [Act.put,List.setIfInBounds_toArray,List.set_cons_zero,List.set_cons_succ,i64_w,i32_w];rfl
      refine one_ (i:=2) (N:=some 37) #[true,true,true,false,false] rfl rfl (by kernel_rfl) (by decide) (fun K hK=>?_)
      refine goes_ Tryd.func21 (by kernel_rfl) rfl #[.agg #[.int .i64 a0_0,.int .i64 a0_1,.slice A0_2 l0_2.length c0_2]] (by rfl) rfl rfl (by (try simp only [List.map_toArray,List.map_cons,List.map_nil]);first | done | rfl | (simp only [List.length_drop,List.length_take];rfl)) ?_
      with_reducible refine (laws_toSeal.calls k a0_0 a0_1 _ _ l0_2 t358 t359 t360 _ ?side1 ?side2 A56.out).mono ?_
      (case side1=>repeat (first | exact (Kd.C_below HR0_2.out HB.out) | (with_reducible refine Kd.C_alloc ?_ _) | (with_reducible refine Kd.C_drewN ?_ _) | (with_reducible refine Kd.C_drew ?_)))
      (case side2=>exact HC0_2.out)
      rintro e w131 ⟨v361,rfl,ho0,hb⟩
      refine ⟨_,rfl,?_⟩
      have n0_:=Aside0.mk (Kd.R_elder' (by (with_reducible repeat (first | apply Kd.R_alloc | apply Kd.R_drewN | apply Kd.R_drew));exact HO338.out) (Kd.R_base ho0) hb)
      have n1_:=Aside0.mk (Kd.R_elder' (by (with_reducible repeat (first | apply Kd.R_alloc | apply Kd.R_drewN | apply Kd.R_drew));exact HO343.out) (Kd.R_base ho0) hb)
      have n2_:=Aside0.mk (Kd.R_elder' (by (with_reducible repeat (first | apply Kd.R_alloc | apply Kd.R_drewN | apply Kd.R_drew));exact HO349.out) (Kd.R_base ho0) hb)
      have n3_:=Aside0.mk (Kd.R_elder' (by (with_reducible repeat (first | apply Kd.R_alloc | apply Kd.R_drewN | apply Kd.R_drew));exact HO355.out) (Kd.R_base ho0) hb)
      have n4_:=Aside0.mk (Kd.R_lower (Kd.R_newB (Kd.R_newB (Kd.R_new' (Kd.R_new' (Kd.R_new' (Kd.R_new' ho0 (Kd.R_lt (by (with_reducible repeat (first | apply Kd.R_alloc | apply Kd.R_drewN | apply Kd.R_drew));exact HO338.out))) (Kd.R_lt (by (with_reducible repeat (first | apply Kd.R_alloc | apply Kd.R_drewN | apply Kd.R_drew));exact HO343.out))) (Kd.R_lt (by (with_reducible repeat (first | apply Kd.R_alloc | apply Kd.R_drewN | apply Kd.R_drew));exact HO349.out))) (Kd.R_lt (by (with_reducible repeat (first | apply Kd.R_alloc | apply Kd.R_drewN | apply Kd.R_drew));exact HO355.out))) (g:=gb350) (o:=.cells #[.int .i64 t345,.int .i64 t346,.slice Ao119 t347.length co119] 25 (0,0)) (by (with_reducible repeat (first | refine blk_drewN ?_ _ | refine blk_drew ?_ | refine blk_alloc ?_ _));exact BK350.out)) (g:=gb356) (o:=.cells #[.int .i64 t351,.int .i64 t352,.slice Ao127 t353.length co127] 25 (0,0)) (by (with_reducible repeat (first | refine blk_drewN ?_ _ | refine blk_drew ?_ | refine blk_alloc ?_ _));exact BK356.out)) (below_size (by repeat (first | (with_reducible first | exact HB.out | apply below_alloc | apply pw_below_drewN | apply below_drew1 | refine below_set ?_ GE330.out | refine below_set ?_ GE331.out | refine below_set ?_ GE350.out | refine below_set ?_ GE356.out) | exact HB.out))))
      have n5_:=Aside0.mk (blk_below (g:=gb330) (o:=.cells #[.int .i64 a0_0,.int .i64 a0_1,.slice A0_2 l0_2.length c0_2] 33 (0,0)) (by (with_reducible repeat (first | refine blk_drewN ?_ _ | refine blk_drew ?_ | refine blk_alloc ?_ _));exact BK330.out) hb)
      have n6_:=Aside0.mk (blk_below (g:=gb331) (o:=.cells #[.int .i64 a1_0,.int .i64 a1_1,.slice A1_2 l1_2.length c1_2] 33 (0,0)) (by (with_reducible repeat (first | refine blk_drewN ?_ _ | refine blk_drew ?_ | refine blk_alloc ?_ _));exact BK331.out) hb)
      have n7_:=Aside0.mk (blk_below (g:=gb350) (o:=.cells #[.int .i64 t345,.int .i64 t346,.slice Ao119 t347.length co119] 25 (0,0)) (by (with_reducible repeat (first | refine blk_drewN ?_ _ | refine blk_drew ?_ | refine blk_alloc ?_ _));exact BK350.out) hb)
      have n8_:=Aside0.mk (blk_below (g:=gb356) (o:=.cells #[.int .i64 t351,.int .i64 t352,.slice Ao127 t353.length co127] 25 (0,0)) (by (with_reducible repeat (first | refine blk_drewN ?_ _ | refine blk_drew ?_ | refine blk_alloc ?_ _));exact BK356.out) hb)
      have n9_:=Aside0.mk (below_step (by repeat (first | (with_reducible first | exact HB.out | apply below_alloc | apply pw_below_drewN | apply below_drew1 | refine below_set ?_ GE330.out | refine below_set ?_ GE331.out | refine below_set ?_ GE350.out | refine below_set ?_ GE356.out) | exact HB.out)) hb)
      clear HO338
      clear HO343
      clear HO349
      clear HO355
      clear BK330
      clear BK331
      clear BK350
      clear BK356
      clear HB
      have HO338:=n0_
      have HO343:=n1_
      have HO349:=n2_
      have HO355:=n3_
      have HO362:=n4_
      have BK330:=n5_
      have BK331:=n6_
      have BK350:=n7_
      have BK356:=n8_
      have HB:=n9_
      clear n0_ n1_ n2_ n3_ n4_ n5_ n6_ n7_ n8_ n9_
      (try clear hb)
      (try clear hb2)
      (try clear hk)
      (try clear hi)
      (try clear ho0)
      obtain ⟨Ao132,co132,eo132⟩:=Kd.R_slice HO362.out
      (first | subst eo132 | (injection eo132 with f1_ f2_ f3_;have f4_:=f1_.symm;have f5_:=f3_.symm;clear f1_ f2_ f3_;subst f4_;subst f5_))
      refine hK.out _ _ ⟨(blk_cell BK350.out 0).trans rfl,(blk_cell BK350.out 1).trans rfl,(blk_cell BK350.out 2).trans rfl,(blk_cell BK330.out 0).trans rfl,(blk_cell BK330.out 1).trans rfl,(blk_cell BK330.out 2).trans rfl⟩ (fun hHeld=>?_)
      clear hK K
      refine norm_ (a':=?_) ?_ ?_
      rotate_left
      ·show Act.put _ (some 37) _ = _
       simp only [Act.put,List.setIfInBounds_toArray,List.set_cons_zero,List.set_cons_succ,i64_w,i32_w]
       rfl
      refine one_ (i:=3) (N:=some 38) #[true,true,true,true,false] rfl rfl (by kernel_rfl) (by decide) (fun K hK=>?_)
      refine goes_ Tryd.func22 (by kernel_rfl) rfl #[.agg #[.int .i64 t345,.int .i64 t346,.slice Ao119 t347.length co119],.agg #[.int .i64 t358,.int .i64 t359,.slice Ao132 t360.length co132]] (by rfl) rfl rfl (by (try simp only [List.map_toArray,List.map_cons,List.map_nil]);first | done | rfl | (simp only [List.length_drop,List.length_take];rfl)) ?_
      with_reducible refine (laws_eqSeal.calls k t345 t346 _ _ t347 t358 t359 _ _ t360 true _ ?side1 ?side2 ?side3 ?side4 A57.out).mono ?_
      (case side1=>repeat (first | exact (Kd.R_reads' HO349.out).2.2 | (with_reducible refine Kd.C_alloc ?_ _) | (with_reducible refine Kd.C_drewN ?_ _) | (with_reducible refine Kd.C_drew ?_)))
      (case side2=>exact (Kd.R_reads' HO349.out).2.1)
      (case side3=>repeat (first | exact (Kd.R_reads' HO362.out).2.2 | (with_reducible refine Kd.C_alloc ?_ _) | (with_reducible refine Kd.C_drewN ?_ _) | (with_reducible refine Kd.C_drew ?_)))
      (case side4=>exact (Kd.R_reads' HO362.out).2.1)
      rintro e w133 ⟨rfl,hb⟩
      refine ⟨_,rfl,?_⟩
      have n0_:=Aside0.mk (Kd.R_below (by (with_reducible repeat (first | apply Kd.R_alloc | apply Kd.R_drewN | apply Kd.R_drew));exact HO338.out) hb)
      have n1_:=Aside0.mk (Kd.R_below (by (with_reducible repeat (first | apply Kd.R_alloc | apply Kd.R_drewN | apply Kd.R_drew));exact HO343.out) hb)
      have n2_:=Aside0.mk (Kd.R_below (by (with_reducible repeat (first | apply Kd.R_alloc | apply Kd.R_drewN | apply Kd.R_drew));exact HO349.out) hb)
      have n3_:=Aside0.mk (Kd.R_below (by (with_reducible repeat (first | apply Kd.R_alloc | apply Kd.R_drewN | apply Kd.R_drew));exact HO355.out) hb)
      have n4_:=Aside0.mk (Kd.R_below (by (with_reducible repeat (first | apply Kd.R_alloc | apply Kd.R_drewN | apply Kd.R_drew));exact HO362.out) hb)
      have n5_:=Aside0.mk (blk_below (g:=gb330) (o:=.cells #[.int .i64 a0_0,.int .i64 a0_1,.slice A0_2 l0_2.length c0_2] 33 (0,0)) (by (with_reducible repeat (first | refine blk_drewN ?_ _ | refine blk_drew ?_ | refine blk_alloc ?_ _));exact BK330.out) hb)
      have n6_:=Aside0.mk (blk_below (g:=gb331) (o:=.cells #[.int .i64 a1_0,.int .i64 a1_1,.slice A1_2 l1_2.length c1_2] 33 (0,0)) (by (with_reducible repeat (first | refine blk_drewN ?_ _ | refine blk_drew ?_ | refine blk_alloc ?_ _));exact BK331.out) hb)
      have n7_:=Aside0.mk (blk_below (g:=gb350) (o:=.cells #[.int .i64 t345,.int .i64 t346,.slice Ao119 t347.length co119] 25 (0,0)) (by (with_reducible repeat (first | refine blk_drewN ?_ _ | refine blk_drew ?_ | refine blk_alloc ?_ _));exact BK350.out) hb)
      have n8_:=Aside0.mk (blk_below (g:=gb356) (o:=.cells #[.int .i64 t351,.int .i64 t352,.slice Ao127 t353.length co127] 25 (0,0)) (by (with_reducible repeat (first | refine blk_drewN ?_ _ | refine blk_drew ?_ | refine blk_alloc ?_ _));exact BK356.out) hb)
      have n9_:=Aside0.mk (below_step (by repeat (first | (with_reducible first | exact HB.out | apply below_alloc | apply pw_below_drewN | apply below_drew1 | refine below_set ?_ GE330.out | refine below_set ?_ GE331.out | refine below_set ?_ GE350.out | refine below_set ?_ GE356.out) | exact HB.out)) hb)
      clear HO338
      clear HO343
      clear HO349
      clear HO355
      clear HO362
      clear BK330
      clear BK331
      clear BK350
      clear BK356
      clear HB
      have HO338:=n0_
      have HO343:=n1_
      have HO349:=n2_
      have HO355:=n3_
      have HO362:=n4_
      have BK330:=n5_
      have BK331:=n6_
      have BK350:=n7_
      have BK356:=n8_
      have HB:=n9_
      clear n0_ n1_ n2_ n3_ n4_ n5_ n6_ n7_ n8_ n9_
      (try clear hb)
      (try clear hb2)
      (try clear hk)
      (try clear hi)
      refine hK.out _ _ ⟨(blk_cell BK350.out 0).trans rfl,(blk_cell BK350.out 1).trans rfl,(blk_cell BK350.out 2).trans rfl,(blk_cell BK330.out 0).trans rfl,(blk_cell BK330.out 1).trans rfl,(blk_cell BK330.out 2).trans rfl⟩ (fun hHeld=>?_)
      clear hK K
      refine norm_ (a':=?_) ?_ ?_
      rotate_left
      ·show Act.put _ (some 38) _ = _
       simp only [Act.put,List.setIfInBounds_toArray,List.set_cons_zero,List.set_cons_succ,i64_w,i32_w]
       rfl
      refine pure_ (i:=4) (N:=some 39) (v:=?_) (a':=?_) #[true,true,true,true,true] rfl rfl (by kernel_rfl) (fun _ _ _ h=>h) (Or.inl ⟨by rfl,?_⟩) ?_ ?_
      rotate_left;·intro w';go_simp;with_reducible rfl
      rotate_left;·simp only [Act.put,List.setIfInBounds_toArray,List.set_cons_zero,List.set_cons_succ,i64_w,i32_w];rfl
      refine done_ (by kernel_rfl) ?_
      try go_wp2
      have n0_:=Aside0.mk (Kd.R_drew HO338.out)
      have n1_:=Aside0.mk (Kd.R_drew HO343.out)
      have n2_:=Aside0.mk (Kd.R_drew HO349.out)
      have n3_:=Aside0.mk (Kd.R_drew HO355.out)
      have n4_:=Aside0.mk (Kd.R_drew HO362.out)
      have n5_:=Aside0.mk (blk_drew BK330.out)
      have n6_:=Aside0.mk (blk_drew BK331.out)
      have n7_:=Aside0.mk (blk_drew BK350.out)
      have n8_:=Aside0.mk (blk_drew BK356.out)
      have n9_:=Aside0.mk (below_drew1 HB.out)
      clear HO338
      clear HO343
      clear HO349
      clear HO355
      clear HO362
      clear BK330
      clear BK331
      clear BK350
      clear BK356
      clear HB
      have HO338:=n0_
      have HO343:=n1_
      have HO349:=n2_
      have HO355:=n3_
      have HO362:=n4_
      have BK330:=n5_
      have BK331:=n6_
      have BK350:=n7_
      have BK356:=n8_
      have HB:=n9_
      clear n0_ n1_ n2_ n3_ n4_ n5_ n6_ n7_ n8_ n9_
      refine start_ (n:=5) (S:=fun w'=>w'.cell? ⟨gb356,0,none⟩ = some (.int .i64 t351)∧w'.cell? ⟨gb356,1,none⟩ = some (.int .i64 t352)∧w'.cell? ⟨gb356,2,none⟩ = some (.slice Ao127 t353.length co127)∧w'.cell? ⟨gb331,0,none⟩ = some (.int .i64 a1_0)∧w'.cell? ⟨gb331,1,none⟩ = some (.int .i64 a1_1)∧w'.cell? ⟨gb331,2,none⟩ = some (.slice A1_2 l1_2.length c1_2)) (ds:=[]) #[false,false,false,false,false] (by kernel_rfl) rfl rfl ⟨(blk_cell BK356.out 0).trans rfl,(blk_cell BK356.out 1).trans rfl,(blk_cell BK356.out 2).trans rfl,(blk_cell BK331.out 0).trans rfl,(blk_cell BK331.out 1).trans rfl,(blk_cell BK331.out 2).trans rfl⟩ (fun hHeld=>?_)
      generalize w133.drew = w134 at HO338 HO343 HO349 HO355 HO362 BK330 BK331 BK350 BK356 HB hHeld ⊢
      refine take_ (i:=0) (N:=some 40) (v:=?_) (a':=?_) #[true,false,false,false,false] rfl rfl (by kernel_rfl) (fun _ _ _ h=>h) (Or.inl ⟨by rfl,?_⟩) hHeld ?_ ?_
      rotate_left;·rintro w' ⟨s0,s1,s2,s3,s4,s5⟩;go_simp;with_reducible rfl
      rotate_left;·simp only [Act.put,List.setIfInBounds_toArray,List.set_cons_zero,List.set_cons_succ,i64_w,i32_w];rfl
      refine take_ (i:=1) (N:=some 41) (v:=?_) (a':=?_) #[true,true,false,false,false] rfl rfl (by kernel_rfl) (fun _ _ _ h=>h) (Or.inl ⟨by rfl,?_⟩) hHeld ?_ ?_
      rotate_left;·rintro w' ⟨s0,s1,s2,s3,s4,s5⟩;go_simp;with_reducible rfl
      rotate_left;·simp only [Act.put,List.setIfInBounds_toArray,List.set_cons_zero,List.set_cons_succ,i64_w,i32_w];rfl
      refine one_ (i:=2) (N:=some 42) #[true,true,true,false,false] rfl rfl (by kernel_rfl) (by decide) (fun K hK=>?_)
      refine goes_ Tryd.func21 (by kernel_rfl) rfl #[.agg #[.int .i64 a1_0,.int .i64 a1_1,.slice A1_2 l1_2.length c1_2]] (by rfl) rfl rfl (by (try simp only [List.map_toArray,List.map_cons,List.map_nil]);first | done | rfl | (simp only [List.length_drop,List.length_take];rfl)) ?_
      with_reducible refine (laws_toSeal.calls k a1_0 a1_1 _ _ l1_2 t364 t365 t366 _ ?side1 ?side2 A59.out).mono ?_
      (case side1=>repeat (first | exact (Kd.C_below HR1_2.out HB.out) | (with_reducible refine Kd.C_alloc ?_ _) | (with_reducible refine Kd.C_drewN ?_ _) | (with_reducible refine Kd.C_drew ?_)))
      (case side2=>exact HC1_2.out)
      rintro e w135 ⟨v367,rfl,ho0,hb⟩
      refine ⟨_,rfl,?_⟩
      have n0_:=Aside0.mk (Kd.R_elder' (by (with_reducible repeat (first | apply Kd.R_alloc | apply Kd.R_drewN | apply Kd.R_drew));exact HO338.out) (Kd.R_base ho0) hb)
      have n1_:=Aside0.mk (Kd.R_elder' (by (with_reducible repeat (first | apply Kd.R_alloc | apply Kd.R_drewN | apply Kd.R_drew));exact HO343.out) (Kd.R_base ho0) hb)
      have n2_:=Aside0.mk (Kd.R_elder' (by (with_reducible repeat (first | apply Kd.R_alloc | apply Kd.R_drewN | apply Kd.R_drew));exact HO349.out) (Kd.R_base ho0) hb)
      have n3_:=Aside0.mk (Kd.R_elder' (by (with_reducible repeat (first | apply Kd.R_alloc | apply Kd.R_drewN | apply Kd.R_drew));exact HO355.out) (Kd.R_base ho0) hb)
      have n4_:=Aside0.mk (Kd.R_elder' (by (with_reducible repeat (first | apply Kd.R_alloc | apply Kd.R_drewN | apply Kd.R_drew));exact HO362.out) (Kd.R_base ho0) hb)
      have n5_:=Aside0.mk (Kd.R_lower (Kd.R_newB (Kd.R_newB (Kd.R_new' (Kd.R_new' (Kd.R_new' (Kd.R_new' (Kd.R_new' ho0 (Kd.R_lt (by (with_reducible repeat (first | apply Kd.R_alloc | apply Kd.R_drewN | apply Kd.R_drew));exact HO338.out))) (Kd.R_lt (by (with_reducible repeat (first | apply Kd.R_alloc | apply Kd.R_drewN | apply Kd.R_drew));exact HO343.out))) (Kd.R_lt (by (with_reducible repeat (first | apply Kd.R_alloc | apply Kd.R_drewN | apply Kd.R_drew));exact HO349.out))) (Kd.R_lt (by (with_reducible repeat (first | apply Kd.R_alloc | apply Kd.R_drewN | apply Kd.R_drew));exact HO355.out))) (Kd.R_lt (by (with_reducible repeat (first | apply Kd.R_alloc | apply Kd.R_drewN | apply Kd.R_drew));exact HO362.out))) (g:=gb350) (o:=.cells #[.int .i64 t345,.int .i64 t346,.slice Ao119 t347.length co119] 25 (0,0)) (by (with_reducible repeat (first | refine blk_drewN ?_ _ | refine blk_drew ?_ | refine blk_alloc ?_ _));exact BK350.out)) (g:=gb356) (o:=.cells #[.int .i64 t351,.int .i64 t352,.slice Ao127 t353.length co127] 25 (0,0)) (by (with_reducible repeat (first | refine blk_drewN ?_ _ | refine blk_drew ?_ | refine blk_alloc ?_ _));exact BK356.out)) (below_size (by repeat (first | (with_reducible first | exact HB.out | apply below_alloc | apply pw_below_drewN | apply below_drew1 | refine below_set ?_ GE330.out | refine below_set ?_ GE331.out | refine below_set ?_ GE350.out | refine below_set ?_ GE356.out) | exact HB.out))))
      have n6_:=Aside0.mk (blk_below (g:=gb330) (o:=.cells #[.int .i64 a0_0,.int .i64 a0_1,.slice A0_2 l0_2.length c0_2] 33 (0,0)) (by (with_reducible repeat (first | refine blk_drewN ?_ _ | refine blk_drew ?_ | refine blk_alloc ?_ _));exact BK330.out) hb)
      have n7_:=Aside0.mk (blk_below (g:=gb331) (o:=.cells #[.int .i64 a1_0,.int .i64 a1_1,.slice A1_2 l1_2.length c1_2] 33 (0,0)) (by (with_reducible repeat (first | refine blk_drewN ?_ _ | refine blk_drew ?_ | refine blk_alloc ?_ _));exact BK331.out) hb)
      have n8_:=Aside0.mk (blk_below (g:=gb350) (o:=.cells #[.int .i64 t345,.int .i64 t346,.slice Ao119 t347.length co119] 25 (0,0)) (by (with_reducible repeat (first | refine blk_drewN ?_ _ | refine blk_drew ?_ | refine blk_alloc ?_ _));exact BK350.out) hb)
      have n9_:=Aside0.mk (blk_below (g:=gb356) (o:=.cells #[.int .i64 t351,.int .i64 t352,.slice Ao127 t353.length co127] 25 (0,0)) (by (with_reducible repeat (first | refine blk_drewN ?_ _ | refine blk_drew ?_ | refine blk_alloc ?_ _));exact BK356.out) hb)
      have n10_:=Aside0.mk (below_step (by repeat (first | (with_reducible first | exact HB.out | apply below_alloc | apply pw_below_drewN | apply below_drew1 | refine below_set ?_ GE330.out | refine below_set ?_ GE331.out | refine below_set ?_ GE350.out | refine below_set ?_ GE356.out) | exact HB.out)) hb)
      clear HO338
      clear HO343
      clear HO349
      clear HO355
      clear HO362
      clear BK330
      clear BK331
      clear BK350
      clear BK356
      clear HB
      have HO338:=n0_
      have HO343:=n1_
      have HO349:=n2_
      have HO355:=n3_
      have HO362:=n4_
      have HO368:=n5_
      have BK330:=n6_
      have BK331:=n7_
      have BK350:=n8_
      have BK356:=n9_
      have HB:=n10_
      clear n0_ n1_ n2_ n3_ n4_ n5_ n6_ n7_ n8_ n9_ n10_
      (try clear hb)
      (try clear hb2)
      (try clear hk)
      (try clear hi)
      (try clear ho0)
      obtain ⟨Ao136,co136,eo136⟩:=Kd.R_slice HO368.out
      (first | subst eo136 | (injection eo136 with f1_ f2_ f3_;have f4_:=f1_.symm;have f5_:=f3_.symm;clear f1_ f2_ f3_;subst f4_;subst f5_))
      refine hK.out _ _ ⟨(blk_cell BK356.out 0).trans rfl,(blk_cell BK356.out 1).trans rfl,(blk_cell BK356.out 2).trans rfl,(blk_cell BK331.out 0).trans rfl,(blk_cell BK331.out 1).trans rfl,(blk_cell BK331.out 2).trans rfl⟩ (fun hHeld=>?_)
      clear hK K
      refine norm_ (a':=?_) ?_ ?_
      rotate_left
      ·show Act.put _ (some 42) _ = _
       simp only [Act.put,List.setIfInBounds_toArray,List.set_cons_zero,List.set_cons_succ,i64_w,i32_w]
       rfl
      refine one_ (i:=3) (N:=some 43) #[true,true,true,true,false] rfl rfl (by kernel_rfl) (by decide) (fun K hK=>?_)
      refine goes_ Tryd.func22 (by kernel_rfl) rfl #[.agg #[.int .i64 t351,.int .i64 t352,.slice Ao127 t353.length co127],.agg #[.int .i64 t364,.int .i64 t365,.slice Ao136 t366.length co136]] (by rfl) rfl rfl (by (try simp only [List.map_toArray,List.map_cons,List.map_nil]);first | done | rfl | (simp only [List.length_drop,List.length_take];rfl)) ?_
      with_reducible refine (laws_eqSeal.calls k t351 t352 _ _ t353 t364 t365 _ _ t366 false _ ?side1 ?side2 ?side3 ?side4 A60.out).mono ?_
      (case side1=>repeat (first | exact (Kd.R_reads' HO355.out).2.2 | (with_reducible refine Kd.C_alloc ?_ _) | (with_reducible refine Kd.C_drewN ?_ _) | (with_reducible refine Kd.C_drew ?_)))
      (case side2=>exact (Kd.R_reads' HO355.out).2.1)
      (case side3=>repeat (first | exact (Kd.R_reads' HO368.out).2.2 | (with_reducible refine Kd.C_alloc ?_ _) | (with_reducible refine Kd.C_drewN ?_ _) | (with_reducible refine Kd.C_drew ?_)))
      (case side4=>exact (Kd.R_reads' HO368.out).2.1)
      rintro e w137 ⟨rfl,hb⟩
      refine ⟨_,rfl,?_⟩
      have n0_:=Aside0.mk (Kd.R_below (by (with_reducible repeat (first | apply Kd.R_alloc | apply Kd.R_drewN | apply Kd.R_drew));exact HO338.out) hb)
      have n1_:=Aside0.mk (Kd.R_below (by (with_reducible repeat (first | apply Kd.R_alloc | apply Kd.R_drewN | apply Kd.R_drew));exact HO343.out) hb)
      have n2_:=Aside0.mk (Kd.R_below (by (with_reducible repeat (first | apply Kd.R_alloc | apply Kd.R_drewN | apply Kd.R_drew));exact HO349.out) hb)
      have n3_:=Aside0.mk (Kd.R_below (by (with_reducible repeat (first | apply Kd.R_alloc | apply Kd.R_drewN | apply Kd.R_drew));exact HO355.out) hb)
      have n4_:=Aside0.mk (Kd.R_below (by (with_reducible repeat (first | apply Kd.R_alloc | apply Kd.R_drewN | apply Kd.R_drew));exact HO362.out) hb)
      have n5_:=Aside0.mk (Kd.R_below (by (with_reducible repeat (first | apply Kd.R_alloc | apply Kd.R_drewN | apply Kd.R_drew));exact HO368.out) hb)
      have n6_:=Aside0.mk (blk_below (g:=gb330) (o:=.cells #[.int .i64 a0_0,.int .i64 a0_1,.slice A0_2 l0_2.length c0_2] 33 (0,0)) (by (with_reducible repeat (first | refine blk_drewN ?_ _ | refine blk_drew ?_ | refine blk_alloc ?_ _));exact BK330.out) hb)
      have n7_:=Aside0.mk (blk_below (g:=gb331) (o:=.cells #[.int .i64 a1_0,.int .i64 a1_1,.slice A1_2 l1_2.length c1_2] 33 (0,0)) (by (with_reducible repeat (first | refine blk_drewN ?_ _ | refine blk_drew ?_ | refine blk_alloc ?_ _));exact BK331.out) hb)
      have n8_:=Aside0.mk (blk_below (g:=gb350) (o:=.cells #[.int .i64 t345,.int .i64 t346,.slice Ao119 t347.length co119] 25 (0,0)) (by (with_reducible repeat (first | refine blk_drewN ?_ _ | refine blk_drew ?_ | refine blk_alloc ?_ _));exact BK350.out) hb)
      have n9_:=Aside0.mk (blk_below (g:=gb356) (o:=.cells #[.int .i64 t351,.int .i64 t352,.slice Ao127 t353.length co127] 25 (0,0)) (by (with_reducible repeat (first | refine blk_drewN ?_ _ | refine blk_drew ?_ | refine blk_alloc ?_ _));exact BK356.out) hb)
      have n10_:=Aside0.mk (below_step (by repeat (first | (with_reducible first | exact HB.out | apply below_alloc | apply pw_below_drewN | apply below_drew1 | refine below_set ?_ GE330.out | refine below_set ?_ GE331.out | refine below_set ?_ GE350.out | refine below_set ?_ GE356.out) | exact HB.out)) hb)
      clear HO338
      clear HO343
      clear HO349
      clear HO355
      clear HO362
      clear HO368
      clear BK330
      clear BK331
      clear BK350
      clear BK356
      clear HB
      have HO338:=n0_
      have HO343:=n1_
      have HO349:=n2_
      have HO355:=n3_
      have HO362:=n4_
      have HO368:=n5_
      have BK330:=n6_
      have BK331:=n7_
      have BK350:=n8_
      have BK356:=n9_
      have HB:=n10_
      clear n0_ n1_ n2_ n3_ n4_ n5_ n6_ n7_ n8_ n9_ n10_
      (try clear hb)
      (try clear hb2)
      (try clear hk)
      (try clear hi)
      refine hK.out _ _ ⟨(blk_cell BK356.out 0).trans rfl,(blk_cell BK356.out 1).trans rfl,(blk_cell BK356.out 2).trans rfl,(blk_cell BK331.out 0).trans rfl,(blk_cell BK331.out 1).trans rfl,(blk_cell BK331.out 2).trans rfl⟩ (fun hHeld=>?_)
      clear hK K
      refine norm_ (a':=?_) ?_ ?_
      rotate_left
      ·show Act.put _ (some 43) _ = _
       simp only [Act.put,List.setIfInBounds_toArray,List.set_cons_zero,List.set_cons_succ,i64_w,i32_w]
       rfl
      refine pure_ (i:=4) (N:=some 44) (v:=?_) (a':=?_) #[true,true,true,true,true] rfl rfl (by kernel_rfl) (fun _ _ _ h=>h) (Or.inl ⟨by rfl,?_⟩) ?_ ?_
      rotate_left;·intro w';go_simp;with_reducible rfl
      rotate_left;·simp only [Act.put,List.setIfInBounds_toArray,List.set_cons_zero,List.set_cons_succ,i64_w,i32_w];rfl
      refine done_ (by kernel_rfl) ?_
      try go_wp2
      go_ret
      exact ⟨by first | rfl | (simp [errW_none,errW_some] <;> rfl) | (simp [*,errW_none,errW_some] <;> rfl),by repeat (first | (with_reducible first | exact HB.out | apply below_alloc | apply pw_below_drewN | apply below_drew1 | refine below_set ?_ GE330.out | refine below_set ?_ GE331.out | refine below_set ?_ GE350.out | refine below_set ?_ GE356.out) | exact HB.out)⟩
    ·replace c58:=Bool.eq_false_iff.mpr c58
     subst c58
     have H1:(some false) = some r:=by rw [if_neg (show ¬ (false = true) by decide)] at H;exact H
     clear H
     have H:=H1
     clear H1
     obtain rfl:=Option.some.inj H
     go_enter Tryd.func6,Tryd.ntmps6
     try go_wp2_with (first | ((with_reducible refine gate_dst (N:=2) rfl ?_);refine box_event ?hg (N:=2) ?hd (cs:=#[.int .i64 a0_0,.int .i64 a0_1,.slice A0_2 l0_2.length c0_2]) (t:=33) ?hr ?_;(case hd=>rfl);(case hg=>rfl);(case hr=>first | (go_simp;done) | (go_simp;rfl));intro gb330 hg w138 hbox hb;have n0_:=Aside0.mk (below_step (by repeat (first | (with_reducible first | exact HB.out | apply below_alloc | apply pw_below_drewN | apply below_drew1) | exact HB.out)) hb);have n1_:=Aside0.mk (hbox);have n2_:=Aside0.mk ((by rw [hg];exact (below_size (by repeat (first | (with_reducible first | exact HB.out | apply below_alloc | apply pw_below_drewN | apply below_drew1) | exact HB.out))):w.heap.size ≤ gb330));have n3_:=Aside0.mk ((by rw [hg];exact (below_size (by repeat (first | (with_reducible first | exact HB.out | apply below_alloc | apply pw_below_drewN | apply below_drew1) | exact HB.out))):w.heap.size ≤ gb330));clear HB;have HB:=n0_;have BK330:=n1_;have GW330:=n2_;have GE330:=n3_;clear n0_ n1_ n2_ n3_;clear hb hbox hg) | ((with_reducible refine gate_dst (N:=3) rfl ?_);refine box_event ?hg (N:=3) ?hd (cs:=#[.int .i64 a1_0,.int .i64 a1_1,.slice A1_2 l1_2.length c1_2]) (t:=33) ?hr ?_;(case hd=>rfl);(case hg=>rfl);(case hr=>first | (go_simp;done) | (go_simp;rfl));intro gb331 hg w139 hbox hb;have n0_:=Aside0.mk (blk_below (g:=gb330) (o:=.cells #[.int .i64 a0_0,.int .i64 a0_1,.slice A0_2 l0_2.length c0_2] 33 (0,0)) (by (with_reducible repeat (first | refine blk_drewN ?_ _ | refine blk_drew ?_ | refine blk_alloc ?_ _));exact BK330.out) hb);have n1_:=Aside0.mk (below_step (by repeat (first | (with_reducible first | exact HB.out | apply below_alloc | apply pw_below_drewN | apply below_drew1 | refine below_set ?_ GE330.out) | exact HB.out)) hb);have n2_:=Aside0.mk (hbox);have n3_:=Aside0.mk ((by rw [hg];exact (below_size (by repeat (first | (with_reducible first | exact HB.out | apply below_alloc | apply pw_below_drewN | apply below_drew1 | refine below_set ?_ GE330.out) | exact HB.out))):w.heap.size ≤ gb331));have n4_:=Aside0.mk ((by rw [hg];exact (below_size (by repeat (first | (with_reducible first | exact HB.out | apply below_alloc | apply pw_below_drewN | apply below_drew1 | refine below_set ?_ GE330.out) | exact HB.out))):w.heap.size ≤ gb331));have n5_:=Aside0.mk ((by rw [hg];exact Nat.ne_of_lt (blk_lt (g:=gb330) (o:=.cells #[.int .i64 a0_0,.int .i64 a0_1,.slice A0_2 l0_2.length c0_2] 33 (0,0)) (by (with_reducible repeat (first | refine blk_drewN ?_ _ | refine blk_drew ?_ | refine blk_alloc ?_ _));exact BK330.out)):gb330 ≠ gb331));have n6_:=Aside0.mk ((by rw [hg];exact Nat.ne_of_gt (blk_lt (g:=gb330) (o:=.cells #[.int .i64 a0_0,.int .i64 a0_1,.slice A0_2 l0_2.length c0_2] 33 (0,0)) (by (with_reducible repeat (first | refine blk_drewN ?_ _ | refine blk_drew ?_ | refine blk_alloc ?_ _));exact BK330.out)):gb331 ≠ gb330));clear BK330;clear HB;have BK330:=n0_;have HB:=n1_;have BK331:=n2_;have GW331:=n3_;have GE331:=n4_;have NB330_331:=n5_;have NB331_330:=n6_;clear n0_ n1_ n2_ n3_ n4_ n5_ n6_;clear hb hbox hg;have hnb140:=NB330_331.out;have hnc140:=NB331_330.out;have hcz141_0:w139.cell? ⟨gb330,0,none⟩ = some (.int .i64 a0_0):=(blk_cell BK330.out 0).trans rfl;have hcz141_1:w139.cell? ⟨gb330,1,none⟩ = some (.int .i64 a0_1):=(blk_cell BK330.out 1).trans rfl;have hcz141_2:w139.cell? ⟨gb330,2,none⟩ = some (.slice A0_2 l0_2.length c0_2):=(blk_cell BK330.out 2).trans rfl;have hfz141_0:=blk_frozen BK330.out 0;have hfz141_1:=blk_frozen BK330.out 1;have hfz141_2:=blk_frozen BK330.out 2) | ((with_reducible refine gate_callee (f:=20) rfl ?_);refine goesL_ (some 12) rfl rfl Tryd.func20 (by kernel_rfl) rfl #[.agg #[.int .i64 a0_0,.int .i64 a0_1,.slice A0_2 l0_2.length c0_2],.int .i64 1048576] rfl (by (try simp only [List.map_toArray,List.map_cons,List.map_nil]);first | done | rfl | (simp only [List.length_drop,List.length_take];rfl)) ?_;(with_reducible refine (laws_szSeal.calls k a0_0 a0_1 _ _ l0_2 1048576 t332 _ ?side1 ?side2 A3.out).mono ?_);(case side1=>repeat (first | exact (Kd.C_below HR0_2.out HB.out) | (with_reducible refine Kd.C_alloc ?_ _) | (with_reducible refine Kd.C_drewN ?_ _) | (with_reducible refine Kd.C_drew ?_)));(case side2=>exact HC0_2.out);rintro e w142 ⟨rfl,hb⟩;refine ⟨_,rfl,?_⟩;have n0_:=Aside0.mk (blk_below (g:=gb330) (o:=.cells #[.int .i64 a0_0,.int .i64 a0_1,.slice A0_2 l0_2.length c0_2] 33 (0,0)) (by (with_reducible repeat (first | refine blk_drewN ?_ _ | refine blk_drew ?_ | refine blk_alloc ?_ _));exact BK330.out) hb);have n1_:=Aside0.mk (blk_below (g:=gb331) (o:=.cells #[.int .i64 a1_0,.int .i64 a1_1,.slice A1_2 l1_2.length c1_2] 33 (0,0)) (by (with_reducible repeat (first | refine blk_drewN ?_ _ | refine blk_drew ?_ | refine blk_alloc ?_ _));exact BK331.out) hb);have n2_:=Aside0.mk (below_step (by repeat (first | (with_reducible first | exact HB.out | apply below_alloc | apply pw_below_drewN | apply below_drew1 | refine below_set ?_ GE330.out | refine below_set ?_ GE331.out) | exact HB.out)) hb);clear BK330;clear BK331;clear HB;have BK330:=n0_;have BK331:=n1_;have HB:=n2_;clear n0_ n1_ n2_;(try clear hb);(try clear hb2);(try clear hk);(try clear hi);have hcz143_0:w142.cell? ⟨gb331,0,none⟩ = some (.int .i64 a1_0):=(blk_cell BK331.out 0).trans rfl;have hcz143_1:w142.cell? ⟨gb331,1,none⟩ = some (.int .i64 a1_1):=(blk_cell BK331.out 1).trans rfl;have hcz143_2:w142.cell? ⟨gb331,2,none⟩ = some (.slice A1_2 l1_2.length c1_2):=(blk_cell BK331.out 2).trans rfl;have hfz143_0:=blk_frozen BK331.out 0;have hfz143_1:=blk_frozen BK331.out 1;have hfz143_2:=blk_frozen BK331.out 2) | ((with_reducible refine gate_callee (f:=20) rfl ?_);refine goesL_ (some 17) rfl rfl Tryd.func20 (by kernel_rfl) rfl #[.agg #[.int .i64 a1_0,.int .i64 a1_1,.slice A1_2 l1_2.length c1_2],.int .i64 t332] rfl (by (try simp only [List.map_toArray,List.map_cons,List.map_nil]);first | done | rfl | (simp only [List.length_drop,List.length_take];rfl)) ?_;(with_reducible refine (laws_szSeal.calls k a1_0 a1_1 _ _ l1_2 t332 t333 _ ?side1 ?side2 A10.out).mono ?_);(case side1=>repeat (first | exact (Kd.C_below HR1_2.out HB.out) | (with_reducible refine Kd.C_alloc ?_ _) | (with_reducible refine Kd.C_drewN ?_ _) | (with_reducible refine Kd.C_drew ?_)));(case side2=>exact HC1_2.out);rintro e w144 ⟨rfl,hb⟩;refine ⟨_,rfl,?_⟩;have n0_:=Aside0.mk (blk_below (g:=gb330) (o:=.cells #[.int .i64 a0_0,.int .i64 a0_1,.slice A0_2 l0_2.length c0_2] 33 (0,0)) (by (with_reducible repeat (first | refine blk_drewN ?_ _ | refine blk_drew ?_ | refine blk_alloc ?_ _));exact BK330.out) hb);have n1_:=Aside0.mk (blk_below (g:=gb331) (o:=.cells #[.int .i64 a1_0,.int .i64 a1_1,.slice A1_2 l1_2.length c1_2] 33 (0,0)) (by (with_reducible repeat (first | refine blk_drewN ?_ _ | refine blk_drew ?_ | refine blk_alloc ?_ _));exact BK331.out) hb);have n2_:=Aside0.mk (below_step (by repeat (first | (with_reducible first | exact HB.out | apply below_alloc | apply pw_below_drewN | apply below_drew1 | refine below_set ?_ GE330.out | refine below_set ?_ GE331.out) | exact HB.out)) hb);clear BK330;clear BK331;clear HB;have BK330:=n0_;have BK331:=n1_;have HB:=n2_;clear n0_ n1_ n2_;(try clear hb);(try clear hb2);(try clear hk);(try clear hi)))
     have n0_:=Aside0.mk (blk_drew BK330.out)
     have n1_:=Aside0.mk (blk_drew BK331.out)
     have n2_:=Aside0.mk (below_drew1 HB.out)
     clear BK330
     clear BK331
     clear HB
     have BK330:=n0_
     have BK331:=n1_
     have HB:=n2_
     clear n0_ n1_ n2_
     refine start_ (n:=6) (S:=fun w'=>w'.cell? ⟨gb330,0,none⟩ = some (.int .i64 a0_0)∧w'.cell? ⟨gb330,1,none⟩ = some (.int .i64 a0_1)∧w'.cell? ⟨gb330,2,none⟩ = some (.slice A0_2 l0_2.length c0_2)∧w'.cell? ⟨gb331,0,none⟩ = some (.int .i64 a1_0)∧w'.cell? ⟨gb331,1,none⟩ = some (.int .i64 a1_1)∧w'.cell? ⟨gb331,2,none⟩ = some (.slice A1_2 l1_2.length c1_2)) (ds:=[]) #[false,false,false,false,false,false] (by kernel_rfl) rfl rfl ⟨(blk_cell BK330.out 0).trans rfl,(blk_cell BK330.out 1).trans rfl,(blk_cell BK330.out 2).trans rfl,(blk_cell BK331.out 0).trans rfl,(blk_cell BK331.out 1).trans rfl,(blk_cell BK331.out 2).trans rfl⟩ (fun hHeld=>?_)
     generalize w144.drew = w145 at BK330 BK331 HB hHeld ⊢
     refine take_ (i:=0) (N:=some 20) (v:=?_) (a':=?_) #[true,false,false,false,false,false] rfl rfl (by kernel_rfl) (fun _ _ _ h=>h) (Or.inl ⟨by rfl,?_⟩) hHeld ?_ ?_
     rotate_left;·rintro w' ⟨s0,s1,s2,s3,s4,s5⟩;go_simp;with_reducible rfl
     rotate_left;·simp only [Act.put,List.setIfInBounds_toArray,List.set_cons_zero,List.set_cons_succ,i64_w,i32_w];rfl
     refine take_ (i:=2) (N:=some 22) (v:=?_) (a':=?_) #[true,false,true,false,false,false] rfl rfl (by kernel_rfl) (fun _ _ _ h=>h) (Or.inl ⟨by rfl,?_⟩) hHeld ?_ ?_
     rotate_left;·rintro w' ⟨s0,s1,s2,s3,s4,s5⟩;go_simp;with_reducible rfl
     rotate_left;·simp only [Act.put,List.setIfInBounds_toArray,List.set_cons_zero,List.set_cons_succ,i64_w,i32_w];rfl
     refine one_ (i:=1) (N:=some 21) #[true,true,true,false,false,false] rfl rfl (by kernel_rfl) (by decide) (fun K hK=>?_)
     refine goes_ Tryd.func21 (by kernel_rfl) rfl #[.agg #[.int .i64 a0_0,.int .i64 a0_1,.slice A0_2 l0_2.length c0_2]] (by rfl) rfl rfl (by (try simp only [List.map_toArray,List.map_cons,List.map_nil]);first | done | rfl | (simp only [List.length_drop,List.length_take];rfl)) ?_
     with_reducible refine (laws_toSeal.calls k a0_0 a0_1 _ _ l0_2 t334 t335 t336 _ ?side1 ?side2 A19.out).mono ?_
     (case side1=>repeat (first | exact (Kd.C_below HR0_2.out HB.out) | (with_reducible refine Kd.C_alloc ?_ _) | (with_reducible refine Kd.C_drewN ?_ _) | (with_reducible refine Kd.C_drew ?_)))
     (case side2=>exact HC0_2.out)
     rintro e w146 ⟨v337,rfl,ho0,hb⟩
     refine ⟨_,rfl,?_⟩
     have n0_:=Aside0.mk (Kd.R_lower ho0 (below_size (by repeat (first | (with_reducible first | exact HB.out | apply below_alloc | apply pw_below_drewN | apply below_drew1 | refine below_set ?_ GE330.out | refine below_set ?_ GE331.out) | exact HB.out))))
     have n1_:=Aside0.mk (blk_below (g:=gb330) (o:=.cells #[.int .i64 a0_0,.int .i64 a0_1,.slice A0_2 l0_2.length c0_2] 33 (0,0)) (by (with_reducible repeat (first | refine blk_drewN ?_ _ | refine blk_drew ?_ | refine blk_alloc ?_ _));exact BK330.out) hb)
     have n2_:=Aside0.mk (blk_below (g:=gb331) (o:=.cells #[.int .i64 a1_0,.int .i64 a1_1,.slice A1_2 l1_2.length c1_2] 33 (0,0)) (by (with_reducible repeat (first | refine blk_drewN ?_ _ | refine blk_drew ?_ | refine blk_alloc ?_ _));exact BK331.out) hb)
     have n3_:=Aside0.mk (below_step (by repeat (first | (with_reducible first | exact HB.out | apply below_alloc | apply pw_below_drewN | apply below_drew1 | refine below_set ?_ GE330.out | refine below_set ?_ GE331.out) | exact HB.out)) hb)
     clear BK330
     clear BK331
     clear HB
     have HO338:=n0_
     have BK330:=n1_
     have BK331:=n2_
     have HB:=n3_
     clear n0_ n1_ n2_ n3_
     (try clear hb)
     (try clear hb2)
     (try clear hk)
     (try clear hi)
     (try clear ho0)
     refine hK.out _ _ ⟨(blk_cell BK330.out 0).trans rfl,(blk_cell BK330.out 1).trans rfl,(blk_cell BK330.out 2).trans rfl,(blk_cell BK331.out 0).trans rfl,(blk_cell BK331.out 1).trans rfl,(blk_cell BK331.out 2).trans rfl⟩ (fun hHeld=>?_)
     clear hK K
     refine norm_ (a':=?_) ?_ ?_
     rotate_left
     ·show Act.put _ (some 21) _ = _
      simp only [Act.put,List.setIfInBounds_toArray,List.set_cons_zero,List.set_cons_succ,i64_w,i32_w]
      rfl
     refine one_ (i:=3) (N:=some 23) #[true,true,true,true,false,false] rfl rfl (by kernel_rfl) (by decide) (fun K hK=>?_)
     refine goes_ Tryd.func21 (by kernel_rfl) rfl #[.agg #[.int .i64 a1_0,.int .i64 a1_1,.slice A1_2 l1_2.length c1_2]] (by rfl) rfl rfl (by (try simp only [List.map_toArray,List.map_cons,List.map_nil]);first | done | rfl | (simp only [List.length_drop,List.length_take];rfl)) ?_
     with_reducible refine (laws_toSeal.calls k a1_0 a1_1 _ _ l1_2 t339 t340 t341 _ ?side1 ?side2 A20.out).mono ?_
     (case side1=>repeat (first | exact (Kd.C_below HR1_2.out HB.out) | (with_reducible refine Kd.C_alloc ?_ _) | (with_reducible refine Kd.C_drewN ?_ _) | (with_reducible refine Kd.C_drew ?_)))
     (case side2=>exact HC1_2.out)
     rintro e w147 ⟨v342,rfl,ho0,hb⟩
     refine ⟨_,rfl,?_⟩
     have n0_:=Aside0.mk (Kd.R_elder' (by (with_reducible repeat (first | apply Kd.R_alloc | apply Kd.R_drewN | apply Kd.R_drew));exact HO338.out) (Kd.R_base ho0) hb)
     have n1_:=Aside0.mk (Kd.R_lower (Kd.R_new' ho0 (Kd.R_lt (by (with_reducible repeat (first | apply Kd.R_alloc | apply Kd.R_drewN | apply Kd.R_drew));exact HO338.out))) (below_size (by repeat (first | (with_reducible first | exact HB.out | apply below_alloc | apply pw_below_drewN | apply below_drew1 | refine below_set ?_ GE330.out | refine below_set ?_ GE331.out) | exact HB.out))))
     have n2_:=Aside0.mk (blk_below (g:=gb330) (o:=.cells #[.int .i64 a0_0,.int .i64 a0_1,.slice A0_2 l0_2.length c0_2] 33 (0,0)) (by (with_reducible repeat (first | refine blk_drewN ?_ _ | refine blk_drew ?_ | refine blk_alloc ?_ _));exact BK330.out) hb)
     have n3_:=Aside0.mk (blk_below (g:=gb331) (o:=.cells #[.int .i64 a1_0,.int .i64 a1_1,.slice A1_2 l1_2.length c1_2] 33 (0,0)) (by (with_reducible repeat (first | refine blk_drewN ?_ _ | refine blk_drew ?_ | refine blk_alloc ?_ _));exact BK331.out) hb)
     have n4_:=Aside0.mk (below_step (by repeat (first | (with_reducible first | exact HB.out | apply below_alloc | apply pw_below_drewN | apply below_drew1 | refine below_set ?_ GE330.out | refine below_set ?_ GE331.out) | exact HB.out)) hb)
     clear HO338
     clear BK330
     clear BK331
     clear HB
     have HO338:=n0_
     have HO343:=n1_
     have BK330:=n2_
     have BK331:=n3_
     have HB:=n4_
     clear n0_ n1_ n2_ n3_ n4_
     (try clear hb)
     (try clear hb2)
     (try clear hk)
     (try clear hi)
     (try clear ho0)
     obtain ⟨Ao148,co148,eo148⟩:=Kd.R_slice HO338.out
     (first | subst eo148 | (injection eo148 with f1_ f2_ f3_;have f4_:=f1_.symm;have f5_:=f3_.symm;clear f1_ f2_ f3_;subst f4_;subst f5_))
     obtain ⟨Ao149,co149,eo149⟩:=Kd.R_slice HO343.out
     (first | subst eo149 | (injection eo149 with f1_ f2_ f3_;have f4_:=f1_.symm;have f5_:=f3_.symm;clear f1_ f2_ f3_;subst f4_;subst f5_))
     refine hK.out _ _ ⟨(blk_cell BK330.out 0).trans rfl,(blk_cell BK330.out 1).trans rfl,(blk_cell BK330.out 2).trans rfl,(blk_cell BK331.out 0).trans rfl,(blk_cell BK331.out 1).trans rfl,(blk_cell BK331.out 2).trans rfl⟩ (fun hHeld=>?_)
     clear hK K
     refine norm_ (a':=?_) ?_ ?_
     rotate_left
     ·show Act.put _ (some 23) _ = _
      simp only [Act.put,List.setIfInBounds_toArray,List.set_cons_zero,List.set_cons_succ,i64_w,i32_w]
      rfl
     refine one_ (i:=4) (N:=some 24) #[true,true,true,true,true,false] rfl rfl (by kernel_rfl) (by decide) (fun K hK=>?_)
     refine goes_ Tryd.func23 (by kernel_rfl) rfl #[.agg #[.int .i64 t334,.int .i64 t335,.slice Ao148 t336.length co148],.agg #[.int .i64 t339,.int .i64 t340,.slice Ao149 t341.length co149]] (by rfl) rfl rfl (by (try simp only [List.map_toArray,List.map_cons,List.map_nil]);first | done | rfl | (simp only [List.length_drop,List.length_take];rfl)) ?_
     with_reducible refine (spec_SealUnder.calls k t334 t335 _ _ t336 t339 t340 _ _ t341 t344 _ ?side1 ?side2 ?side3 ?side4 A21.out).mono ?_
     (case side1=>repeat (first | exact (Kd.R_reads' HO338.out).2.2 | (with_reducible refine Kd.C_alloc ?_ _) | (with_reducible refine Kd.C_drewN ?_ _) | (with_reducible refine Kd.C_drew ?_)))
     (case side2=>exact (Kd.R_reads' HO338.out).2.1)
     (case side3=>repeat (first | exact (Kd.R_reads' HO343.out).2.2 | (with_reducible refine Kd.C_alloc ?_ _) | (with_reducible refine Kd.C_drewN ?_ _) | (with_reducible refine Kd.C_drew ?_)))
     (case side4=>exact (Kd.R_reads' HO343.out).2.1)
     rintro e w150 ⟨rfl,hb⟩
     refine ⟨_,rfl,?_⟩
     have n0_:=Aside0.mk (Kd.R_below (by (with_reducible repeat (first | apply Kd.R_alloc | apply Kd.R_drewN | apply Kd.R_drew));exact HO338.out) hb)
     have n1_:=Aside0.mk (Kd.R_below (by (with_reducible repeat (first | apply Kd.R_alloc | apply Kd.R_drewN | apply Kd.R_drew));exact HO343.out) hb)
     have n2_:=Aside0.mk (blk_below (g:=gb330) (o:=.cells #[.int .i64 a0_0,.int .i64 a0_1,.slice A0_2 l0_2.length c0_2] 33 (0,0)) (by (with_reducible repeat (first | refine blk_drewN ?_ _ | refine blk_drew ?_ | refine blk_alloc ?_ _));exact BK330.out) hb)
     have n3_:=Aside0.mk (blk_below (g:=gb331) (o:=.cells #[.int .i64 a1_0,.int .i64 a1_1,.slice A1_2 l1_2.length c1_2] 33 (0,0)) (by (with_reducible repeat (first | refine blk_drewN ?_ _ | refine blk_drew ?_ | refine blk_alloc ?_ _));exact BK331.out) hb)
     have n4_:=Aside0.mk (below_step (by repeat (first | (with_reducible first | exact HB.out | apply below_alloc | apply pw_below_drewN | apply below_drew1 | refine below_set ?_ GE330.out | refine below_set ?_ GE331.out) | exact HB.out)) hb)
     clear HO338
     clear HO343
     clear BK330
     clear BK331
     clear HB
     have HO338:=n0_
     have HO343:=n1_
     have BK330:=n2_
     have BK331:=n3_
     have HB:=n4_
     clear n0_ n1_ n2_ n3_ n4_
     (try clear hb)
     (try clear hb2)
     (try clear hk)
     (try clear hi)
     refine hK.out _ _ ⟨(blk_cell BK330.out 0).trans rfl,(blk_cell BK330.out 1).trans rfl,(blk_cell BK330.out 2).trans rfl,(blk_cell BK331.out 0).trans rfl,(blk_cell BK331.out 1).trans rfl,(blk_cell BK331.out 2).trans rfl⟩ (fun hHeld=>?_)
     clear hK K
     refine norm_ (a':=?_) ?_ ?_
     rotate_left
     ·show Act.put _ (some 24) _ = _
      simp only [Act.put,List.setIfInBounds_toArray,List.set_cons_zero,List.set_cons_succ,i64_w,i32_w]
      rfl
     refine pure_ (i:=5) (N:=some 6) (v:=?_) (a':=?_) #[true,true,true,true,true,true] rfl rfl (by kernel_rfl) (fun _ _ _ h=>h) (Or.inl ⟨by rfl,?_⟩) ?_ ?_
     rotate_left;·intro w';go_simp;with_reducible rfl
     rotate_left;·simp only [Act.put,List.setIfInBounds_toArray,List.set_cons_zero,List.set_cons_succ,i64_w,i32_w];rfl
     refine done_ (by kernel_rfl) ?_
     have hcz151_0:w150.cell? ⟨gb330,0,none⟩ = some (.int .i64 a0_0):=(blk_cell BK330.out 0).trans rfl
     have hcz151_1:w150.cell? ⟨gb330,1,none⟩ = some (.int .i64 a0_1):=(blk_cell BK330.out 1).trans rfl
     have hcz151_2:w150.cell? ⟨gb330,2,none⟩ = some (.slice A0_2 l0_2.length c0_2):=(blk_cell BK330.out 2).trans rfl
     have hfz151_0:=blk_frozen BK330.out 0
     have hfz151_1:=blk_frozen BK330.out 1
     have hfz151_2:=blk_frozen BK330.out 2
     try go_wp2_with (first | ((with_reducible refine gate_callee (f:=21) rfl ?_);refine goesL_ (some 26) rfl rfl Tryd.func21 (by kernel_rfl) rfl #[.agg #[.int .i64 a0_0,.int .i64 a0_1,.slice A0_2 l0_2.length c0_2]] rfl (by (try simp only [List.map_toArray,List.map_cons,List.map_nil]);first | done | rfl | (simp only [List.length_drop,List.length_take];rfl)) ?_;(with_reducible refine (laws_toSeal.calls k a0_0 a0_1 _ _ l0_2 t345 t346 t347 _ ?side1 ?side2 A22.out).mono ?_);(case side1=>repeat (first | exact (Kd.C_below HR0_2.out HB.out) | (with_reducible refine Kd.C_alloc ?_ _) | (with_reducible refine Kd.C_drewN ?_ _) | (with_reducible refine Kd.C_drew ?_)));(case side2=>exact HC0_2.out);rintro e w152 ⟨v348,rfl,ho0,hb⟩;refine ⟨_,rfl,?_⟩;have n0_:=Aside0.mk (Kd.R_elder' (by (with_reducible repeat (first | apply Kd.R_alloc | apply Kd.R_drewN | apply Kd.R_drew));exact HO338.out) (Kd.R_base ho0) hb);have n1_:=Aside0.mk (Kd.R_elder' (by (with_reducible repeat (first | apply Kd.R_alloc | apply Kd.R_drewN | apply Kd.R_drew));exact HO343.out) (Kd.R_base ho0) hb);have n2_:=Aside0.mk (Kd.R_lower (Kd.R_new' (Kd.R_new' ho0 (Kd.R_lt (by (with_reducible repeat (first | apply Kd.R_alloc | apply Kd.R_drewN | apply Kd.R_drew));exact HO338.out))) (Kd.R_lt (by (with_reducible repeat (first | apply Kd.R_alloc | apply Kd.R_drewN | apply Kd.R_drew));exact HO343.out))) (below_size (by repeat (first | (with_reducible first | exact HB.out | apply below_alloc | apply pw_below_drewN | apply below_drew1 | refine below_set ?_ GE330.out | refine below_set ?_ GE331.out) | exact HB.out))));have n3_:=Aside0.mk (blk_below (g:=gb330) (o:=.cells #[.int .i64 a0_0,.int .i64 a0_1,.slice A0_2 l0_2.length c0_2] 33 (0,0)) (by (with_reducible repeat (first | refine blk_drewN ?_ _ | refine blk_drew ?_ | refine blk_alloc ?_ _));exact BK330.out) hb);have n4_:=Aside0.mk (blk_below (g:=gb331) (o:=.cells #[.int .i64 a1_0,.int .i64 a1_1,.slice A1_2 l1_2.length c1_2] 33 (0,0)) (by (with_reducible repeat (first | refine blk_drewN ?_ _ | refine blk_drew ?_ | refine blk_alloc ?_ _));exact BK331.out) hb);have n5_:=Aside0.mk (below_step (by repeat (first | (with_reducible first | exact HB.out | apply below_alloc | apply pw_below_drewN | apply below_drew1 | refine below_set ?_ GE330.out | refine below_set ?_ GE331.out) | exact HB.out)) hb);clear HO338;clear HO343;clear BK330;clear BK331;clear HB;have HO338:=n0_;have HO343:=n1_;have HO349:=n2_;have BK330:=n3_;have BK331:=n4_;have HB:=n5_;clear n0_ n1_ n2_ n3_ n4_ n5_;(try clear hb);(try clear hb2);(try clear hk);(try clear hi);(try clear ho0)) | ((with_reducible refine gate_dst (N:=7) rfl ?_);refine box_event ?hg (N:=7) ?hd (cs:=#[.int .i64 0,.int .i64 0,.slice none 0 0]) (t:=25) ?hr ?_;(case hd=>rfl);(case hg=>rfl);(case hr=>first | (go_simp;done) | (go_simp;rfl));intro gb350 hg w153 hbox hb;have n0_:=Aside0.mk (Kd.R_below (Kd.R_elderB (by (with_reducible repeat (first | apply Kd.R_alloc | apply Kd.R_drewN | apply Kd.R_drew));exact HO338.out) gb350 (Nat.le_of_eq hg.symm)) hb);have n1_:=Aside0.mk (Kd.R_below (Kd.R_elderB (by (with_reducible repeat (first | apply Kd.R_alloc | apply Kd.R_drewN | apply Kd.R_drew));exact HO343.out) gb350 (Nat.le_of_eq hg.symm)) hb);have n2_:=Aside0.mk (Kd.R_below (Kd.R_elderB (by (with_reducible repeat (first | apply Kd.R_alloc | apply Kd.R_drewN | apply Kd.R_drew));exact HO349.out) gb350 (Nat.le_of_eq hg.symm)) hb);have n3_:=Aside0.mk (blk_below (g:=gb330) (o:=.cells #[.int .i64 a0_0,.int .i64 a0_1,.slice A0_2 l0_2.length c0_2] 33 (0,0)) (by (with_reducible repeat (first | refine blk_drewN ?_ _ | refine blk_drew ?_ | refine blk_alloc ?_ _));exact BK330.out) hb);have n4_:=Aside0.mk (blk_below (g:=gb331) (o:=.cells #[.int .i64 a1_0,.int .i64 a1_1,.slice A1_2 l1_2.length c1_2] 33 (0,0)) (by (with_reducible repeat (first | refine blk_drewN ?_ _ | refine blk_drew ?_ | refine blk_alloc ?_ _));exact BK331.out) hb);have n5_:=Aside0.mk (below_step (by repeat (first | (with_reducible first | exact HB.out | apply below_alloc | apply pw_below_drewN | apply below_drew1 | refine below_set ?_ GE330.out | refine below_set ?_ GE331.out) | exact HB.out)) hb);have n6_:=Aside0.mk (hbox);have n7_:=Aside0.mk ((by rw [hg];exact (below_size (by repeat (first | (with_reducible first | exact HB.out | apply below_alloc | apply pw_below_drewN | apply below_drew1 | refine below_set ?_ GE330.out | refine below_set ?_ GE331.out) | exact HB.out))):w.heap.size ≤ gb350));have n8_:=Aside0.mk ((by rw [hg];exact (below_size (by repeat (first | (with_reducible first | exact HB.out | apply below_alloc | apply pw_below_drewN | apply below_drew1 | refine below_set ?_ GE330.out | refine below_set ?_ GE331.out) | exact HB.out))):w.heap.size ≤ gb350));have n9_:=Aside0.mk ((by rw [hg];exact Nat.ne_of_lt (blk_lt (g:=gb330) (o:=.cells #[.int .i64 a0_0,.int .i64 a0_1,.slice A0_2 l0_2.length c0_2] 33 (0,0)) (by (with_reducible repeat (first | refine blk_drewN ?_ _ | refine blk_drew ?_ | refine blk_alloc ?_ _));exact BK330.out)):gb330 ≠ gb350));have n10_:=Aside0.mk ((by rw [hg];exact Nat.ne_of_gt (blk_lt (g:=gb330) (o:=.cells #[.int .i64 a0_0,.int .i64 a0_1,.slice A0_2 l0_2.length c0_2] 33 (0,0)) (by (with_reducible repeat (first | refine blk_drewN ?_ _ | refine blk_drew ?_ | refine blk_alloc ?_ _));exact BK330.out)):gb350 ≠ gb330));have n11_:=Aside0.mk ((by rw [hg];exact Nat.ne_of_lt (blk_lt (g:=gb331) (o:=.cells #[.int .i64 a1_0,.int .i64 a1_1,.slice A1_2 l1_2.length c1_2] 33 (0,0)) (by (with_reducible repeat (first | refine blk_drewN ?_ _ | refine blk_drew ?_ | refine blk_alloc ?_ _));exact BK331.out)):gb331 ≠ gb350));have n12_:=Aside0.mk ((by rw [hg];exact Nat.ne_of_gt (blk_lt (g:=gb331) (o:=.cells #[.int .i64 a1_0,.int .i64 a1_1,.slice A1_2 l1_2.length c1_2] 33 (0,0)) (by (with_reducible repeat (first | refine blk_drewN ?_ _ | refine blk_drew ?_ | refine blk_alloc ?_ _));exact BK331.out)):gb350 ≠ gb331));clear HO338;clear HO343;clear HO349;clear BK330;clear BK331;clear HB;have HO338:=n0_;have HO343:=n1_;have HO349:=n2_;have BK330:=n3_;have BK331:=n4_;have HB:=n5_;have BK350:=n6_;have GW350:=n7_;have GE350:=n8_;have NB330_350:=n9_;have NB350_330:=n10_;have NB331_350:=n11_;have NB350_331:=n12_;clear n0_ n1_ n2_ n3_ n4_ n5_ n6_ n7_ n8_ n9_ n10_ n11_ n12_;clear hb hbox hg;have hnb154:=NB350_330.out;have hnc154:=NB330_350.out;have hnb155:=NB350_331.out;have hnc155:=NB331_350.out;have hcz156_0:w153.cell? ⟨gb350,0,none⟩ = some (.int .i64 0):=(blk_cell BK350.out 0).trans rfl;have hcz156_1:w153.cell? ⟨gb350,1,none⟩ = some (.int .i64 0):=(blk_cell BK350.out 1).trans rfl;have hcz156_2:w153.cell? ⟨gb350,2,none⟩ = some (.slice none 0 0):=(blk_cell BK350.out 2).trans rfl;have hfz156_0:=blk_frozen BK350.out 0;have hfz156_1:=blk_frozen BK350.out 1;have hfz156_2:=blk_frozen BK350.out 2;obtain ⟨Ao157,co157,eo157⟩:=Kd.R_slice HO349.out;subst eo157;have hcz158_0:w153.cell? ⟨gb331,0,none⟩ = some (.int .i64 a1_0):=(blk_cell BK331.out 0).trans rfl;have hcz158_1:w153.cell? ⟨gb331,1,none⟩ = some (.int .i64 a1_1):=(blk_cell BK331.out 1).trans rfl;have hcz158_2:w153.cell? ⟨gb331,2,none⟩ = some (.slice A1_2 l1_2.length c1_2):=(blk_cell BK331.out 2).trans rfl;have hfz158_0:=blk_frozen BK331.out 0;have hfz158_1:=blk_frozen BK331.out 1;have hfz158_2:=blk_frozen BK331.out 2) | ((with_reducible refine gate_callee (f:=21) rfl ?_);refine goesL_ (some 28) rfl rfl Tryd.func21 (by kernel_rfl) rfl #[.agg #[.int .i64 a1_0,.int .i64 a1_1,.slice A1_2 l1_2.length c1_2]] rfl (by (try simp only [List.map_toArray,List.map_cons,List.map_nil]);first | done | rfl | (simp only [List.length_drop,List.length_take];rfl)) ?_;(with_reducible refine (laws_toSeal.calls k a1_0 a1_1 _ _ l1_2 t351 t352 t353 _ ?side1 ?side2 A23.out).mono ?_);(case side1=>exact Kd.C_below HR1_2.out (by repeat (first | (with_reducible first | exact HB.out | apply below_alloc | apply pw_below_drewN | apply below_drew1 | refine below_set ?_ GE330.out | refine below_set ?_ GE331.out | refine below_set ?_ GE350.out) | exact HB.out)));(case side2=>exact HC1_2.out);rintro e w159 ⟨v354,rfl,ho0,hb⟩;refine ⟨_,rfl,?_⟩;have n0_:=Aside0.mk (Kd.R_elder' (by (with_reducible repeat (first | apply Kd.R_alloc | apply Kd.R_drewN | apply Kd.R_drew));exact (Kd.R_mono (Kd.R_far (p:=⟨gb350,2,none⟩) (Kd.R_far (p:=⟨gb350,1,none⟩) (Kd.R_far (p:=⟨gb350,0,none⟩) (Kd.R_mono HO338.out (fun k_ hk=>(⟨hk,hk.2⟩:_∧k_ ≠ gb350))) (fun _ hk=>hk.2) (.int .i64 t345)) (fun _ hk=>hk.2) (.int .i64 t346)) (fun _ hk=>hk.2) (.slice Ao157 t347.length co157)) (fun _ h_=>h_.1))) (Kd.R_base ho0) hb);have n1_:=Aside0.mk (Kd.R_elder' (by (with_reducible repeat (first | apply Kd.R_alloc | apply Kd.R_drewN | apply Kd.R_drew));exact (Kd.R_mono (Kd.R_far (p:=⟨gb350,2,none⟩) (Kd.R_far (p:=⟨gb350,1,none⟩) (Kd.R_far (p:=⟨gb350,0,none⟩) (Kd.R_mono HO343.out (fun k_ hk=>(⟨hk,hk.2⟩:_∧k_ ≠ gb350))) (fun _ hk=>hk.2) (.int .i64 t345)) (fun _ hk=>hk.2) (.int .i64 t346)) (fun _ hk=>hk.2) (.slice Ao157 t347.length co157)) (fun _ h_=>h_.1))) (Kd.R_base ho0) hb);have n2_:=Aside0.mk (Kd.R_elder' (by (with_reducible repeat (first | apply Kd.R_alloc | apply Kd.R_drewN | apply Kd.R_drew));exact (Kd.R_mono (Kd.R_far (p:=⟨gb350,2,none⟩) (Kd.R_far (p:=⟨gb350,1,none⟩) (Kd.R_far (p:=⟨gb350,0,none⟩) (Kd.R_mono HO349.out (fun k_ hk=>(⟨hk,hk.2⟩:_∧k_ ≠ gb350))) (fun _ hk=>hk.2) (.int .i64 t345)) (fun _ hk=>hk.2) (.int .i64 t346)) (fun _ hk=>hk.2) (.slice Ao157 t347.length co157)) (fun _ h_=>h_.1))) (Kd.R_base ho0) hb);have n3_:=Aside0.mk (Kd.R_lower (Kd.R_newB (Kd.R_new' (Kd.R_new' (Kd.R_new' ho0 (Kd.R_lt (by (with_reducible repeat (first | apply Kd.R_alloc | apply Kd.R_drewN | apply Kd.R_drew));exact (Kd.R_mono (Kd.R_far (p:=⟨gb350,2,none⟩) (Kd.R_far (p:=⟨gb350,1,none⟩) (Kd.R_far (p:=⟨gb350,0,none⟩) (Kd.R_mono HO338.out (fun k_ hk=>(⟨hk,hk.2⟩:_∧k_ ≠ gb350))) (fun _ hk=>hk.2) (.int .i64 t345)) (fun _ hk=>hk.2) (.int .i64 t346)) (fun _ hk=>hk.2) (.slice Ao157 t347.length co157)) (fun _ h_=>h_.1))))) (Kd.R_lt (by (with_reducible repeat (first | apply Kd.R_alloc | apply Kd.R_drewN | apply Kd.R_drew));exact (Kd.R_mono (Kd.R_far (p:=⟨gb350,2,none⟩) (Kd.R_far (p:=⟨gb350,1,none⟩) (Kd.R_far (p:=⟨gb350,0,none⟩) (Kd.R_mono HO343.out (fun k_ hk=>(⟨hk,hk.2⟩:_∧k_ ≠ gb350))) (fun _ hk=>hk.2) (.int .i64 t345)) (fun _ hk=>hk.2) (.int .i64 t346)) (fun _ hk=>hk.2) (.slice Ao157 t347.length co157)) (fun _ h_=>h_.1))))) (Kd.R_lt (by (with_reducible repeat (first | apply Kd.R_alloc | apply Kd.R_drewN | apply Kd.R_drew));exact (Kd.R_mono (Kd.R_far (p:=⟨gb350,2,none⟩) (Kd.R_far (p:=⟨gb350,1,none⟩) (Kd.R_far (p:=⟨gb350,0,none⟩) (Kd.R_mono HO349.out (fun k_ hk=>(⟨hk,hk.2⟩:_∧k_ ≠ gb350))) (fun _ hk=>hk.2) (.int .i64 t345)) (fun _ hk=>hk.2) (.int .i64 t346)) (fun _ hk=>hk.2) (.slice Ao157 t347.length co157)) (fun _ h_=>h_.1))))) (g:=gb350) (o:=.cells #[.int .i64 t345,.int .i64 t346,.slice Ao157 t347.length co157] 25 (0,0)) (by (with_reducible repeat (first | refine blk_drewN ?_ _ | refine blk_drew ?_ | refine blk_alloc ?_ _));refine blk_put (cs:=#[.int .i64 t345,.int .i64 t346,.slice none 0 0]) ?_ 2 _ rfl;(with_reducible repeat (first | refine blk_drewN ?_ _ | refine blk_drew ?_ | refine blk_alloc ?_ _));refine blk_put (cs:=#[.int .i64 t345,.int .i64 0,.slice none 0 0]) ?_ 1 _ rfl;(with_reducible repeat (first | refine blk_drewN ?_ _ | refine blk_drew ?_ | refine blk_alloc ?_ _));refine blk_put (cs:=#[.int .i64 0,.int .i64 0,.slice none 0 0]) ?_ 0 _ rfl;(with_reducible repeat (first | refine blk_drewN ?_ _ | refine blk_drew ?_ | refine blk_alloc ?_ _));exact BK350.out)) (below_size (by repeat (first | (with_reducible first | exact HB.out | apply below_alloc | apply pw_below_drewN | apply below_drew1 | refine below_set ?_ GE330.out | refine below_set ?_ GE331.out | refine below_set ?_ GE350.out) | exact HB.out))));have n4_:=Aside0.mk (blk_below (g:=gb330) (o:=.cells #[.int .i64 a0_0,.int .i64 a0_1,.slice A0_2 l0_2.length c0_2] 33 (0,0)) (by (with_reducible repeat (first | refine blk_drewN ?_ _ | refine blk_drew ?_ | refine blk_alloc ?_ _));refine blk_far ?_ NB330_350.out _;(with_reducible repeat (first | refine blk_drewN ?_ _ | refine blk_drew ?_ | refine blk_alloc ?_ _));refine blk_far ?_ NB330_350.out _;(with_reducible repeat (first | refine blk_drewN ?_ _ | refine blk_drew ?_ | refine blk_alloc ?_ _));refine blk_far ?_ NB330_350.out _;(with_reducible repeat (first | refine blk_drewN ?_ _ | refine blk_drew ?_ | refine blk_alloc ?_ _));exact BK330.out) hb);have n5_:=Aside0.mk (blk_below (g:=gb331) (o:=.cells #[.int .i64 a1_0,.int .i64 a1_1,.slice A1_2 l1_2.length c1_2] 33 (0,0)) (by (with_reducible repeat (first | refine blk_drewN ?_ _ | refine blk_drew ?_ | refine blk_alloc ?_ _));refine blk_far ?_ NB331_350.out _;(with_reducible repeat (first | refine blk_drewN ?_ _ | refine blk_drew ?_ | refine blk_alloc ?_ _));refine blk_far ?_ NB331_350.out _;(with_reducible repeat (first | refine blk_drewN ?_ _ | refine blk_drew ?_ | refine blk_alloc ?_ _));refine blk_far ?_ NB331_350.out _;(with_reducible repeat (first | refine blk_drewN ?_ _ | refine blk_drew ?_ | refine blk_alloc ?_ _));exact BK331.out) hb);have n6_:=Aside0.mk (blk_below (g:=gb350) (o:=.cells #[.int .i64 t345,.int .i64 t346,.slice Ao157 t347.length co157] 25 (0,0)) (by (with_reducible repeat (first | refine blk_drewN ?_ _ | refine blk_drew ?_ | refine blk_alloc ?_ _));refine blk_put (cs:=#[.int .i64 t345,.int .i64 t346,.slice none 0 0]) ?_ 2 _ rfl;(with_reducible repeat (first | refine blk_drewN ?_ _ | refine blk_drew ?_ | refine blk_alloc ?_ _));refine blk_put (cs:=#[.int .i64 t345,.int .i64 0,.slice none 0 0]) ?_ 1 _ rfl;(with_reducible repeat (first | refine blk_drewN ?_ _ | refine blk_drew ?_ | refine blk_alloc ?_ _));refine blk_put (cs:=#[.int .i64 0,.int .i64 0,.slice none 0 0]) ?_ 0 _ rfl;(with_reducible repeat (first | refine blk_drewN ?_ _ | refine blk_drew ?_ | refine blk_alloc ?_ _));exact BK350.out) hb);have n7_:=Aside0.mk (below_step (by repeat (first | (with_reducible first | exact HB.out | apply below_alloc | apply pw_below_drewN | apply below_drew1 | refine below_set ?_ GE330.out | refine below_set ?_ GE331.out | refine below_set ?_ GE350.out) | exact HB.out)) hb);clear HO338;clear HO343;clear HO349;clear BK330;clear BK331;clear BK350;clear HB;have HO338:=n0_;have HO343:=n1_;have HO349:=n2_;have HO355:=n3_;have BK330:=n4_;have BK331:=n5_;have BK350:=n6_;have HB:=n7_;clear n0_ n1_ n2_ n3_ n4_ n5_ n6_ n7_;(try clear hb);(try clear hb2);(try clear hk);(try clear hi);(try clear ho0)) | ((with_reducible refine gate_dst (N:=8) rfl ?_);refine box_event ?hg (N:=8) ?hd (cs:=#[.int .i64 0,.int .i64 0,.slice none 0 0]) (t:=25) ?hr ?_;(case hd=>rfl);(case hg=>rfl);(case hr=>first | (go_simp;done) | (go_simp;rfl));intro gb356 hg w160 hbox hb;have n0_:=Aside0.mk (Kd.R_below (Kd.R_elderB (by (with_reducible repeat (first | apply Kd.R_alloc | apply Kd.R_drewN | apply Kd.R_drew));exact HO338.out) gb356 (Nat.le_of_eq hg.symm)) hb);have n1_:=Aside0.mk (Kd.R_below (Kd.R_elderB (by (with_reducible repeat (first | apply Kd.R_alloc | apply Kd.R_drewN | apply Kd.R_drew));exact HO343.out) gb356 (Nat.le_of_eq hg.symm)) hb);have n2_:=Aside0.mk (Kd.R_below (Kd.R_elderB (by (with_reducible repeat (first | apply Kd.R_alloc | apply Kd.R_drewN | apply Kd.R_drew));exact HO349.out) gb356 (Nat.le_of_eq hg.symm)) hb);have n3_:=Aside0.mk (Kd.R_below (Kd.R_elderB (by (with_reducible repeat (first | apply Kd.R_alloc | apply Kd.R_drewN | apply Kd.R_drew));exact HO355.out) gb356 (Nat.le_of_eq hg.symm)) hb);have n4_:=Aside0.mk (blk_below (g:=gb330) (o:=.cells #[.int .i64 a0_0,.int .i64 a0_1,.slice A0_2 l0_2.length c0_2] 33 (0,0)) (by (with_reducible repeat (first | refine blk_drewN ?_ _ | refine blk_drew ?_ | refine blk_alloc ?_ _));exact BK330.out) hb);have n5_:=Aside0.mk (blk_below (g:=gb331) (o:=.cells #[.int .i64 a1_0,.int .i64 a1_1,.slice A1_2 l1_2.length c1_2] 33 (0,0)) (by (with_reducible repeat (first | refine blk_drewN ?_ _ | refine blk_drew ?_ | refine blk_alloc ?_ _));exact BK331.out) hb);have n6_:=Aside0.mk (blk_below (g:=gb350) (o:=.cells #[.int .i64 t345,.int .i64 t346,.slice Ao157 t347.length co157] 25 (0,0)) (by (with_reducible repeat (first | refine blk_drewN ?_ _ | refine blk_drew ?_ | refine blk_alloc ?_ _));exact BK350.out) hb);have n7_:=Aside0.mk (below_step (by repeat (first | (with_reducible first | exact HB.out | apply below_alloc | apply pw_below_drewN | apply below_drew1 | refine below_set ?_ GE330.out | refine below_set ?_ GE331.out | refine below_set ?_ GE350.out) | exact HB.out)) hb);have n8_:=Aside0.mk (hbox);have n9_:=Aside0.mk ((by rw [hg];exact (below_size (by repeat (first | (with_reducible first | exact HB.out | apply below_alloc | apply pw_below_drewN | apply below_drew1 | refine below_set ?_ GE330.out | refine below_set ?_ GE331.out | refine below_set ?_ GE350.out) | exact HB.out))):w.heap.size ≤ gb356));have n10_:=Aside0.mk ((by rw [hg];exact (below_size (by repeat (first | (with_reducible first | exact HB.out | apply below_alloc | apply pw_below_drewN | apply below_drew1 | refine below_set ?_ GE330.out | refine below_set ?_ GE331.out | refine below_set ?_ GE350.out) | exact HB.out))):w.heap.size ≤ gb356));have n11_:=Aside0.mk ((by rw [hg];exact Nat.ne_of_lt (blk_lt (g:=gb330) (o:=.cells #[.int .i64 a0_0,.int .i64 a0_1,.slice A0_2 l0_2.length c0_2] 33 (0,0)) (by (with_reducible repeat (first | refine blk_drewN ?_ _ | refine blk_drew ?_ | refine blk_alloc ?_ _));exact BK330.out)):gb330 ≠ gb356));have n12_:=Aside0.mk ((by rw [hg];exact Nat.ne_of_gt (blk_lt (g:=gb330) (o:=.cells #[.int .i64 a0_0,.int .i64 a0_1,.slice A0_2 l0_2.length c0_2] 33 (0,0)) (by (with_reducible repeat (first | refine blk_drewN ?_ _ | refine blk_drew ?_ | refine blk_alloc ?_ _));exact BK330.out)):gb356 ≠ gb330));have n13_:=Aside0.mk ((by rw [hg];exact Nat.ne_of_lt (blk_lt (g:=gb331) (o:=.cells #[.int .i64 a1_0,.int .i64 a1_1,.slice A1_2 l1_2.length c1_2] 33 (0,0)) (by (with_reducible repeat (first | refine blk_drewN ?_ _ | refine blk_drew ?_ | refine blk_alloc ?_ _));exact BK331.out)):gb331 ≠ gb356));have n14_:=Aside0.mk ((by rw [hg];exact Nat.ne_of_gt (blk_lt (g:=gb331) (o:=.cells #[.int .i64 a1_0,.int .i64 a1_1,.slice A1_2 l1_2.length c1_2] 33 (0,0)) (by (with_reducible repeat (first | refine blk_drewN ?_ _ | refine blk_drew ?_ | refine blk_alloc ?_ _));exact BK331.out)):gb356 ≠ gb331));have n15_:=Aside0.mk ((by rw [hg];exact Nat.ne_of_lt (blk_lt (g:=gb350) (o:=.cells #[.int .i64 t345,.int .i64 t346,.slice Ao157 t347.length co157] 25 (0,0)) (by (with_reducible repeat (first | refine blk_drewN ?_ _ | refine blk_drew ?_ | refine blk_alloc ?_ _));exact BK350.out)):gb350 ≠ gb356));have n16_:=Aside0.mk ((by rw [hg];exact Nat.ne_of_gt (blk_lt (g:=gb350) (o:=.cells #[.int .i64 t345,.int .i64 t346,.slice Ao157 t347.length co157] 25 (0,0)) (by (with_reducible repeat (first | refine blk_drewN ?_ _ | refine blk_drew ?_ | refine blk_alloc ?_ _));exact BK350.out)):gb356 ≠ gb350));clear HO338;clear HO343;clear HO349;clear HO355;clear BK330;clear BK331;clear BK350;clear HB;have HO338:=n0_;have HO343:=n1_;have HO349:=n2_;have HO355:=n3_;have BK330:=n4_;have BK331:=n5_;have BK350:=n6_;have HB:=n7_;have BK356:=n8_;have GW356:=n9_;have GE356:=n10_;have NB330_356:=n11_;have NB356_330:=n12_;have NB331_356:=n13_;have NB356_331:=n14_;have NB350_356:=n15_;have NB356_350:=n16_;clear n0_ n1_ n2_ n3_ n4_ n5_ n6_ n7_ n8_ n9_ n10_ n11_ n12_ n13_ n14_ n15_ n16_;clear hb hbox hg;have hnb161:=NB356_330.out;have hnc161:=NB330_356.out;have hnb162:=NB356_331.out;have hnc162:=NB331_356.out;have hnb163:=NB356_350.out;have hnc163:=NB350_356.out;have hcz164_0:w160.cell? ⟨gb356,0,none⟩ = some (.int .i64 0):=(blk_cell BK356.out 0).trans rfl;have hcz164_1:w160.cell? ⟨gb356,1,none⟩ = some (.int .i64 0):=(blk_cell BK356.out 1).trans rfl;have hcz164_2:w160.cell? ⟨gb356,2,none⟩ = some (.slice none 0 0):=(blk_cell BK356.out 2).trans rfl;have hfz164_0:=blk_frozen BK356.out 0;have hfz164_1:=blk_frozen BK356.out 1;have hfz164_2:=blk_frozen BK356.out 2;obtain ⟨Ao165,co165,eo165⟩:=Kd.R_slice HO355.out;subst eo165;have hcz166_0:w160.cell? ⟨gb350,0,none⟩ = some (.int .i64 t345):=(blk_cell BK350.out 0).trans rfl;have hcz166_1:w160.cell? ⟨gb350,1,none⟩ = some (.int .i64 t346):=(blk_cell BK350.out 1).trans rfl;have hcz166_2:w160.cell? ⟨gb350,2,none⟩ = some (.slice Ao157 t347.length co157):=(blk_cell BK350.out 2).trans rfl;have hfz166_0:=blk_frozen BK350.out 0;have hfz166_1:=blk_frozen BK350.out 1;have hfz166_2:=blk_frozen BK350.out 2) | ((with_reducible refine gate_callee (f:=17) rfl ?_);refine goesL_ (some 31) rfl rfl Tryd.func17 (by kernel_rfl) rfl #[.agg #[.int .i64 t345,.int .i64 t346,.slice Ao157 t347.length co157],.agg #[.int .i64 t351,.int .i64 t352,.slice Ao165 t353.length co165]] rfl (by (try simp only [List.map_toArray,List.map_cons,List.map_nil]);first | done | rfl | (simp only [List.length_drop,List.length_take];rfl)) ?_;(with_reducible refine (impl_SealUnder.calls k t345 t346 _ _ t347 t351 t352 _ _ t353 t357 _ ?side1 ?side2 ?side3 ?side4 A24.out).mono ?_);(case side1=>refine (Kd.R_reads' (e:=25) (base:=w.heap.size) (ok:=fun k_=>(((((True∧some k_ ≠ (.slice Ao148 t336.length co148:Value).ownBlock)∧some k_ ≠ (.slice Ao149 t341.length co149:Value).ownBlock)∧k_ ≠ gb350)∧some k_ ≠ (.slice Ao165 t353.length co165:Value).ownBlock)∧k_ ≠ gb356)) (n:=t347.length) (c:=co157) ?_).2.2;exact (by (with_reducible repeat (first | apply Kd.R_alloc | apply Kd.R_drewN | apply Kd.R_drew));exact (Kd.R_mono (Kd.R_far (p:=⟨gb356,2,none⟩) (Kd.R_far (p:=⟨gb356,1,none⟩) (Kd.R_far (p:=⟨gb356,0,none⟩) (Kd.R_mono HO349.out (fun k_ hk=>(⟨hk,hk.2⟩:_∧k_ ≠ gb356))) (fun _ hk=>hk.2) (.int .i64 t351)) (fun _ hk=>hk.2) (.int .i64 t352)) (fun _ hk=>hk.2) (.slice Ao165 t353.length co165)) (fun _ h_=>h_.1))));(case side2=>exact (Kd.R_reads' HO349.out).2.1);(case side3=>refine (Kd.R_reads' (e:=25) (base:=w.heap.size) (ok:=fun k_=>(((((True∧some k_ ≠ (.slice Ao148 t336.length co148:Value).ownBlock)∧some k_ ≠ (.slice Ao149 t341.length co149:Value).ownBlock)∧some k_ ≠ (.slice Ao157 t347.length co157:Value).ownBlock)∧k_ ≠ gb350)∧k_ ≠ gb356)) (n:=t353.length) (c:=co165) ?_).2.2;exact (by (with_reducible repeat (first | apply Kd.R_alloc | apply Kd.R_drewN | apply Kd.R_drew));exact (Kd.R_mono (Kd.R_far (p:=⟨gb356,2,none⟩) (Kd.R_far (p:=⟨gb356,1,none⟩) (Kd.R_far (p:=⟨gb356,0,none⟩) (Kd.R_mono HO355.out (fun k_ hk=>(⟨hk,hk.2⟩:_∧k_ ≠ gb356))) (fun _ hk=>hk.2) (.int .i64 t351)) (fun _ hk=>hk.2) (.int .i64 t352)) (fun _ hk=>hk.2) (.slice Ao165 t353.length co165)) (fun _ h_=>h_.1))));(case side4=>exact (Kd.R_reads' HO355.out).2.1);rintro e w167 ⟨rfl,hb⟩;refine ⟨_,rfl,?_⟩;have n0_:=Aside0.mk (Kd.R_below (by (with_reducible repeat (first | apply Kd.R_alloc | apply Kd.R_drewN | apply Kd.R_drew));exact (Kd.R_mono (Kd.R_far (p:=⟨gb356,2,none⟩) (Kd.R_far (p:=⟨gb356,1,none⟩) (Kd.R_far (p:=⟨gb356,0,none⟩) (Kd.R_mono HO338.out (fun k_ hk=>(⟨hk,hk.2⟩:_∧k_ ≠ gb356))) (fun _ hk=>hk.2) (.int .i64 t351)) (fun _ hk=>hk.2) (.int .i64 t352)) (fun _ hk=>hk.2) (.slice Ao165 t353.length co165)) (fun _ h_=>h_.1))) hb);have n1_:=Aside0.mk (Kd.R_below (by (with_reducible repeat (first | apply Kd.R_alloc | apply Kd.R_drewN | apply Kd.R_drew));exact (Kd.R_mono (Kd.R_far (p:=⟨gb356,2,none⟩) (Kd.R_far (p:=⟨gb356,1,none⟩) (Kd.R_far (p:=⟨gb356,0,none⟩) (Kd.R_mono HO343.out (fun k_ hk=>(⟨hk,hk.2⟩:_∧k_ ≠ gb356))) (fun _ hk=>hk.2) (.int .i64 t351)) (fun _ hk=>hk.2) (.int .i64 t352)) (fun _ hk=>hk.2) (.slice Ao165 t353.length co165)) (fun _ h_=>h_.1))) hb);have n2_:=Aside0.mk (Kd.R_below (by (with_reducible repeat (first | apply Kd.R_alloc | apply Kd.R_drewN | apply Kd.R_drew));exact (Kd.R_mono (Kd.R_far (p:=⟨gb356,2,none⟩) (Kd.R_far (p:=⟨gb356,1,none⟩) (Kd.R_far (p:=⟨gb356,0,none⟩) (Kd.R_mono HO349.out (fun k_ hk=>(⟨hk,hk.2⟩:_∧k_ ≠ gb356))) (fun _ hk=>hk.2) (.int .i64 t351)) (fun _ hk=>hk.2) (.int .i64 t352)) (fun _ hk=>hk.2) (.slice Ao165 t353.length co165)) (fun _ h_=>h_.1))) hb);have n3_:=Aside0.mk (Kd.R_below (by (with_reducible repeat (first | apply Kd.R_alloc | apply Kd.R_drewN | apply Kd.R_drew));exact (Kd.R_mono (Kd.R_far (p:=⟨gb356,2,none⟩) (Kd.R_far (p:=⟨gb356,1,none⟩) (Kd.R_far (p:=⟨gb356,0,none⟩) (Kd.R_mono HO355.out (fun k_ hk=>(⟨hk,hk.2⟩:_∧k_ ≠ gb356))) (fun _ hk=>hk.2) (.int .i64 t351)) (fun _ hk=>hk.2) (.int .i64 t352)) (fun _ hk=>hk.2) (.slice Ao165 t353.length co165)) (fun _ h_=>h_.1))) hb);have n4_:=Aside0.mk (blk_below (g:=gb330) (o:=.cells #[.int .i64 a0_0,.int .i64 a0_1,.slice A0_2 l0_2.length c0_2] 33 (0,0)) (by (with_reducible repeat (first | refine blk_drewN ?_ _ | refine blk_drew ?_ | refine blk_alloc ?_ _));refine blk_far ?_ NB330_356.out _;(with_reducible repeat (first | refine blk_drewN ?_ _ | refine blk_drew ?_ | refine blk_alloc ?_ _));refine blk_far ?_ NB330_356.out _;(with_reducible repeat (first | refine blk_drewN ?_ _ | refine blk_drew ?_ | refine blk_alloc ?_ _));refine blk_far ?_ NB330_356.out _;(with_reducible repeat (first | refine blk_drewN ?_ _ | refine blk_drew ?_ | refine blk_alloc ?_ _));exact BK330.out) hb);have n5_:=Aside0.mk (blk_below (g:=gb331) (o:=.cells #[.int .i64 a1_0,.int .i64 a1_1,.slice A1_2 l1_2.length c1_2] 33 (0,0)) (by (with_reducible repeat (first | refine blk_drewN ?_ _ | refine blk_drew ?_ | refine blk_alloc ?_ _));refine blk_far ?_ NB331_356.out _;(with_reducible repeat (first | refine blk_drewN ?_ _ | refine blk_drew ?_ | refine blk_alloc ?_ _));refine blk_far ?_ NB331_356.out _;(with_reducible repeat (first | refine blk_drewN ?_ _ | refine blk_drew ?_ | refine blk_alloc ?_ _));refine blk_far ?_ NB331_356.out _;(with_reducible repeat (first | refine blk_drewN ?_ _ | refine blk_drew ?_ | refine blk_alloc ?_ _));exact BK331.out) hb);have n6_:=Aside0.mk (blk_below (g:=gb350) (o:=.cells #[.int .i64 t345,.int .i64 t346,.slice Ao157 t347.length co157] 25 (0,0)) (by (with_reducible repeat (first | refine blk_drewN ?_ _ | refine blk_drew ?_ | refine blk_alloc ?_ _));refine blk_far ?_ NB350_356.out _;(with_reducible repeat (first | refine blk_drewN ?_ _ | refine blk_drew ?_ | refine blk_alloc ?_ _));refine blk_far ?_ NB350_356.out _;(with_reducible repeat (first | refine blk_drewN ?_ _ | refine blk_drew ?_ | refine blk_alloc ?_ _));refine blk_far ?_ NB350_356.out _;(with_reducible repeat (first | refine blk_drewN ?_ _ | refine blk_drew ?_ | refine blk_alloc ?_ _));exact BK350.out) hb);have n7_:=Aside0.mk (blk_below (g:=gb356) (o:=.cells #[.int .i64 t351,.int .i64 t352,.slice Ao165 t353.length co165] 25 (0,0)) (by (with_reducible repeat (first | refine blk_drewN ?_ _ | refine blk_drew ?_ | refine blk_alloc ?_ _));refine blk_put (cs:=#[.int .i64 t351,.int .i64 t352,.slice none 0 0]) ?_ 2 _ rfl;(with_reducible repeat (first | refine blk_drewN ?_ _ | refine blk_drew ?_ | refine blk_alloc ?_ _));refine blk_put (cs:=#[.int .i64 t351,.int .i64 0,.slice none 0 0]) ?_ 1 _ rfl;(with_reducible repeat (first | refine blk_drewN ?_ _ | refine blk_drew ?_ | refine blk_alloc ?_ _));refine blk_put (cs:=#[.int .i64 0,.int .i64 0,.slice none 0 0]) ?_ 0 _ rfl;(with_reducible repeat (first | refine blk_drewN ?_ _ | refine blk_drew ?_ | refine blk_alloc ?_ _));exact BK356.out) hb);have n8_:=Aside0.mk (below_step (by repeat (first | (with_reducible first | exact HB.out | apply below_alloc | apply pw_below_drewN | apply below_drew1 | refine below_set ?_ GE330.out | refine below_set ?_ GE331.out | refine below_set ?_ GE350.out | refine below_set ?_ GE356.out) | exact HB.out)) hb);clear HO338;clear HO343;clear HO349;clear HO355;clear BK330;clear BK331;clear BK350;clear BK356;clear HB;have HO338:=n0_;have HO343:=n1_;have HO349:=n2_;have HO355:=n3_;have BK330:=n4_;have BK331:=n5_;have BK350:=n6_;have BK356:=n7_;have HB:=n8_;clear n0_ n1_ n2_ n3_ n4_ n5_ n6_ n7_ n8_;(try clear hb);(try clear hb2);(try clear hk);(try clear hi)))
     have n0_:=Aside0.mk (Kd.R_drew HO338.out)
     have n1_:=Aside0.mk (Kd.R_drew HO343.out)
     have n2_:=Aside0.mk (Kd.R_drew HO349.out)
     have n3_:=Aside0.mk (Kd.R_drew HO355.out)
     have n4_:=Aside0.mk (blk_drew BK330.out)
     have n5_:=Aside0.mk (blk_drew BK331.out)
     have n6_:=Aside0.mk (blk_drew BK350.out)
     have n7_:=Aside0.mk (blk_drew BK356.out)
     have n8_:=Aside0.mk (below_drew1 HB.out)
     clear HO338
     clear HO343
     clear HO349
     clear HO355
     clear BK330
     clear BK331
     clear BK350
     clear BK356
     clear HB
     have HO338:=n0_
     have HO343:=n1_
     have HO349:=n2_
     have HO355:=n3_
     have BK330:=n4_
     have BK331:=n5_
     have BK350:=n6_
     have BK356:=n7_
     have HB:=n8_
     clear n0_ n1_ n2_ n3_ n4_ n5_ n6_ n7_ n8_
     refine start_ (n:=5) (S:=fun w'=>w'.cell? ⟨gb350,0,none⟩ = some (.int .i64 t345)∧w'.cell? ⟨gb350,1,none⟩ = some (.int .i64 t346)∧w'.cell? ⟨gb350,2,none⟩ = some (.slice Ao157 t347.length co157)∧w'.cell? ⟨gb330,0,none⟩ = some (.int .i64 a0_0)∧w'.cell? ⟨gb330,1,none⟩ = some (.int .i64 a0_1)∧w'.cell? ⟨gb330,2,none⟩ = some (.slice A0_2 l0_2.length c0_2)) (ds:=[]) #[false,false,false,false,false] (by kernel_rfl) rfl rfl ⟨(blk_cell BK350.out 0).trans rfl,(blk_cell BK350.out 1).trans rfl,(blk_cell BK350.out 2).trans rfl,(blk_cell BK330.out 0).trans rfl,(blk_cell BK330.out 1).trans rfl,(blk_cell BK330.out 2).trans rfl⟩ (fun hHeld=>?_)
     generalize w167.drew = w168 at HO338 HO343 HO349 HO355 BK330 BK331 BK350 BK356 HB hHeld ⊢
     refine take_ (i:=0) (N:=some 35) (v:=?_) (a':=?_) #[true,false,false,false,false] rfl rfl (by kernel_rfl) (fun _ _ _ h=>h) (Or.inl ⟨by rfl,?_⟩) hHeld ?_ ?_
     rotate_left;·rintro w' ⟨s0,s1,s2,s3,s4,s5⟩;go_simp;with_reducible rfl
     rotate_left;·simp only [Act.put,List.setIfInBounds_toArray,List.set_cons_zero,List.set_cons_succ,i64_w,i32_w];rfl
     refine take_ (i:=1) (N:=some 36) (v:=?_) (a':=?_) #[true,true,false,false,false] rfl rfl (by kernel_rfl) (fun _ _ _ h=>h) (Or.inl ⟨by rfl,?_⟩) hHeld ?_ ?_
     rotate_left;·rintro w' ⟨s0,s1,s2,s3,s4,s5⟩;go_simp;with_reducible rfl
     rotate_left;·simp only [Act.put,List.setIfInBounds_toArray,List.set_cons_zero,List.set_cons_succ,i64_w,i32_w];rfl
     refine one_ (i:=2) (N:=some 37) #[true,true,true,false,false] rfl rfl (by kernel_rfl) (by decide) (fun K hK=>?_)
     refine goes_ Tryd.func21 (by kernel_rfl) rfl #[.agg #[.int .i64 a0_0,.int .i64 a0_1,.slice A0_2 l0_2.length c0_2]] (by rfl) rfl rfl (by (try simp only [List.map_toArray,List.map_cons,List.map_nil]);first | done | rfl | (simp only [List.length_drop,List.length_take];rfl)) ?_
     with_reducible refine (laws_toSeal.calls k a0_0 a0_1 _ _ l0_2 t358 t359 t360 _ ?side1 ?side2 A56.out).mono ?_
     (case side1=>repeat (first | exact (Kd.C_below HR0_2.out HB.out) | (with_reducible refine Kd.C_alloc ?_ _) | (with_reducible refine Kd.C_drewN ?_ _) | (with_reducible refine Kd.C_drew ?_)))
     (case side2=>exact HC0_2.out)
     rintro e w169 ⟨v361,rfl,ho0,hb⟩
     refine ⟨_,rfl,?_⟩
     have n0_:=Aside0.mk (Kd.R_elder' (by (with_reducible repeat (first | apply Kd.R_alloc | apply Kd.R_drewN | apply Kd.R_drew));exact HO338.out) (Kd.R_base ho0) hb)
     have n1_:=Aside0.mk (Kd.R_elder' (by (with_reducible repeat (first | apply Kd.R_alloc | apply Kd.R_drewN | apply Kd.R_drew));exact HO343.out) (Kd.R_base ho0) hb)
     have n2_:=Aside0.mk (Kd.R_elder' (by (with_reducible repeat (first | apply Kd.R_alloc | apply Kd.R_drewN | apply Kd.R_drew));exact HO349.out) (Kd.R_base ho0) hb)
     have n3_:=Aside0.mk (Kd.R_elder' (by (with_reducible repeat (first | apply Kd.R_alloc | apply Kd.R_drewN | apply Kd.R_drew));exact HO355.out) (Kd.R_base ho0) hb)
     have n4_:=Aside0.mk (Kd.R_lower (Kd.R_newB (Kd.R_newB (Kd.R_new' (Kd.R_new' (Kd.R_new' (Kd.R_new' ho0 (Kd.R_lt (by (with_reducible repeat (first | apply Kd.R_alloc | apply Kd.R_drewN | apply Kd.R_drew));exact HO338.out))) (Kd.R_lt (by (with_reducible repeat (first | apply Kd.R_alloc | apply Kd.R_drewN | apply Kd.R_drew));exact HO343.out))) (Kd.R_lt (by (with_reducible repeat (first | apply Kd.R_alloc | apply Kd.R_drewN | apply Kd.R_drew));exact HO349.out))) (Kd.R_lt (by (with_reducible repeat (first | apply Kd.R_alloc | apply Kd.R_drewN | apply Kd.R_drew));exact HO355.out))) (g:=gb350) (o:=.cells #[.int .i64 t345,.int .i64 t346,.slice Ao157 t347.length co157] 25 (0,0)) (by (with_reducible repeat (first | refine blk_drewN ?_ _ | refine blk_drew ?_ | refine blk_alloc ?_ _));exact BK350.out)) (g:=gb356) (o:=.cells #[.int .i64 t351,.int .i64 t352,.slice Ao165 t353.length co165] 25 (0,0)) (by (with_reducible repeat (first | refine blk_drewN ?_ _ | refine blk_drew ?_ | refine blk_alloc ?_ _));exact BK356.out)) (below_size (by repeat (first | (with_reducible first | exact HB.out | apply below_alloc | apply pw_below_drewN | apply below_drew1 | refine below_set ?_ GE330.out | refine below_set ?_ GE331.out | refine below_set ?_ GE350.out | refine below_set ?_ GE356.out) | exact HB.out))))
     have n5_:=Aside0.mk (blk_below (g:=gb330) (o:=.cells #[.int .i64 a0_0,.int .i64 a0_1,.slice A0_2 l0_2.length c0_2] 33 (0,0)) (by (with_reducible repeat (first | refine blk_drewN ?_ _ | refine blk_drew ?_ | refine blk_alloc ?_ _));exact BK330.out) hb)
     have n6_:=Aside0.mk (blk_below (g:=gb331) (o:=.cells #[.int .i64 a1_0,.int .i64 a1_1,.slice A1_2 l1_2.length c1_2] 33 (0,0)) (by (with_reducible repeat (first | refine blk_drewN ?_ _ | refine blk_drew ?_ | refine blk_alloc ?_ _));exact BK331.out) hb)
     have n7_:=Aside0.mk (blk_below (g:=gb350) (o:=.cells #[.int .i64 t345,.int .i64 t346,.slice Ao157 t347.length co157] 25 (0,0)) (by (with_reducible repeat (first | refine blk_drewN ?_ _ | refine blk_drew ?_ | refine blk_alloc ?_ _));exact BK350.out) hb)
     have n8_:=Aside0.mk (blk_below (g:=gb356) (o:=.cells #[.int .i64 t351,.int .i64 t352,.slice Ao165 t353.length co165] 25 (0,0)) (by (with_reducible repeat (first | refine blk_drewN ?_ _ | refine blk_drew ?_ | refine blk_alloc ?_ _));exact BK356.out) hb)
     have n9_:=Aside0.mk (below_step (by repeat (first | (with_reducible first | exact HB.out | apply below_alloc | apply pw_below_drewN | apply below_drew1 | refine below_set ?_ GE330.out | refine below_set ?_ GE331.out | refine below_set ?_ GE350.out | refine below_set ?_ GE356.out) | exact HB.out)) hb)
     clear HO338
     clear HO343
     clear HO349
     clear HO355
     clear BK330
     clear BK331
     clear BK350
     clear BK356
     clear HB
     have HO338:=n0_
     have HO343:=n1_
     have HO349:=n2_
     have HO355:=n3_
     have HO362:=n4_
     have BK330:=n5_
     have BK331:=n6_
     have BK350:=n7_
     have BK356:=n8_
     have HB:=n9_
     clear n0_ n1_ n2_ n3_ n4_ n5_ n6_ n7_ n8_ n9_
     (try clear hb)
     (try clear hb2)
     (try clear hk)
     (try clear hi)
     (try clear ho0)
     obtain ⟨Ao170,co170,eo170⟩:=Kd.R_slice HO362.out
     (first | subst eo170 | (injection eo170 with f1_ f2_ f3_;have f4_:=f1_.symm;have f5_:=f3_.symm;clear f1_ f2_ f3_;subst f4_;subst f5_))
     refine hK.out _ _ ⟨(blk_cell BK350.out 0).trans rfl,(blk_cell BK350.out 1).trans rfl,(blk_cell BK350.out 2).trans rfl,(blk_cell BK330.out 0).trans rfl,(blk_cell BK330.out 1).trans rfl,(blk_cell BK330.out 2).trans rfl⟩ (fun hHeld=>?_)
     clear hK K
     refine norm_ (a':=?_) ?_ ?_
     rotate_left
     ·show Act.put _ (some 37) _ = _
      simp only [Act.put,List.setIfInBounds_toArray,List.set_cons_zero,List.set_cons_succ,i64_w,i32_w]
      rfl
     refine one_ (i:=3) (N:=some 38) #[true,true,true,true,false] rfl rfl (by kernel_rfl) (by decide) (fun K hK=>?_)
     refine goes_ Tryd.func22 (by kernel_rfl) rfl #[.agg #[.int .i64 t345,.int .i64 t346,.slice Ao157 t347.length co157],.agg #[.int .i64 t358,.int .i64 t359,.slice Ao170 t360.length co170]] (by rfl) rfl rfl (by (try simp only [List.map_toArray,List.map_cons,List.map_nil]);first | done | rfl | (simp only [List.length_drop,List.length_take];rfl)) ?_
     with_reducible refine (laws_eqSeal.calls k t345 t346 _ _ t347 t358 t359 _ _ t360 false _ ?side1 ?side2 ?side3 ?side4 A57.out).mono ?_
     (case side1=>repeat (first | exact (Kd.R_reads' HO349.out).2.2 | (with_reducible refine Kd.C_alloc ?_ _) | (with_reducible refine Kd.C_drewN ?_ _) | (with_reducible refine Kd.C_drew ?_)))
     (case side2=>exact (Kd.R_reads' HO349.out).2.1)
     (case side3=>repeat (first | exact (Kd.R_reads' HO362.out).2.2 | (with_reducible refine Kd.C_alloc ?_ _) | (with_reducible refine Kd.C_drewN ?_ _) | (with_reducible refine Kd.C_drew ?_)))
     (case side4=>exact (Kd.R_reads' HO362.out).2.1)
     rintro e w171 ⟨rfl,hb⟩
     refine ⟨_,rfl,?_⟩
     have n0_:=Aside0.mk (Kd.R_below (by (with_reducible repeat (first | apply Kd.R_alloc | apply Kd.R_drewN | apply Kd.R_drew));exact HO338.out) hb)
     have n1_:=Aside0.mk (Kd.R_below (by (with_reducible repeat (first | apply Kd.R_alloc | apply Kd.R_drewN | apply Kd.R_drew));exact HO343.out) hb)
     have n2_:=Aside0.mk (Kd.R_below (by (with_reducible repeat (first | apply Kd.R_alloc | apply Kd.R_drewN | apply Kd.R_drew));exact HO349.out) hb)
     have n3_:=Aside0.mk (Kd.R_below (by (with_reducible repeat (first | apply Kd.R_alloc | apply Kd.R_drewN | apply Kd.R_drew));exact HO355.out) hb)
     have n4_:=Aside0.mk (Kd.R_below (by (with_reducible repeat (first | apply Kd.R_alloc | apply Kd.R_drewN | apply Kd.R_drew));exact HO362.out) hb)
     have n5_:=Aside0.mk (blk_below (g:=gb330) (o:=.cells #[.int .i64 a0_0,.int .i64 a0_1,.slice A0_2 l0_2.length c0_2] 33 (0,0)) (by (with_reducible repeat (first | refine blk_drewN ?_ _ | refine blk_drew ?_ | refine blk_alloc ?_ _));exact BK330.out) hb)
     have n6_:=Aside0.mk (blk_below (g:=gb331) (o:=.cells #[.int .i64 a1_0,.int .i64 a1_1,.slice A1_2 l1_2.length c1_2] 33 (0,0)) (by (with_reducible repeat (first | refine blk_drewN ?_ _ | refine blk_drew ?_ | refine blk_alloc ?_ _));exact BK331.out) hb)
     have n7_:=Aside0.mk (blk_below (g:=gb350) (o:=.cells #[.int .i64 t345,.int .i64 t346,.slice Ao157 t347.length co157] 25 (0,0)) (by (with_reducible repeat (first | refine blk_drewN ?_ _ | refine blk_drew ?_ | refine blk_alloc ?_ _));exact BK350.out) hb)
     have n8_:=Aside0.mk (blk_below (g:=gb356) (o:=.cells #[.int .i64 t351,.int .i64 t352,.slice Ao165 t353.length co165] 25 (0,0)) (by (with_reducible repeat (first | refine blk_drewN ?_ _ | refine blk_drew ?_ | refine blk_alloc ?_ _));exact BK356.out) hb)
     have n9_:=Aside0.mk (below_step (by repeat (first | (with_reducible first | exact HB.out | apply below_alloc | apply pw_below_drewN | apply below_drew1 | refine below_set ?_ GE330.out | refine below_set ?_ GE331.out | refine below_set ?_ GE350.out | refine below_set ?_ GE356.out) | exact HB.out)) hb)
     clear HO338
     clear HO343
     clear HO349
     clear HO355
     clear HO362
     clear BK330
     clear BK331
     clear BK350
     clear BK356
     clear HB
     have HO338:=n0_
     have HO343:=n1_
     have HO349:=n2_
     have HO355:=n3_
     have HO362:=n4_
     have BK330:=n5_
     have BK331:=n6_
     have BK350:=n7_
     have BK356:=n8_
     have HB:=n9_
     clear n0_ n1_ n2_ n3_ n4_ n5_ n6_ n7_ n8_ n9_
     (try clear hb)
     (try clear hb2)
     (try clear hk)
     (try clear hi)
     refine hK.out _ _ ⟨(blk_cell BK350.out 0).trans rfl,(blk_cell BK350.out 1).trans rfl,(blk_cell BK350.out 2).trans rfl,(blk_cell BK330.out 0).trans rfl,(blk_cell BK330.out 1).trans rfl,(blk_cell BK330.out 2).trans rfl⟩ (fun hHeld=>?_)
     clear hK K
     refine norm_ (a':=?_) ?_ ?_
     rotate_left
     ·show Act.put _ (some 38) _ = _
      simp only [Act.put,List.setIfInBounds_toArray,List.set_cons_zero,List.set_cons_succ,i64_w,i32_w]
      rfl
     refine pure_ (i:=4) (N:=some 39) (v:=?_) (a':=?_) #[true,true,true,true,true] rfl rfl (by kernel_rfl) (fun _ _ _ h=>h) (Or.inl ⟨by rfl,?_⟩) ?_ ?_
     rotate_left;·intro w';go_simp;with_reducible rfl
     rotate_left;·simp only [Act.put,List.setIfInBounds_toArray,List.set_cons_zero,List.set_cons_succ,i64_w,i32_w];rfl
     refine done_ (by kernel_rfl) ?_
     try go_wp2
     go_ret
     exact ⟨by first | rfl | (simp [errW_none,errW_some] <;> rfl) | (simp [*,errW_none,errW_some] <;> rfl),by repeat (first | (with_reducible first | exact HB.out | apply below_alloc | apply pw_below_drewN | apply below_drew1 | refine below_set ?_ GE330.out | refine below_set ?_ GE331.out | refine below_set ?_ GE350.out | refine below_set ?_ GE356.out) | exact HB.out)⟩
end Go.Proofs.YtbcjpdahdecehaaDoor.P
