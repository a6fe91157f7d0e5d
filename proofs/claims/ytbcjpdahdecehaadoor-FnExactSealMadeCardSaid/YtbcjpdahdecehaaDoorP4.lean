/- What the Go functions that the laws reach compute, and that their calls come to just that: told by a program of this session (aprint.py). No condition. -/
import Derived.Test.YtbcjpdahdecehaaDoorP0
import Derived.Test.YtbcjpdahdecehaaDoorP2
import Derived.Test.YtbcjpdahdecehaaDoorP3
import Derived.Test.YtbcjpdahdecehaaDoorHMade
noncomputable section
namespace Go.Proofs.YtbcjpdahdecehaaDoor.P
open Go.RowKit Go.Proofs.YtbcjpdahdecehaaDoorW.PrintWords Go.Proofs.YtbcjpdahdecehaaDoorW.PrintLast Go.Proofs.YtbcjpdahdecehaaDoorW.PrintMore
attribute [local go_sem] max2_int min2_int max_two min_two max_three min_three max_four min_four
set_option linter.unusedVariables false
set_option linter.unusedSimpArgs false
def laws_FnExactSealMade.f (k:Nat) (l0:List (S33)) (a1_0:Int) (a1_1:Int) (l1_2:List (S33)):Option (Bool):=(laws_szSealS.f k l0 1048576).bind fun t499=>(if t499 < 0 then (some true) else ((laws_szSeal.f k a1_0 a1_1 l1_2 t499).bind fun t500=>(if t500 < 0 then (some true) else ((laws_toSealS.f k l0).bind fun t501=>((laws_toSeal.f k a1_0 a1_1 l1_2).bind fun bt504=>((spec_SealMade.f k t501 bt504.1 bt504.2.1 bt504.2.2).bind fun t509=>((laws_toSealS.f k l0).bind fun t510=>((laws_toSeal.f k a1_0 a1_1 l1_2).bind fun bt513=>((impl_SealMade.f t510 bt513.1 bt513.2.1 bt513.2.2).bind fun t519=>(if (t519 != t509) = true then (some false) else ((laws_toSealS.f k l0).bind fun t520=>((laws_eqSealS.f k t510 t520).bind fun t523=>(if t523 = true then ((laws_toSeal.f k a1_0 a1_1 l1_2).bind fun bt524=>((laws_eqSeal.f k bt513.1 bt513.2.1 bt513.2.2 bt524.1 bt524.2.1 bt524.2.2).bind fun t529=>(if t529 = true then (some true) else (some false)))) else (some false))))))))))))))
theorem laws_FnExactSealMade.mono:∀ a0 a1 a2 a3 k,LeO (laws_FnExactSealMade.f k a0 a1 a2 a3) (laws_FnExactSealMade.f (k + 1) a0 a1 a2 a3):=by
 intro a0 a1 a2 a3 k
 unfold laws_FnExactSealMade.f
 repeat' first
   | (with_reducible exact laws_eqSeal.mono _ _ _ _ _ _ _)
   | (with_reducible exact laws_eqSealS.mono _ _ _)
   | (with_reducible exact laws_szSeal.mono _ _ _ _ _)
   | (with_reducible exact laws_szSealS.mono _ _ _)
   | (with_reducible exact laws_toSeal.mono _ _ _ _)
   | (with_reducible exact laws_toSealS.mono _ _)
   | (with_reducible exact spec_SealMade.mono _ _ _ _ _)
   | (with_reducible exact LeO.refl _)
   | (with_reducible exact LeO.none _)
   | (with_reducible refine LeO.ite ?_ ?_)
   | (with_reducible refine LeO.bind ?_ (fun _=>?_))
   | exact laws_eqSeal.mono _ _ _ _ _ _ _
   | exact laws_eqSealS.mono _ _ _
   | exact laws_szSeal.mono _ _ _ _ _
   | exact laws_szSealS.mono _ _ _
   | exact laws_toSeal.mono _ _ _ _
   | exact laws_toSealS.mono _ _
   | exact spec_SealMade.mono _ _ _ _ _
   | exact LeO.none _
   | refine LeO.ite ?_ ?_
   | refine LeO.bind ?_ (fun _=>?_)
set_option maxHeartbeats 8000000 in
set_option maxRecDepth 100000 in
theorem laws_FnExactSealMade.calls (k:Nat) (A0:Option Addr) (c0:Nat) (l0:List (S33)) (a1_0:Int) (a1_1:Int) (A1_2:Option Addr) (c1_2:Nat) (l1_2:List (S33)) (r:Bool) (w:World) (hr0:Kd.C k33 w A0 l0.length l0) (hc0:l0.length ≤ c0) (hr1_2:Kd.C k33 w A1_2 l1_2.length l1_2) (hc1_2:l1_2.length ≤ c1_2) (h:laws_FnExactSealMade.f k l0 a1_0 a1_1 l1_2 = some r) :
  Calls Tryd.prog 8 #[.slice A0 l0.length c0,.agg #[.int .i64 a1_0,.int .i64 a1_1,.slice A1_2 l1_2.length c1_2]] w fun e w'=>e = .returned (.bool r)∧Below w.heap.size w w':=by
 have hu33:=Tryd.underlying33
 have hu25:=Tryd.underlying25
 have HR0:=Aside0.mk hr0
 have HC0:=Aside0.mk hc0
 clear hr0 hc0
 have HR1_2:=Aside0.mk hr1_2
 have HC1_2:=Aside0.mk hc1_2
 clear hr1_2 hc1_2
 have HB:=Aside0.mk (Below.refl w.heap.size w)
 have H:((laws_szSealS.f k l0 1048576).bind fun t499=>(if t499 < 0 then (some true) else ((laws_szSeal.f k a1_0 a1_1 l1_2 t499).bind fun t500=>(if t500 < 0 then (some true) else ((laws_toSealS.f k l0).bind fun t501=>((laws_toSeal.f k a1_0 a1_1 l1_2).bind fun bt504=>((spec_SealMade.f k t501 bt504.1 bt504.2.1 bt504.2.2).bind fun t509=>((laws_toSealS.f k l0).bind fun t510=>((laws_toSeal.f k a1_0 a1_1 l1_2).bind fun bt513=>((impl_SealMade.f t510 bt513.1 bt513.2.1 bt513.2.2).bind fun t519=>(if (t519 != t509) = true then (some false) else ((laws_toSealS.f k l0).bind fun t520=>((laws_eqSealS.f k t510 t520).bind fun t523=>(if t523 = true then ((laws_toSeal.f k a1_0 a1_1 l1_2).bind fun bt524=>((laws_eqSeal.f k bt513.1 bt513.2.1 bt513.2.2 bt524.1 bt524.2.1 bt524.2.2).bind fun t529=>(if t529 = true then (some true) else (some false)))) else (some false))))))))))))))) = some r:=h
 clear h
 replace H:=Option.bind_eq_some_iff.mp H
 obtain ⟨t499,A30,H⟩:=H
 replace H:(if t499 < 0 then (some true) else ((laws_szSeal.f k a1_0 a1_1 l1_2 t499).bind fun t500=>(if t500 < 0 then (some true) else ((laws_toSealS.f k l0).bind fun t501=>((laws_toSeal.f k a1_0 a1_1 l1_2).bind fun bt504=>((spec_SealMade.f k t501 bt504.1 bt504.2.1 bt504.2.2).bind fun t509=>((laws_toSealS.f k l0).bind fun t510=>((laws_toSeal.f k a1_0 a1_1 l1_2).bind fun bt513=>((impl_SealMade.f t510 bt513.1 bt513.2.1 bt513.2.2).bind fun t519=>(if (t519 != t509) = true then (some false) else ((laws_toSealS.f k l0).bind fun t520=>((laws_eqSealS.f k t510 t520).bind fun t523=>(if t523 = true then ((laws_toSeal.f k a1_0 a1_1 l1_2).bind fun bt524=>((laws_eqSeal.f k bt513.1 bt513.2.1 bt513.2.2 bt524.1 bt524.2.1 bt524.2.2).bind fun t529=>(if t529 = true then (some true) else (some false)))) else (some false)))))))))))))) = some r:=H
 have A3:=Aside0.mk A30
 clear A30
 by_cases c4:t499 < 0
 ·rw [if_pos c4] at H
  have c4b0:decide (t499 < 0) = true:=decide_eq_true c4
  clear c4
  obtain rfl:=Option.some.inj H
  go_enter Tryd.func8,Tryd.ntmps8
  go_wp2_with (first | ((with_reducible refine gate_dst (N:=3) rfl ?_);refine box_event ?hg (N:=3) ?hd (cs:=#[.int .i64 a1_0,.int .i64 a1_1,.slice A1_2 l1_2.length c1_2]) (t:=33) ?hr ?_;(case hd=>rfl);(case hg=>rfl);(case hr=>first | (go_simp;done) | (go_simp;rfl));intro gb498 hg w5 hbox hb;have n0_:=Aside0.mk (below_step (by repeat (first | (with_reducible first | exact HB.out | apply below_alloc | apply pw_below_drewN | apply below_drew1) | exact HB.out)) hb);have n1_:=Aside0.mk (hbox);have n2_:=Aside0.mk ((by rw [hg];exact (below_size (by repeat (first | (with_reducible first | exact HB.out | apply below_alloc | apply pw_below_drewN | apply below_drew1) | exact HB.out))):w.heap.size ≤ gb498));have n3_:=Aside0.mk ((by rw [hg];exact (below_size (by repeat (first | (with_reducible first | exact HB.out | apply below_alloc | apply pw_below_drewN | apply below_drew1) | exact HB.out))):w.heap.size ≤ gb498));clear HB;have HB:=n0_;have BK498:=n1_;have GW498:=n2_;have GE498:=n3_;clear n0_ n1_ n2_ n3_;clear hb hbox hg) | ((with_reducible refine gate_callee (f:=25) rfl ?_);refine goesL_ (some 12) rfl rfl Tryd.func25 (by kernel_rfl) rfl #[.slice A0 l0.length c0,.int .i64 1048576] rfl (by (try simp only [List.map_toArray,List.map_cons,List.map_nil]);first | done | rfl | (simp only [List.length_drop,List.length_take];rfl)) ?_;(with_reducible refine (laws_szSealS.calls k _ _ l0 1048576 t499 _ ?side1 ?side2 A3.out).mono ?_);(case side1=>repeat (first | exact (Kd.C_below HR0.out HB.out) | (with_reducible refine Kd.C_alloc ?_ _) | (with_reducible refine Kd.C_drewN ?_ _) | (with_reducible refine Kd.C_drew ?_)));(case side2=>exact HC0.out);rintro e w6 ⟨rfl,hb⟩;refine ⟨_,rfl,?_⟩;have n0_:=Aside0.mk (blk_below (g:=gb498) (o:=.cells #[.int .i64 a1_0,.int .i64 a1_1,.slice A1_2 l1_2.length c1_2] 33 (0,0)) (by (with_reducible repeat (first | refine blk_drewN ?_ _ | refine blk_drew ?_ | refine blk_alloc ?_ _));exact BK498.out) hb);have n1_:=Aside0.mk (below_step (by repeat (first | (with_reducible first | exact HB.out | apply below_alloc | apply pw_below_drewN | apply below_drew1 | refine below_set ?_ GE498.out) | exact HB.out)) hb);clear BK498;clear HB;have BK498:=n0_;have HB:=n1_;clear n0_ n1_;(try clear hb);(try clear hb2);(try clear hk);(try clear hi)))
  go_ret
  exact ⟨by first | rfl | (simp [errW_none,errW_some] <;> rfl) | (simp [*,errW_none,errW_some] <;> rfl),by repeat (first | (with_reducible first | exact HB.out | apply below_alloc | apply pw_below_drewN | apply below_drew1 | refine below_set ?_ GE498.out) | exact HB.out)⟩
 ·rw [if_neg c4] at H
  have c4b0:decide (t499 < 0) = false:=decide_eq_false c4
  clear c4
  replace H:=Option.bind_eq_some_iff.mp H
  obtain ⟨t500,A70,H⟩:=H
  replace H:(if t500 < 0 then (some true) else ((laws_toSealS.f k l0).bind fun t501=>((laws_toSeal.f k a1_0 a1_1 l1_2).bind fun bt504=>((spec_SealMade.f k t501 bt504.1 bt504.2.1 bt504.2.2).bind fun t509=>((laws_toSealS.f k l0).bind fun t510=>((laws_toSeal.f k a1_0 a1_1 l1_2).bind fun bt513=>((impl_SealMade.f t510 bt513.1 bt513.2.1 bt513.2.2).bind fun t519=>(if (t519 != t509) = true then (some false) else ((laws_toSealS.f k l0).bind fun t520=>((laws_eqSealS.f k t510 t520).bind fun t523=>(if t523 = true then ((laws_toSeal.f k a1_0 a1_1 l1_2).bind fun bt524=>((laws_eqSeal.f k bt513.1 bt513.2.1 bt513.2.2 bt524.1 bt524.2.1 bt524.2.2).bind fun t529=>(if t529 = true then (some true) else (some false)))) else (some false)))))))))))) = some r:=H
  have A7:=Aside0.mk A70
  clear A70
  by_cases c8:t500 < 0
  ·rw [if_pos c8] at H
   have c8b0:decide (t500 < 0) = true:=decide_eq_true c8
   clear c8
   obtain rfl:=Option.some.inj H
   go_enter Tryd.func8,Tryd.ntmps8
   go_wp2_with (first | ((with_reducible refine gate_dst (N:=3) rfl ?_);refine box_event ?hg (N:=3) ?hd (cs:=#[.int .i64 a1_0,.int .i64 a1_1,.slice A1_2 l1_2.length c1_2]) (t:=33) ?hr ?_;(case hd=>rfl);(case hg=>rfl);(case hr=>first | (go_simp;done) | (go_simp;rfl));intro gb498 hg w9 hbox hb;have n0_:=Aside0.mk (below_step (by repeat (first | (with_reducible first | exact HB.out | apply below_alloc | apply pw_below_drewN | apply below_drew1) | exact HB.out)) hb);have n1_:=Aside0.mk (hbox);have n2_:=Aside0.mk ((by rw [hg];exact (below_size (by repeat (first | (with_reducible first | exact HB.out | apply below_alloc | apply pw_below_drewN | apply below_drew1) | exact HB.out))):w.heap.size ≤ gb498));have n3_:=Aside0.mk ((by rw [hg];exact (below_size (by repeat (first | (with_reducible first | exact HB.out | apply below_alloc | apply pw_below_drewN | apply below_drew1) | exact HB.out))):w.heap.size ≤ gb498));clear HB;have HB:=n0_;have BK498:=n1_;have GW498:=n2_;have GE498:=n3_;clear n0_ n1_ n2_ n3_;clear hb hbox hg) | ((with_reducible refine gate_callee (f:=25) rfl ?_);refine goesL_ (some 12) rfl rfl Tryd.func25 (by kernel_rfl) rfl #[.slice A0 l0.length c0,.int .i64 1048576] rfl (by (try simp only [List.map_toArray,List.map_cons,List.map_nil]);first | done | rfl | (simp only [List.length_drop,List.length_take];rfl)) ?_;(with_reducible refine (laws_szSealS.calls k _ _ l0 1048576 t499 _ ?side1 ?side2 A3.out).mono ?_);(case side1=>repeat (first | exact (Kd.C_below HR0.out HB.out) | (with_reducible refine Kd.C_alloc ?_ _) | (with_reducible refine Kd.C_drewN ?_ _) | (with_reducible refine Kd.C_drew ?_)));(case side2=>exact HC0.out);rintro e w10 ⟨rfl,hb⟩;refine ⟨_,rfl,?_⟩;have n0_:=Aside0.mk (blk_below (g:=gb498) (o:=.cells #[.int .i64 a1_0,.int .i64 a1_1,.slice A1_2 l1_2.length c1_2] 33 (0,0)) (by (with_reducible repeat (first | refine blk_drewN ?_ _ | refine blk_drew ?_ | refine blk_alloc ?_ _));exact BK498.out) hb);have n1_:=Aside0.mk (below_step (by repeat (first | (with_reducible first | exact HB.out | apply below_alloc | apply pw_below_drewN | apply below_drew1 | refine below_set ?_ GE498.out) | exact HB.out)) hb);clear BK498;clear HB;have BK498:=n0_;have HB:=n1_;clear n0_ n1_;(try clear hb);(try clear hb2);(try clear hk);(try clear hi);have hcz11_0:w10.cell? ⟨gb498,0,none⟩ = some (.int .i64 a1_0):=(blk_cell BK498.out 0).trans rfl;have hcz11_1:w10.cell? ⟨gb498,1,none⟩ = some (.int .i64 a1_1):=(blk_cell BK498.out 1).trans rfl;have hcz11_2:w10.cell? ⟨gb498,2,none⟩ = some (.slice A1_2 l1_2.length c1_2):=(blk_cell BK498.out 2).trans rfl;have hfz11_0:=blk_frozen BK498.out 0;have hfz11_1:=blk_frozen BK498.out 1;have hfz11_2:=blk_frozen BK498.out 2) | ((with_reducible refine gate_callee (f:=20) rfl ?_);refine goesL_ (some 17) rfl rfl Tryd.func20 (by kernel_rfl) rfl #[.agg #[.int .i64 a1_0,.int .i64 a1_1,.slice A1_2 l1_2.length c1_2],.int .i64 t499] rfl (by (try simp only [List.map_toArray,List.map_cons,List.map_nil]);first | done | rfl | (simp only [List.length_drop,List.length_take];rfl)) ?_;(with_reducible refine (laws_szSeal.calls k a1_0 a1_1 _ _ l1_2 t499 t500 _ ?side1 ?side2 A7.out).mono ?_);(case side1=>repeat (first | exact (Kd.C_below HR1_2.out HB.out) | (with_reducible refine Kd.C_alloc ?_ _) | (with_reducible refine Kd.C_drewN ?_ _) | (with_reducible refine Kd.C_drew ?_)));(case side2=>exact HC1_2.out);rintro e w12 ⟨rfl,hb⟩;refine ⟨_,rfl,?_⟩;have n0_:=Aside0.mk (blk_below (g:=gb498) (o:=.cells #[.int .i64 a1_0,.int .i64 a1_1,.slice A1_2 l1_2.length c1_2] 33 (0,0)) (by (with_reducible repeat (first | refine blk_drewN ?_ _ | refine blk_drew ?_ | refine blk_alloc ?_ _));exact BK498.out) hb);have n1_:=Aside0.mk (below_step (by repeat (first | (with_reducible first | exact HB.out | apply below_alloc | apply pw_below_drewN | apply below_drew1 | refine below_set ?_ GE498.out) | exact HB.out)) hb);clear BK498;clear HB;have BK498:=n0_;have HB:=n1_;clear n0_ n1_;(try clear hb);(try clear hb2);(try clear hk);(try clear hi)))
   go_ret
   exact ⟨by first | rfl | (simp [errW_none,errW_some] <;> rfl) | (simp [*,errW_none,errW_some] <;> rfl),by repeat (first | (with_reducible first | exact HB.out | apply below_alloc | apply pw_below_drewN | apply below_drew1 | refine below_set ?_ GE498.out) | exact HB.out)⟩
  ·rw [if_neg c8] at H
   have c8b0:decide (t500 < 0) = false:=decide_eq_false c8
   clear c8
   replace H:=Option.bind_eq_some_iff.mp H
   obtain ⟨t501,A130,H⟩:=H
   replace H:((laws_toSeal.f k a1_0 a1_1 l1_2).bind fun bt504=>((spec_SealMade.f k t501 bt504.1 bt504.2.1 bt504.2.2).bind fun t509=>((laws_toSealS.f k l0).bind fun t510=>((laws_toSeal.f k a1_0 a1_1 l1_2).bind fun bt513=>((impl_SealMade.f t510 bt513.1 bt513.2.1 bt513.2.2).bind fun t519=>(if (t519 != t509) = true then (some false) else ((laws_toSealS.f k l0).bind fun t520=>((laws_eqSealS.f k t510 t520).bind fun t523=>(if t523 = true then ((laws_toSeal.f k a1_0 a1_1 l1_2).bind fun bt524=>((laws_eqSeal.f k bt513.1 bt513.2.1 bt513.2.2 bt524.1 bt524.2.1 bt524.2.2).bind fun t529=>(if t529 = true then (some true) else (some false)))) else (some false)))))))))) = some r:=H
   have A13:=Aside0.mk A130
   clear A130
   replace H:=Option.bind_eq_some_iff.mp H
   obtain ⟨⟨t504,t505,t506⟩,A140,H⟩:=H
   replace H:((spec_SealMade.f k t501 t504 t505 t506).bind fun t509=>((laws_toSealS.f k l0).bind fun t510=>((laws_toSeal.f k a1_0 a1_1 l1_2).bind fun bt513=>((impl_SealMade.f t510 bt513.1 bt513.2.1 bt513.2.2).bind fun t519=>(if (t519 != t509) = true then (some false) else ((laws_toSealS.f k l0).bind fun t520=>((laws_eqSealS.f k t510 t520).bind fun t523=>(if t523 = true then ((laws_toSeal.f k a1_0 a1_1 l1_2).bind fun bt524=>((laws_eqSeal.f k bt513.1 bt513.2.1 bt513.2.2 bt524.1 bt524.2.1 bt524.2.2).bind fun t529=>(if t529 = true then (some true) else (some false)))) else (some false))))))))) = some r:=H
   have A14:=Aside0.mk A140
   clear A140
   replace H:=Option.bind_eq_some_iff.mp H
   obtain ⟨t509,A150,H⟩:=H
   replace H:((laws_toSealS.f k l0).bind fun t510=>((laws_toSeal.f k a1_0 a1_1 l1_2).bind fun bt513=>((impl_SealMade.f t510 bt513.1 bt513.2.1 bt513.2.2).bind fun t519=>(if (t519 != t509) = true then (some false) else ((laws_toSealS.f k l0).bind fun t520=>((laws_eqSealS.f k t510 t520).bind fun t523=>(if t523 = true then ((laws_toSeal.f k a1_0 a1_1 l1_2).bind fun bt524=>((laws_eqSeal.f k bt513.1 bt513.2.1 bt513.2.2 bt524.1 bt524.2.1 bt524.2.2).bind fun t529=>(if t529 = true then (some true) else (some false)))) else (some false)))))))) = some r:=H
   have A15:=Aside0.mk A150
   clear A150
   replace H:=Option.bind_eq_some_iff.mp H
   obtain ⟨t510,A160,H⟩:=H
   replace H:((laws_toSeal.f k a1_0 a1_1 l1_2).bind fun bt513=>((impl_SealMade.f t510 bt513.1 bt513.2.1 bt513.2.2).bind fun t519=>(if (t519 != t509) = true then (some false) else ((laws_toSealS.f k l0).bind fun t520=>((laws_eqSealS.f k t510 t520).bind fun t523=>(if t523 = true then ((laws_toSeal.f k a1_0 a1_1 l1_2).bind fun bt524=>((laws_eqSeal.f k bt513.1 bt513.2.1 bt513.2.2 bt524.1 bt524.2.1 bt524.2.2).bind fun t529=>(if t529 = true then (some true) else (some false)))) else (some false))))))) = some r:=H
   have A16:=Aside0.mk A160
   clear A160
   replace H:=Option.bind_eq_some_iff.mp H
   obtain ⟨⟨t513,t514,t515⟩,A170,H⟩:=H
   replace H:((impl_SealMade.f t510 t513 t514 t515).bind fun t519=>(if (t519 != t509) = true then (some false) else ((laws_toSealS.f k l0).bind fun t520=>((laws_eqSealS.f k t510 t520).bind fun t523=>(if t523 = true then ((laws_toSeal.f k a1_0 a1_1 l1_2).bind fun bt524=>((laws_eqSeal.f k t513 t514 t515 bt524.1 bt524.2.1 bt524.2.2).bind fun t529=>(if t529 = true then (some true) else (some false)))) else (some false)))))) = some r:=H
   have A17:=Aside0.mk A170
   clear A170
   replace H:=Option.bind_eq_some_iff.mp H
   obtain ⟨t519,A180,H⟩:=H
   replace H:(if (t519 != t509) = true then (some false) else ((laws_toSealS.f k l0).bind fun t520=>((laws_eqSealS.f k t510 t520).bind fun t523=>(if t523 = true then ((laws_toSeal.f k a1_0 a1_1 l1_2).bind fun bt524=>((laws_eqSeal.f k t513 t514 t515 bt524.1 bt524.2.1 bt524.2.2).bind fun t529=>(if t529 = true then (some true) else (some false)))) else (some false))))) = some r:=H
   have A18:=Aside0.mk A180
   clear A180
   by_cases c19:(t519 != t509) = true
   ·rw [if_pos c19] at H
    have c19b0:(t519 != t509) = true:=c19
    (try (have c19b1:decide (t519 = t509) = false:=by simpa using c19))
    (try (have c19b2:(t519 == t509) = false:=by simpa using c19))
    (try (have c19b3:¬ (t519 = t509):=by simpa using c19))
    clear c19
    obtain rfl:=Option.some.inj H
    go_enter Tryd.func8,Tryd.ntmps8
    try go_wp2_with (first | ((with_reducible refine gate_dst (N:=3) rfl ?_);refine box_event ?hg (N:=3) ?hd (cs:=#[.int .i64 a1_0,.int .i64 a1_1,.slice A1_2 l1_2.length c1_2]) (t:=33) ?hr ?_;(case hd=>rfl);(case hg=>rfl);(case hr=>first | (go_simp;done) | (go_simp;rfl));intro gb498 hg w20 hbox hb;have n0_:=Aside0.mk (below_step (by repeat (first | (with_reducible first | exact HB.out | apply below_alloc | apply pw_below_drewN | apply below_drew1) | exact HB.out)) hb);have n1_:=Aside0.mk (hbox);have n2_:=Aside0.mk ((by rw [hg];exact (below_size (by repeat (first | (with_reducible first | exact HB.out | apply below_alloc | apply pw_below_drewN | apply below_drew1) | exact HB.out))):w.heap.size ≤ gb498));have n3_:=Aside0.mk ((by rw [hg];exact (below_size (by repeat (first | (with_reducible first | exact HB.out | apply below_alloc | apply pw_below_drewN | apply below_drew1) | exact HB.out))):w.heap.size ≤ gb498));clear HB;have HB:=n0_;have BK498:=n1_;have GW498:=n2_;have GE498:=n3_;clear n0_ n1_ n2_ n3_;clear hb hbox hg) | ((with_reducible refine gate_callee (f:=25) rfl ?_);refine goesL_ (some 12) rfl rfl Tryd.func25 (by kernel_rfl) rfl #[.slice A0 l0.length c0,.int .i64 1048576] rfl (by (try simp only [List.map_toArray,List.map_cons,List.map_nil]);first | done | rfl | (simp only [List.length_drop,List.length_take];rfl)) ?_;(with_reducible refine (laws_szSealS.calls k _ _ l0 1048576 t499 _ ?side1 ?side2 A3.out).mono ?_);(case side1=>repeat (first | exact (Kd.C_below HR0.out HB.out) | (with_reducible refine Kd.C_alloc ?_ _) | (with_reducible refine Kd.C_drewN ?_ _) | (with_reducible refine Kd.C_drew ?_)));(case side2=>exact HC0.out);rintro e w21 ⟨rfl,hb⟩;refine ⟨_,rfl,?_⟩;have n0_:=Aside0.mk (blk_below (g:=gb498) (o:=.cells #[.int .i64 a1_0,.int .i64 a1_1,.slice A1_2 l1_2.length c1_2] 33 (0,0)) (by (with_reducible repeat (first | refine blk_drewN ?_ _ | refine blk_drew ?_ | refine blk_alloc ?_ _));exact BK498.out) hb);have n1_:=Aside0.mk (below_step (by repeat (first | (with_reducible first | exact HB.out | apply below_alloc | apply pw_below_drewN | apply below_drew1 | refine below_set ?_ GE498.out) | exact HB.out)) hb);clear BK498;clear HB;have BK498:=n0_;have HB:=n1_;clear n0_ n1_;(try clear hb);(try clear hb2);(try clear hk);(try clear hi);have hcz22_0:w21.cell? ⟨gb498,0,none⟩ = some (.int .i64 a1_0):=(blk_cell BK498.out 0).trans rfl;have hcz22_1:w21.cell? ⟨gb498,1,none⟩ = some (.int .i64 a1_1):=(blk_cell BK498.out 1).trans rfl;have hcz22_2:w21.cell? ⟨gb498,2,none⟩ = some (.slice A1_2 l1_2.length c1_2):=(blk_cell BK498.out 2).trans rfl;have hfz22_0:=blk_frozen BK498.out 0;have hfz22_1:=blk_frozen BK498.out 1;have hfz22_2:=blk_frozen BK498.out 2) | ((with_reducible refine gate_callee (f:=20) rfl ?_);refine goesL_ (some 17) rfl rfl Tryd.func20 (by kernel_rfl) rfl #[.agg #[.int .i64 a1_0,.int .i64 a1_1,.slice A1_2 l1_2.length c1_2],.int .i64 t499] rfl (by (try simp only [List.map_toArray,List.map_cons,List.map_nil]);first | done | rfl | (simp only [List.length_drop,List.length_take];rfl)) ?_;(with_reducible refine (laws_szSeal.calls k a1_0 a1_1 _ _ l1_2 t499 t500 _ ?side1 ?side2 A7.out).mono ?_);(case side1=>repeat (first | exact (Kd.C_below HR1_2.out HB.out) | (with_reducible refine Kd.C_alloc ?_ _) | (with_reducible refine Kd.C_drewN ?_ _) | (with_reducible refine Kd.C_drew ?_)));(case side2=>exact HC1_2.out);rintro e w23 ⟨rfl,hb⟩;refine ⟨_,rfl,?_⟩;have n0_:=Aside0.mk (blk_below (g:=gb498) (o:=.cells #[.int .i64 a1_0,.int .i64 a1_1,.slice A1_2 l1_2.length c1_2] 33 (0,0)) (by (with_reducible repeat (first | refine blk_drewN ?_ _ | refine blk_drew ?_ | refine blk_alloc ?_ _));exact BK498.out) hb);have n1_:=Aside0.mk (below_step (by repeat (first | (with_reducible first | exact HB.out | apply below_alloc | apply pw_below_drewN | apply below_drew1 | refine below_set ?_ GE498.out) | exact HB.out)) hb);clear BK498;clear HB;have BK498:=n0_;have HB:=n1_;clear n0_ n1_;(try clear hb);(try clear hb2);(try clear hk);(try clear hi)))
    have n0_:=Aside0.mk (blk_drew BK498.out)
    have n1_:=Aside0.mk (below_drew1 HB.out)
    clear BK498
    clear HB
    have BK498:=n0_
    have HB:=n1_
    clear n0_ n1_
    refine start_ (n:=6) (S:=fun w'=>w'.cell? ⟨gb498,0,none⟩ = some (.int .i64 a1_0)∧w'.cell? ⟨gb498,1,none⟩ = some (.int .i64 a1_1)∧w'.cell? ⟨gb498,2,none⟩ = some (.slice A1_2 l1_2.length c1_2)) (ds:=[]) #[false,false,false,false,false,false] (by kernel_rfl) rfl rfl ⟨(blk_cell BK498.out 0).trans rfl,(blk_cell BK498.out 1).trans rfl,(blk_cell BK498.out 2).trans rfl⟩ (fun hHeld=>?_)
    generalize w23.drew = w24 at BK498 HB hHeld ⊢
    refine pure_ (i:=0) (N:=some 20) (v:=?_) (a':=?_) #[true,false,false,false,false,false] rfl rfl (by kernel_rfl) (fun _ _ _ h=>h) (Or.inl ⟨by rfl,?_⟩) ?_ ?_
    rotate_left;·intro w';go_simp;with_reducible rfl
    rotate_left;·simp only [Act.put,List.setIfInBounds_toArray,List.set_cons_zero,List.set_cons_succ,i64_w,i32_w];rfl
    refine take_ (i:=2) (N:=some 22) (v:=?_) (a':=?_) #[true,false,true,false,false,false] rfl rfl (by kernel_rfl) (fun _ _ _ h=>h) (Or.inl ⟨by rfl,?_⟩) hHeld ?_ ?_
    rotate_left;·rintro w' ⟨s0,s1,s2⟩;go_simp;with_reducible rfl
    rotate_left;·simp only [Act.put,List.setIfInBounds_toArray,List.set_cons_zero,List.set_cons_succ,i64_w,i32_w];rfl
    refine one_ (i:=1) (N:=some 21) #[true,true,true,false,false,false] rfl rfl (by kernel_rfl) (by decide) (fun K hK=>?_)
    refine goes_ Tryd.func27 (by kernel_rfl) rfl #[.slice A0 l0.length c0] (by rfl) rfl rfl (by (try simp only [List.map_toArray,List.map_cons,List.map_nil]);first | done | rfl | (simp only [List.length_drop,List.length_take];rfl)) ?_
    with_reducible refine (laws_toSealS.calls k _ _ l0 t501 _ ?side1 ?side2 A13.out).mono ?_
    (case side1=>repeat (first | exact (Kd.C_below HR0.out HB.out) | (with_reducible refine Kd.C_alloc ?_ _) | (with_reducible refine Kd.C_drewN ?_ _) | (with_reducible refine Kd.C_drew ?_)))
    (case side2=>exact HC0.out)
    rintro e w25 ⟨v502,rfl,ho0,hb⟩
    refine ⟨_,rfl,?_⟩
    have n0_:=Aside0.mk (Kd.R_lower ho0 (below_size (by repeat (first | (with_reducible first | exact HB.out | apply below_alloc | apply pw_below_drewN | apply below_drew1 | refine below_set ?_ GE498.out) | exact HB.out))))
    have n1_:=Aside0.mk (blk_below (g:=gb498) (o:=.cells #[.int .i64 a1_0,.int .i64 a1_1,.slice A1_2 l1_2.length c1_2] 33 (0,0)) (by (with_reducible repeat (first | refine blk_drewN ?_ _ | refine blk_drew ?_ | refine blk_alloc ?_ _));exact BK498.out) hb)
    have n2_:=Aside0.mk (below_step (by repeat (first | (with_reducible first | exact HB.out | apply below_alloc | apply pw_below_drewN | apply below_drew1 | refine below_set ?_ GE498.out) | exact HB.out)) hb)
    clear BK498
    clear HB
    have HO503:=n0_
    have BK498:=n1_
    have HB:=n2_
    clear n0_ n1_ n2_
    (try clear hb)
    (try clear hb2)
    (try clear hk)
    (try clear hi)
    (try clear ho0)
    refine hK.out _ _ ⟨(blk_cell BK498.out 0).trans rfl,(blk_cell BK498.out 1).trans rfl,(blk_cell BK498.out 2).trans rfl⟩ (fun hHeld=>?_)
    clear hK K
    refine norm_ (a':=?_) ?_ ?_
    rotate_left
    ·show Act.put _ (some 21) _ = _
     simp only [Act.put,List.setIfInBounds_toArray,List.set_cons_zero,List.set_cons_succ,i64_w,i32_w]
     rfl
    refine one_ (i:=3) (N:=some 23) #[true,true,true,true,false,false] rfl rfl (by kernel_rfl) (by decide) (fun K hK=>?_)
    refine goes_ Tryd.func21 (by kernel_rfl) rfl #[.agg #[.int .i64 a1_0,.int .i64 a1_1,.slice A1_2 l1_2.length c1_2]] (by rfl) rfl rfl (by (try simp only [List.map_toArray,List.map_cons,List.map_nil]);first | done | rfl | (simp only [List.length_drop,List.length_take];rfl)) ?_
    with_reducible refine (laws_toSeal.calls k a1_0 a1_1 _ _ l1_2 t504 t505 t506 _ ?side1 ?side2 A14.out).mono ?_
    (case side1=>repeat (first | exact (Kd.C_below HR1_2.out HB.out) | (with_reducible refine Kd.C_alloc ?_ _) | (with_reducible refine Kd.C_drewN ?_ _) | (with_reducible refine Kd.C_drew ?_)))
    (case side2=>exact HC1_2.out)
    rintro e w26 ⟨v507,rfl,ho0,hb⟩
    refine ⟨_,rfl,?_⟩
    have n0_:=Aside0.mk (Kd.R_elder' (by (with_reducible repeat (first | apply Kd.R_alloc | apply Kd.R_drewN | apply Kd.R_drew));exact HO503.out) (Kd.R_base ho0) hb)
    have n1_:=Aside0.mk (Kd.R_lower (Kd.R_new' ho0 (Kd.R_lt (by (with_reducible repeat (first | apply Kd.R_alloc | apply Kd.R_drewN | apply Kd.R_drew));exact HO503.out))) (below_size (by repeat (first | (with_reducible first | exact HB.out | apply below_alloc | apply pw_below_drewN | apply below_drew1 | refine below_set ?_ GE498.out) | exact HB.out))))
    have n2_:=Aside0.mk (blk_below (g:=gb498) (o:=.cells #[.int .i64 a1_0,.int .i64 a1_1,.slice A1_2 l1_2.length c1_2] 33 (0,0)) (by (with_reducible repeat (first | refine blk_drewN ?_ _ | refine blk_drew ?_ | refine blk_alloc ?_ _));exact BK498.out) hb)
    have n3_:=Aside0.mk (below_step (by repeat (first | (with_reducible first | exact HB.out | apply below_alloc | apply pw_below_drewN | apply below_drew1 | refine below_set ?_ GE498.out) | exact HB.out)) hb)
    clear HO503
    clear BK498
    clear HB
    have HO503:=n0_
    have HO508:=n1_
    have BK498:=n2_
    have HB:=n3_
    clear n0_ n1_ n2_ n3_
    (try clear hb)
    (try clear hb2)
    (try clear hk)
    (try clear hi)
    (try clear ho0)
    obtain ⟨Ao27,co27,eo27⟩:=Kd.R_slice HO503.out
    (first | subst eo27 | (injection eo27 with f1_ f2_ f3_;have f4_:=f1_.symm;have f5_:=f3_.symm;clear f1_ f2_ f3_;subst f4_;subst f5_))
    obtain ⟨Ao28,co28,eo28⟩:=Kd.R_slice HO508.out
    (first | subst eo28 | (injection eo28 with f1_ f2_ f3_;have f4_:=f1_.symm;have f5_:=f3_.symm;clear f1_ f2_ f3_;subst f4_;subst f5_))
    refine hK.out _ _ ⟨(blk_cell BK498.out 0).trans rfl,(blk_cell BK498.out 1).trans rfl,(blk_cell BK498.out 2).trans rfl⟩ (fun hHeld=>?_)
    clear hK K
    refine norm_ (a':=?_) ?_ ?_
    rotate_left
    ·show Act.put _ (some 23) _ = _
     simp only [Act.put,List.setIfInBounds_toArray,List.set_cons_zero,List.set_cons_succ,i64_w,i32_w]
     rfl
    refine one_ (i:=4) (N:=some 24) #[true,true,true,true,true,false] rfl rfl (by kernel_rfl) (by decide) (fun K hK=>?_)
    refine goes_ Tryd.func26 (by kernel_rfl) rfl #[.slice Ao27 t501.length co27,.agg #[.int .i64 t504,.int .i64 t505,.slice Ao28 t506.length co28]] (by rfl) rfl rfl (by (try simp only [List.map_toArray,List.map_cons,List.map_nil]);first | done | rfl | (simp only [List.length_drop,List.length_take];rfl)) ?_
    with_reducible refine (spec_SealMade.calls k _ _ t501 t504 t505 _ _ t506 t509 _ ?side1 ?side2 ?side3 ?side4 A15.out).mono ?_
    (case side1=>repeat (first | exact (Kd.R_reads' HO503.out).2.2 | (with_reducible refine Kd.C_alloc ?_ _) | (with_reducible refine Kd.C_drewN ?_ _) | (with_reducible refine Kd.C_drew ?_)))
    (case side2=>exact (Kd.R_reads' HO503.out).2.1)
    (case side3=>repeat (first | exact (Kd.R_reads' HO508.out).2.2 | (with_reducible refine Kd.C_alloc ?_ _) | (with_reducible refine Kd.C_drewN ?_ _) | (with_reducible refine Kd.C_drew ?_)))
    (case side4=>exact (Kd.R_reads' HO508.out).2.1)
    rintro e w29 ⟨rfl,hb⟩
    refine ⟨_,rfl,?_⟩
    have n0_:=Aside0.mk (Kd.R_below (by (with_reducible repeat (first | apply Kd.R_alloc | apply Kd.R_drewN | apply Kd.R_drew));exact HO503.out) hb)
    have n1_:=Aside0.mk (Kd.R_below (by (with_reducible repeat (first | apply Kd.R_alloc | apply Kd.R_drewN | apply Kd.R_drew));exact HO508.out) hb)
    have n2_:=Aside0.mk (blk_below (g:=gb498) (o:=.cells #[.int .i64 a1_0,.int .i64 a1_1,.slice A1_2 l1_2.length c1_2] 33 (0,0)) (by (with_reducible repeat (first | refine blk_drewN ?_ _ | refine blk_drew ?_ | refine blk_alloc ?_ _));exact BK498.out) hb)
    have n3_:=Aside0.mk (below_step (by repeat (first | (with_reducible first | exact HB.out | apply below_alloc | apply pw_below_drewN | apply below_drew1 | refine below_set ?_ GE498.out) | exact HB.out)) hb)
    clear HO503
    clear HO508
    clear BK498
    clear HB
    have HO503:=n0_
    have HO508:=n1_
    have BK498:=n2_
    have HB:=n3_
    clear n0_ n1_ n2_ n3_
    (try clear hb)
    (try clear hb2)
    (try clear hk)
    (try clear hi)
    refine hK.out _ _ ⟨(blk_cell BK498.out 0).trans rfl,(blk_cell BK498.out 1).trans rfl,(blk_cell BK498.out 2).trans rfl⟩ (fun hHeld=>?_)
    clear hK K
    refine norm_ (a':=?_) ?_ ?_
    rotate_left
    ·show Act.put _ (some 24) _ = _
     simp only [Act.put,List.setIfInBounds_toArray,List.set_cons_zero,List.set_cons_succ,i64_w,i32_w]
     rfl
    refine pure_ (i:=5) (N:=some 6) (v:=?_) (a':=?_) #[true,true,true,true,true,true] rfl rfl (by kernel_rfl) (fun _ _ _ h=>h) (Or.inl ⟨by rfl,?_⟩) ?_ ?_
    rotate_left;·intro w';go_simp;with_reducible rfl
    rotate_left;·simp only [Act.put,List.setIfInBounds_toArray,List.set_cons_zero,List.set_cons_succ,i64_w,i32_w];rfl
    refine done_ (by kernel_rfl) ?_
    try go_wp2_with (first | ((with_reducible refine gate_callee (f:=27) rfl ?_);refine goesL_ (some 26) rfl rfl Tryd.func27 (by kernel_rfl) rfl #[.slice A0 l0.length c0] rfl (by (try simp only [List.map_toArray,List.map_cons,List.map_nil]);first | done | rfl | (simp only [List.length_drop,List.length_take];rfl)) ?_;(with_reducible refine (laws_toSealS.calls k _ _ l0 t510 _ ?side1 ?side2 A16.out).mono ?_);(case side1=>repeat (first | exact (Kd.C_below HR0.out HB.out) | (with_reducible refine Kd.C_alloc ?_ _) | (with_reducible refine Kd.C_drewN ?_ _) | (with_reducible refine Kd.C_drew ?_)));(case side2=>exact HC0.out);rintro e w30 ⟨v511,rfl,ho0,hb⟩;refine ⟨_,rfl,?_⟩;have n0_:=Aside0.mk (Kd.R_elder' (by (with_reducible repeat (first | apply Kd.R_alloc | apply Kd.R_drewN | apply Kd.R_drew));exact HO503.out) (Kd.R_base ho0) hb);have n1_:=Aside0.mk (Kd.R_elder' (by (with_reducible repeat (first | apply Kd.R_alloc | apply Kd.R_drewN | apply Kd.R_drew));exact HO508.out) (Kd.R_base ho0) hb);have n2_:=Aside0.mk (Kd.R_lower (Kd.R_new' (Kd.R_new' ho0 (Kd.R_lt (by (with_reducible repeat (first | apply Kd.R_alloc | apply Kd.R_drewN | apply Kd.R_drew));exact HO503.out))) (Kd.R_lt (by (with_reducible repeat (first | apply Kd.R_alloc | apply Kd.R_drewN | apply Kd.R_drew));exact HO508.out))) (below_size (by repeat (first | (with_reducible first | exact HB.out | apply below_alloc | apply pw_below_drewN | apply below_drew1 | refine below_set ?_ GE498.out) | exact HB.out))));have n3_:=Aside0.mk (blk_below (g:=gb498) (o:=.cells #[.int .i64 a1_0,.int .i64 a1_1,.slice A1_2 l1_2.length c1_2] 33 (0,0)) (by (with_reducible repeat (first | refine blk_drewN ?_ _ | refine blk_drew ?_ | refine blk_alloc ?_ _));exact BK498.out) hb);have n4_:=Aside0.mk (below_step (by repeat (first | (with_reducible first | exact HB.out | apply below_alloc | apply pw_below_drewN | apply below_drew1 | refine below_set ?_ GE498.out) | exact HB.out)) hb);clear HO503;clear HO508;clear BK498;clear HB;have HO503:=n0_;have HO508:=n1_;have HO512:=n2_;have BK498:=n3_;have HB:=n4_;clear n0_ n1_ n2_ n3_ n4_;(try clear hb);(try clear hb2);(try clear hk);(try clear hi);(try clear ho0);have hcz31_0:w30.cell? ⟨gb498,0,none⟩ = some (.int .i64 a1_0):=(blk_cell BK498.out 0).trans rfl;have hcz31_1:w30.cell? ⟨gb498,1,none⟩ = some (.int .i64 a1_1):=(blk_cell BK498.out 1).trans rfl;have hcz31_2:w30.cell? ⟨gb498,2,none⟩ = some (.slice A1_2 l1_2.length c1_2):=(blk_cell BK498.out 2).trans rfl;have hfz31_0:=blk_frozen BK498.out 0;have hfz31_1:=blk_frozen BK498.out 1;have hfz31_2:=blk_frozen BK498.out 2) | ((with_reducible refine gate_callee (f:=21) rfl ?_);refine goesL_ (some 28) rfl rfl Tryd.func21 (by kernel_rfl) rfl #[.agg #[.int .i64 a1_0,.int .i64 a1_1,.slice A1_2 l1_2.length c1_2]] rfl (by (try simp only [List.map_toArray,List.map_cons,List.map_nil]);first | done | rfl | (simp only [List.length_drop,List.length_take];rfl)) ?_;(with_reducible refine (laws_toSeal.calls k a1_0 a1_1 _ _ l1_2 t513 t514 t515 _ ?side1 ?side2 A17.out).mono ?_);(case side1=>repeat (first | exact (Kd.C_below HR1_2.out HB.out) | (with_reducible refine Kd.C_alloc ?_ _) | (with_reducible refine Kd.C_drewN ?_ _) | (with_reducible refine Kd.C_drew ?_)));(case side2=>exact HC1_2.out);rintro e w32 ⟨v516,rfl,ho0,hb⟩;refine ⟨_,rfl,?_⟩;have n0_:=Aside0.mk (Kd.R_elder' (by (with_reducible repeat (first | apply Kd.R_alloc | apply Kd.R_drewN | apply Kd.R_drew));exact HO503.out) (Kd.R_base ho0) hb);have n1_:=Aside0.mk (Kd.R_elder' (by (with_reducible repeat (first | apply Kd.R_alloc | apply Kd.R_drewN | apply Kd.R_drew));exact HO508.out) (Kd.R_base ho0) hb);have n2_:=Aside0.mk (Kd.R_elder' (by (with_reducible repeat (first | apply Kd.R_alloc | apply Kd.R_drewN | apply Kd.R_drew));exact HO512.out) (Kd.R_base ho0) hb);have n3_:=Aside0.mk (Kd.R_lower (Kd.R_new' (Kd.R_new' (Kd.R_new' ho0 (Kd.R_lt (by (with_reducible repeat (first | apply Kd.R_alloc | apply Kd.R_drewN | apply Kd.R_drew));exact HO503.out))) (Kd.R_lt (by (with_reducible repeat (first | apply Kd.R_alloc | apply Kd.R_drewN | apply Kd.R_drew));exact HO508.out))) (Kd.R_lt (by (with_reducible repeat (first | apply Kd.R_alloc | apply Kd.R_drewN | apply Kd.R_drew));exact HO512.out))) (below_size (by repeat (first | (with_reducible first | exact HB.out | apply below_alloc | apply pw_below_drewN | apply below_drew1 | refine below_set ?_ GE498.out) | exact HB.out))));have n4_:=Aside0.mk (blk_below (g:=gb498) (o:=.cells #[.int .i64 a1_0,.int .i64 a1_1,.slice A1_2 l1_2.length c1_2] 33 (0,0)) (by (with_reducible repeat (first | refine blk_drewN ?_ _ | refine blk_drew ?_ | refine blk_alloc ?_ _));exact BK498.out) hb);have n5_:=Aside0.mk (below_step (by repeat (first | (with_reducible first | exact HB.out | apply below_alloc | apply pw_below_drewN | apply below_drew1 | refine below_set ?_ GE498.out) | exact HB.out)) hb);clear HO503;clear HO508;clear HO512;clear BK498;clear HB;have HO503:=n0_;have HO508:=n1_;have HO512:=n2_;have HO517:=n3_;have BK498:=n4_;have HB:=n5_;clear n0_ n1_ n2_ n3_ n4_ n5_;(try clear hb);(try clear hb2);(try clear hk);(try clear hi);(try clear ho0)) | ((with_reducible refine gate_dst (N:=8) rfl ?_);refine box_event ?hg (N:=8) ?hd (cs:=#[.int .i64 0,.int .i64 0,.slice none 0 0]) (t:=25) ?hr ?_;(case hd=>rfl);(case hg=>rfl);(case hr=>first | (go_simp;done) | (go_simp;rfl));intro gb518 hg w33 hbox hb;have n0_:=Aside0.mk (Kd.R_below (Kd.R_elderB (by (with_reducible repeat (first | apply Kd.R_alloc | apply Kd.R_drewN | apply Kd.R_drew));exact HO503.out) gb518 (Nat.le_of_eq hg.symm)) hb);have n1_:=Aside0.mk (Kd.R_below (Kd.R_elderB (by (with_reducible repeat (first | apply Kd.R_alloc | apply Kd.R_drewN | apply Kd.R_drew));exact HO508.out) gb518 (Nat.le_of_eq hg.symm)) hb);have n2_:=Aside0.mk (Kd.R_below (Kd.R_elderB (by (with_reducible repeat (first | apply Kd.R_alloc | apply Kd.R_drewN | apply Kd.R_drew));exact HO512.out) gb518 (Nat.le_of_eq hg.symm)) hb);have n3_:=Aside0.mk (Kd.R_below (Kd.R_elderB (by (with_reducible repeat (first | apply Kd.R_alloc | apply Kd.R_drewN | apply Kd.R_drew));exact HO517.out) gb518 (Nat.le_of_eq hg.symm)) hb);have n4_:=Aside0.mk (blk_below (g:=gb498) (o:=.cells #[.int .i64 a1_0,.int .i64 a1_1,.slice A1_2 l1_2.length c1_2] 33 (0,0)) (by (with_reducible repeat (first | refine blk_drewN ?_ _ | refine blk_drew ?_ | refine blk_alloc ?_ _));exact BK498.out) hb);have n5_:=Aside0.mk (below_step (by repeat (first | (with_reducible first | exact HB.out | apply below_alloc | apply pw_below_drewN | apply below_drew1 | refine below_set ?_ GE498.out) | exact HB.out)) hb);have n6_:=Aside0.mk (hbox);have n7_:=Aside0.mk ((by rw [hg];exact (below_size (by repeat (first | (with_reducible first | exact HB.out | apply below_alloc | apply pw_below_drewN | apply below_drew1 | refine below_set ?_ GE498.out) | exact HB.out))):w.heap.size ≤ gb518));have n8_:=Aside0.mk ((by rw [hg];exact (below_size (by repeat (first | (with_reducible first | exact HB.out | apply below_alloc | apply pw_below_drewN | apply below_drew1 | refine below_set ?_ GE498.out) | exact HB.out))):w.heap.size ≤ gb518));have n9_:=Aside0.mk ((by rw [hg];exact Nat.ne_of_lt (blk_lt (g:=gb498) (o:=.cells #[.int .i64 a1_0,.int .i64 a1_1,.slice A1_2 l1_2.length c1_2] 33 (0,0)) (by (with_reducible repeat (first | refine blk_drewN ?_ _ | refine blk_drew ?_ | refine blk_alloc ?_ _));exact BK498.out)):gb498 ≠ gb518));have n10_:=Aside0.mk ((by rw [hg];exact Nat.ne_of_gt (blk_lt (g:=gb498) (o:=.cells #[.int .i64 a1_0,.int .i64 a1_1,.slice A1_2 l1_2.length c1_2] 33 (0,0)) (by (with_reducible repeat (first | refine blk_drewN ?_ _ | refine blk_drew ?_ | refine blk_alloc ?_ _));exact BK498.out)):gb518 ≠ gb498));clear HO503;clear HO508;clear HO512;clear HO517;clear BK498;clear HB;have HO503:=n0_;have HO508:=n1_;have HO512:=n2_;have HO517:=n3_;have BK498:=n4_;have HB:=n5_;have BK518:=n6_;have GW518:=n7_;have GE518:=n8_;have NB498_518:=n9_;have NB518_498:=n10_;clear n0_ n1_ n2_ n3_ n4_ n5_ n6_ n7_ n8_ n9_ n10_;clear hb hbox hg;have hnb34:=NB518_498.out;have hnc34:=NB498_518.out;have hcz35_0:w33.cell? ⟨gb518,0,none⟩ = some (.int .i64 0):=(blk_cell BK518.out 0).trans rfl;have hcz35_1:w33.cell? ⟨gb518,1,none⟩ = some (.int .i64 0):=(blk_cell BK518.out 1).trans rfl;have hcz35_2:w33.cell? ⟨gb518,2,none⟩ = some (.slice none 0 0):=(blk_cell BK518.out 2).trans rfl;have hfz35_0:=blk_frozen BK518.out 0;have hfz35_1:=blk_frozen BK518.out 1;have hfz35_2:=blk_frozen BK518.out 2;obtain ⟨Ao36,co36,eo36⟩:=Kd.R_slice HO517.out;subst eo36;obtain ⟨Ao37,co37,eo37⟩:=Kd.R_slice HO512.out;subst eo37) | ((with_reducible refine gate_callee (f:=28) rfl ?_);refine goesL_ (some 31) rfl rfl Tryd.func28 (by kernel_rfl) rfl #[.slice Ao37 t510.length co37,.agg #[.int .i64 t513,.int .i64 t514,.slice Ao36 t515.length co36]] rfl (by (try simp only [List.map_toArray,List.map_cons,List.map_nil]);first | done | rfl | (simp only [List.length_drop,List.length_take];rfl)) ?_;(with_reducible refine (impl_SealMade.calls _ _ t510 t513 t514 _ _ t515 t519 _ ?side1 ?side2 ?side3 ?side4 A18.out).mono ?_);(case side1=>refine (Kd.R_reads' (e:=25) (base:=w.heap.size) (ok:=fun k_=>((((True∧some k_ ≠ (.slice Ao27 t501.length co27:Value).ownBlock)∧some k_ ≠ (.slice Ao28 t506.length co28:Value).ownBlock)∧some k_ ≠ (.slice Ao36 t515.length co36:Value).ownBlock)∧k_ ≠ gb518)) (n:=t510.length) (c:=co37) ?_).2.2;exact (by (with_reducible repeat (first | apply Kd.R_alloc | apply Kd.R_drewN | apply Kd.R_drew));exact (Kd.R_mono (Kd.R_far (p:=⟨gb518,2,none⟩) (Kd.R_far (p:=⟨gb518,1,none⟩) (Kd.R_far (p:=⟨gb518,0,none⟩) (Kd.R_mono HO512.out (fun k_ hk=>(⟨hk,hk.2⟩:_∧k_ ≠ gb518))) (fun _ hk=>hk.2) (.int .i64 t513)) (fun _ hk=>hk.2) (.int .i64 t514)) (fun _ hk=>hk.2) (.slice Ao36 t515.length co36)) (fun _ h_=>h_.1))));(case side2=>exact (Kd.R_reads' HO512.out).2.1);(case side3=>refine (Kd.R_reads' (e:=25) (base:=w.heap.size) (ok:=fun k_=>((((True∧some k_ ≠ (.slice Ao27 t501.length co27:Value).ownBlock)∧some k_ ≠ (.slice Ao28 t506.length co28:Value).ownBlock)∧some k_ ≠ (.slice Ao37 t510.length co37:Value).ownBlock)∧k_ ≠ gb518)) (n:=t515.length) (c:=co36) ?_).2.2;exact (by (with_reducible repeat (first | apply Kd.R_alloc | apply Kd.R_drewN | apply Kd.R_drew));exact (Kd.R_mono (Kd.R_far (p:=⟨gb518,2,none⟩) (Kd.R_far (p:=⟨gb518,1,none⟩) (Kd.R_far (p:=⟨gb518,0,none⟩) (Kd.R_mono HO517.out (fun k_ hk=>(⟨hk,hk.2⟩:_∧k_ ≠ gb518))) (fun _ hk=>hk.2) (.int .i64 t513)) (fun _ hk=>hk.2) (.int .i64 t514)) (fun _ hk=>hk.2) (.slice Ao36 t515.length co36)) (fun _ h_=>h_.1))));(case side4=>exact (Kd.R_reads' HO517.out).2.1);rintro e w38 ⟨rfl,hb⟩;refine ⟨_,rfl,?_⟩;have n0_:=Aside0.mk (Kd.R_below (by (with_reducible repeat (first | apply Kd.R_alloc | apply Kd.R_drewN | apply Kd.R_drew));exact (Kd.R_mono (Kd.R_far (p:=⟨gb518,2,none⟩) (Kd.R_far (p:=⟨gb518,1,none⟩) (Kd.R_far (p:=⟨gb518,0,none⟩) (Kd.R_mono HO503.out (fun k_ hk=>(⟨hk,hk.2⟩:_∧k_ ≠ gb518))) (fun _ hk=>hk.2) (.int .i64 t513)) (fun _ hk=>hk.2) (.int .i64 t514)) (fun _ hk=>hk.2) (.slice Ao36 t515.length co36)) (fun _ h_=>h_.1))) hb);have n1_:=Aside0.mk (Kd.R_below (by (with_reducible repeat (first | apply Kd.R_alloc | apply Kd.R_drewN | apply Kd.R_drew));exact (Kd.R_mono (Kd.R_far (p:=⟨gb518,2,none⟩) (Kd.R_far (p:=⟨gb518,1,none⟩) (Kd.R_far (p:=⟨gb518,0,none⟩) (Kd.R_mono HO508.out (fun k_ hk=>(⟨hk,hk.2⟩:_∧k_ ≠ gb518))) (fun _ hk=>hk.2) (.int .i64 t513)) (fun _ hk=>hk.2) (.int .i64 t514)) (fun _ hk=>hk.2) (.slice Ao36 t515.length co36)) (fun _ h_=>h_.1))) hb);have n2_:=Aside0.mk (Kd.R_below (by (with_reducible repeat (first | apply Kd.R_alloc | apply Kd.R_drewN | apply Kd.R_drew));exact (Kd.R_mono (Kd.R_far (p:=⟨gb518,2,none⟩) (Kd.R_far (p:=⟨gb518,1,none⟩) (Kd.R_far (p:=⟨gb518,0,none⟩) (Kd.R_mono HO512.out (fun k_ hk=>(⟨hk,hk.2⟩:_∧k_ ≠ gb518))) (fun _ hk=>hk.2) (.int .i64 t513)) (fun _ hk=>hk.2) (.int .i64 t514)) (fun _ hk=>hk.2) (.slice Ao36 t515.length co36)) (fun _ h_=>h_.1))) hb);have n3_:=Aside0.mk (Kd.R_below (by (with_reducible repeat (first | apply Kd.R_alloc | apply Kd.R_drewN | apply Kd.R_drew));exact (Kd.R_mono (Kd.R_far (p:=⟨gb518,2,none⟩) (Kd.R_far (p:=⟨gb518,1,none⟩) (Kd.R_far (p:=⟨gb518,0,none⟩) (Kd.R_mono HO517.out (fun k_ hk=>(⟨hk,hk.2⟩:_∧k_ ≠ gb518))) (fun _ hk=>hk.2) (.int .i64 t513)) (fun _ hk=>hk.2) (.int .i64 t514)) (fun _ hk=>hk.2) (.slice Ao36 t515.length co36)) (fun _ h_=>h_.1))) hb);have n4_:=Aside0.mk (blk_below (g:=gb498) (o:=.cells #[.int .i64 a1_0,.int .i64 a1_1,.slice A1_2 l1_2.length c1_2] 33 (0,0)) (by (with_reducible repeat (first | refine blk_drewN ?_ _ | refine blk_drew ?_ | refine blk_alloc ?_ _));refine blk_far ?_ NB498_518.out _;(with_reducible repeat (first | refine blk_drewN ?_ _ | refine blk_drew ?_ | refine blk_alloc ?_ _));refine blk_far ?_ NB498_518.out _;(with_reducible repeat (first | refine blk_drewN ?_ _ | refine blk_drew ?_ | refine blk_alloc ?_ _));refine blk_far ?_ NB498_518.out _;(with_reducible repeat (first | refine blk_drewN ?_ _ | refine blk_drew ?_ | refine blk_alloc ?_ _));exact BK498.out) hb);have n5_:=Aside0.mk (blk_below (g:=gb518) (o:=.cells #[.int .i64 t513,.int .i64 t514,.slice Ao36 t515.length co36] 25 (0,0)) (by (with_reducible repeat (first | refine blk_drewN ?_ _ | refine blk_drew ?_ | refine blk_alloc ?_ _));refine blk_put (cs:=#[.int .i64 t513,.int .i64 t514,.slice none 0 0]) ?_ 2 _ rfl;(with_reducible repeat (first | refine blk_drewN ?_ _ | refine blk_drew ?_ | refine blk_alloc ?_ _));refine blk_put (cs:=#[.int .i64 t513,.int .i64 0,.slice none 0 0]) ?_ 1 _ rfl;(with_reducible repeat (first | refine blk_drewN ?_ _ | refine blk_drew ?_ | refine blk_alloc ?_ _));refine blk_put (cs:=#[.int .i64 0,.int .i64 0,.slice none 0 0]) ?_ 0 _ rfl;(with_reducible repeat (first | refine blk_drewN ?_ _ | refine blk_drew ?_ | refine blk_alloc ?_ _));exact BK518.out) hb);have n6_:=Aside0.mk (below_step (by repeat (first | (with_reducible first | exact HB.out | apply below_alloc | apply pw_below_drewN | apply below_drew1 | refine below_set ?_ GE498.out | refine below_set ?_ GE518.out) | exact HB.out)) hb);clear HO503;clear HO508;clear HO512;clear HO517;clear BK498;clear BK518;clear HB;have HO503:=n0_;have HO508:=n1_;have HO512:=n2_;have HO517:=n3_;have BK498:=n4_;have BK518:=n5_;have HB:=n6_;clear n0_ n1_ n2_ n3_ n4_ n5_ n6_;(try clear hb);(try clear hb2);(try clear hk);(try clear hi)))
    go_ret
    exact ⟨by first | rfl | (simp [errW_none,errW_some] <;> rfl) | (simp [*,errW_none,errW_some] <;> rfl),by repeat (first | (with_reducible first | exact HB.out | apply below_alloc | apply pw_below_drewN | apply below_drew1 | refine below_set ?_ GE498.out | refine below_set ?_ GE518.out) | exact HB.out)⟩
   ·rw [if_neg c19] at H
    have c19b0:(t519 != t509) = false:=by simpa using c19
    (try (have c19b1:decide (t519 = t509) = true:=by simpa using c19))
    (try (have c19b2:(t519 == t509) = true:=by simpa using c19))
    clear c19
    replace H:=Option.bind_eq_some_iff.mp H
    obtain ⟨t520,A390,H⟩:=H
    replace H:((laws_eqSealS.f k t510 t520).bind fun t523=>(if t523 = true then ((laws_toSeal.f k a1_0 a1_1 l1_2).bind fun bt524=>((laws_eqSeal.f k t513 t514 t515 bt524.1 bt524.2.1 bt524.2.2).bind fun t529=>(if t529 = true then (some true) else (some false)))) else (some false))) = some r:=H
    have A39:=Aside0.mk A390
    clear A390
    replace H:=Option.bind_eq_some_iff.mp H
    obtain ⟨t523,A400,H⟩:=H
    replace H:(if t523 = true then ((laws_toSeal.f k a1_0 a1_1 l1_2).bind fun bt524=>((laws_eqSeal.f k t513 t514 t515 bt524.1 bt524.2.1 bt524.2.2).bind fun t529=>(if t529 = true then (some true) else (some false)))) else (some false)) = some r:=H
    have A40:=Aside0.mk A400
    clear A400
    by_cases c41:t523 = true
    ·subst c41
     have H1:((laws_toSeal.f k a1_0 a1_1 l1_2).bind fun bt524=>((laws_eqSeal.f k t513 t514 t515 bt524.1 bt524.2.1 bt524.2.2).bind fun t529=>(if t529 = true then (some true) else (some false)))) = some r:=by rw [if_pos rfl] at H;exact H
     clear H
     have H:=H1
     clear H1
     replace H:=Option.bind_eq_some_iff.mp H
     obtain ⟨⟨t524,t525,t526⟩,A420,H⟩:=H
     replace H:((laws_eqSeal.f k t513 t514 t515 t524 t525 t526).bind fun t529=>(if t529 = true then (some true) else (some false))) = some r:=H
     have A42:=Aside0.mk A420
     clear A420
     replace H:=Option.bind_eq_some_iff.mp H
     obtain ⟨t529,A430,H⟩:=H
     replace H:(if t529 = true then (some true) else (some false)) = some r:=H
     have A43:=Aside0.mk A430
     clear A430
     by_cases c44:t529 = true
     ·subst c44
      have H1:(some true) = some r:=by rw [if_pos rfl] at H;exact H
      clear H
      have H:=H1
      clear H1
      obtain rfl:=Option.some.inj H
      go_enter Tryd.func8,Tryd.ntmps8
      try go_wp2_with (first | ((with_reducible refine gate_dst (N:=3) rfl ?_);refine box_event ?hg (N:=3) ?hd (cs:=#[.int .i64 a1_0,.int .i64 a1_1,.slice A1_2 l1_2.length c1_2]) (t:=33) ?hr ?_;(case hd=>rfl);(case hg=>rfl);(case hr=>first | (go_simp;done) | (go_simp;rfl));intro gb498 hg w45 hbox hb;have n0_:=Aside0.mk (below_step (by repeat (first | (with_reducible first | exact HB.out | apply below_alloc | apply pw_below_drewN | apply below_drew1) | exact HB.out)) hb);have n1_:=Aside0.mk (hbox);have n2_:=Aside0.mk ((by rw [hg];exact (below_size (by repeat (first | (with_reducible first | exact HB.out | apply below_alloc | apply pw_below_drewN | apply below_drew1) | exact HB.out))):w.heap.size ≤ gb498));have n3_:=Aside0.mk ((by rw [hg];exact (below_size (by repeat (first | (with_reducible first | exact HB.out | apply below_alloc | apply pw_below_drewN | apply below_drew1) | exact HB.out))):w.heap.size ≤ gb498));clear HB;have HB:=n0_;have BK498:=n1_;have GW498:=n2_;have GE498:=n3_;clear n0_ n1_ n2_ n3_;clear hb hbox hg) | ((with_reducible refine gate_callee (f:=25) rfl ?_);refine goesL_ (some 12) rfl rfl Tryd.func25 (by kernel_rfl) rfl #[.slice A0 l0.length c0,.int .i64 1048576] rfl (by (try simp only [List.map_toArray,List.map_cons,List.map_nil]);first | done | rfl | (simp only [List.length_drop,List.length_take];rfl)) ?_;(with_reducible refine (laws_szSealS.calls k _ _ l0 1048576 t499 _ ?side1 ?side2 A3.out).mono ?_);(case side1=>repeat (first | exact (Kd.C_below HR0.out HB.out) | (with_reducible refine Kd.C_alloc ?_ _) | (with_reducible refine Kd.C_drewN ?_ _) | (with_reducible refine Kd.C_drew ?_)));(case side2=>exact HC0.out);rintro e w46 ⟨rfl,hb⟩;refine ⟨_,rfl,?_⟩;have n0_:=Aside0.mk (blk_below (g:=gb498) (o:=.cells #[.int .i64 a1_0,.int .i64 a1_1,.slice A1_2 l1_2.length c1_2] 33 (0,0)) (by (with_reducible repeat (first | refine blk_drewN ?_ _ | refine blk_drew ?_ | refine blk_alloc ?_ _));exact BK498.out) hb);have n1_:=Aside0.mk (below_step (by repeat (first | (with_reducible first | exact HB.out | apply below_alloc | apply pw_below_drewN | apply below_drew1 | refine below_set ?_ GE498.out) | exact HB.out)) hb);clear BK498;clear HB;have BK498:=n0_;have HB:=n1_;clear n0_ n1_;(try clear hb);(try clear hb2);(try clear hk);(try clear hi);have hcz47_0:w46.cell? ⟨gb498,0,none⟩ = some (.int .i64 a1_0):=(blk_cell BK498.out 0).trans rfl;have hcz47_1:w46.cell? ⟨gb498,1,none⟩ = some (.int .i64 a1_1):=(blk_cell BK498.out 1).trans rfl;have hcz47_2:w46.cell? ⟨gb498,2,none⟩ = some (.slice A1_2 l1_2.length c1_2):=(blk_cell BK498.out 2).trans rfl;have hfz47_0:=blk_frozen BK498.out 0;have hfz47_1:=blk_frozen BK498.out 1;have hfz47_2:=blk_frozen BK498.out 2) | ((with_reducible refine gate_callee (f:=20) rfl ?_);refine goesL_ (some 17) rfl rfl Tryd.func20 (by kernel_rfl) rfl #[.agg #[.int .i64 a1_0,.int .i64 a1_1,.slice A1_2 l1_2.length c1_2],.int .i64 t499] rfl (by (try simp only [List.map_toArray,List.map_cons,List.map_nil]);first | done | rfl | (simp only [List.length_drop,List.length_take];rfl)) ?_;(with_reducible refine (laws_szSeal.calls k a1_0 a1_1 _ _ l1_2 t499 t500 _ ?side1 ?side2 A7.out).mono ?_);(case side1=>repeat (first | exact (Kd.C_below HR1_2.out HB.out) | (with_reducible refine Kd.C_alloc ?_ _) | (with_reducible refine Kd.C_drewN ?_ _) | (with_reducible refine Kd.C_drew ?_)));(case side2=>exact HC1_2.out);rintro e w48 ⟨rfl,hb⟩;refine ⟨_,rfl,?_⟩;have n0_:=Aside0.mk (blk_below (g:=gb498) (o:=.cells #[.int .i64 a1_0,.int .i64 a1_1,.slice A1_2 l1_2.length c1_2] 33 (0,0)) (by (with_reducible repeat (first | refine blk_drewN ?_ _ | refine blk_drew ?_ | refine blk_alloc ?_ _));exact BK498.out) hb);have n1_:=Aside0.mk (below_step (by repeat (first | (with_reducible first | exact HB.out | apply below_alloc | apply pw_below_drewN | apply below_drew1 | refine below_set ?_ GE498.out) | exact HB.out)) hb);clear BK498;clear HB;have BK498:=n0_;have HB:=n1_;clear n0_ n1_;(try clear hb);(try clear hb2);(try clear hk);(try clear hi)))
      have n0_:=Aside0.mk (blk_drew BK498.out)
      have n1_:=Aside0.mk (below_drew1 HB.out)
      clear BK498
      clear HB
      have BK498:=n0_
      have HB:=n1_
      clear n0_ n1_
      refine start_ (n:=6) (S:=fun w'=>w'.cell? ⟨gb498,0,none⟩ = some (.int .i64 a1_0)∧w'.cell? ⟨gb498,1,none⟩ = some (.int .i64 a1_1)∧w'.cell? ⟨gb498,2,none⟩ = some (.slice A1_2 l1_2.length c1_2)) (ds:=[]) #[false,false,false,false,false,false] (by kernel_rfl) rfl rfl ⟨(blk_cell BK498.out 0).trans rfl,(blk_cell BK498.out 1).trans rfl,(blk_cell BK498.out 2).trans rfl⟩ (fun hHeld=>?_)
      generalize w48.drew = w49 at BK498 HB hHeld ⊢
      refine pure_ (i:=0) (N:=some 20) (v:=?_) (a':=?_) #[true,false,false,false,false,false] rfl rfl (by kernel_rfl) (fun _ _ _ h=>h) (Or.inl ⟨by rfl,?_⟩) ?_ ?_
      rotate_left;·intro w';go_simp;with_reducible rfl
      rotate_left;·simp only [Act.put,List.setIfInBounds_toArray,List.set_cons_zero,List.set_cons_succ,i64_w,i32_w];rfl
      refine take_ (i:=2) (N:=some 22) (v:=?_) (a':=?_) #[true,false,true,false,false,false] rfl rfl (by kernel_rfl) (fun _ _ _ h=>h) (Or.inl ⟨by rfl,?_⟩) hHeld ?_ ?_
      rotate_left;·rintro w' ⟨s0,s1,s2⟩;go_simp;with_reducible rfl
      rotate_left;·simp only [Act.put,List.setIfInBounds_toArray,List.set_cons_zero,List.set_cons_succ,i64_w,i32_w];rfl
      refine one_ (i:=1) (N:=some 21) #[true,true,true,false,false,false] rfl rfl (by kernel_rfl) (by decide) (fun K hK=>?_)
      refine goes_ Tryd.func27 (by kernel_rfl) rfl #[.slice A0 l0.length c0] (by rfl) rfl rfl (by (try simp only [List.map_toArray,List.map_cons,List.map_nil]);first | done | rfl | (simp only [List.length_drop,List.length_take];rfl)) ?_
      with_reducible refine (laws_toSealS.calls k _ _ l0 t501 _ ?side1 ?side2 A13.out).mono ?_
      (case side1=>repeat (first | exact (Kd.C_below HR0.out HB.out) | (with_reducible refine Kd.C_alloc ?_ _) | (with_reducible refine Kd.C_drewN ?_ _) | (with_reducible refine Kd.C_drew ?_)))
      (case side2=>exact HC0.out)
      rintro e w50 ⟨v502,rfl,ho0,hb⟩
      refine ⟨_,rfl,?_⟩
      have n0_:=Aside0.mk (Kd.R_lower ho0 (below_size (by repeat (first | (with_reducible first | exact HB.out | apply below_alloc | apply pw_below_drewN | apply below_drew1 | refine below_set ?_ GE498.out) | exact HB.out))))
      have n1_:=Aside0.mk (blk_below (g:=gb498) (o:=.cells #[.int .i64 a1_0,.int .i64 a1_1,.slice A1_2 l1_2.length c1_2] 33 (0,0)) (by (with_reducible repeat (first | refine blk_drewN ?_ _ | refine blk_drew ?_ | refine blk_alloc ?_ _));exact BK498.out) hb)
      have n2_:=Aside0.mk (below_step (by repeat (first | (with_reducible first | exact HB.out | apply below_alloc | apply pw_below_drewN | apply below_drew1 | refine below_set ?_ GE498.out) | exact HB.out)) hb)
      clear BK498
      clear HB
      have HO503:=n0_
      have BK498:=n1_
      have HB:=n2_
      clear n0_ n1_ n2_
      (try clear hb)
      (try clear hb2)
      (try clear hk)
      (try clear hi)
      (try clear ho0)
      refine hK.out _ _ ⟨(blk_cell BK498.out 0).trans rfl,(blk_cell BK498.out 1).trans rfl,(blk_cell BK498.out 2).trans rfl⟩ (fun hHeld=>?_)
      clear hK K
      refine norm_ (a':=?_) ?_ ?_
      rotate_left
      ·show Act.put _ (some 21) _ = _
       simp only [Act.put,List.setIfInBounds_toArray,List.set_cons_zero,List.set_cons_succ,i64_w,i32_w]
       rfl
      refine one_ (i:=3) (N:=some 23) #[true,true,true,true,false,false] rfl rfl (by kernel_rfl) (by decide) (fun K hK=>?_)
      refine goes_ Tryd.func21 (by kernel_rfl) rfl #[.agg #[.int .i64 a1_0,.int .i64 a1_1,.slice A1_2 l1_2.length c1_2]] (by rfl) rfl rfl (by (try simp only [List.map_toArray,List.map_cons,List.map_nil]);first | done | rfl | (simp only [List.length_drop,List.length_take];rfl)) ?_
      with_reducible refine (laws_toSeal.calls k a1_0 a1_1 _ _ l1_2 t504 t505 t506 _ ?side1 ?side2 A14.out).mono ?_
      (case side1=>repeat (first | exact (Kd.C_below HR1_2.out HB.out) | (with_reducible refine Kd.C_alloc ?_ _) | (with_reducible refine Kd.C_drewN ?_ _) | (with_reducible refine Kd.C_drew ?_)))
      (case side2=>exact HC1_2.out)
      rintro e w51 ⟨v507,rfl,ho0,hb⟩
      refine ⟨_,rfl,?_⟩
      have n0_:=Aside0.mk (Kd.R_elder' (by (with_reducible repeat (first | apply Kd.R_alloc | apply Kd.R_drewN | apply Kd.R_drew));exact HO503.out) (Kd.R_base ho0) hb)
      have n1_:=Aside0.mk (Kd.R_lower (Kd.R_new' ho0 (Kd.R_lt (by (with_reducible repeat (first | apply Kd.R_alloc | apply Kd.R_drewN | apply Kd.R_drew));exact HO503.out))) (below_size (by repeat (first | (with_reducible first | exact HB.out | apply below_alloc | apply pw_below_drewN | apply below_drew1 | refine below_set ?_ GE498.out) | exact HB.out))))
      have n2_:=Aside0.mk (blk_below (g:=gb498) (o:=.cells #[.int .i64 a1_0,.int .i64 a1_1,.slice A1_2 l1_2.length c1_2] 33 (0,0)) (by (with_reducible repeat (first | refine blk_drewN ?_ _ | refine blk_drew ?_ | refine blk_alloc ?_ _));exact BK498.out) hb)
      have n3_:=Aside0.mk (below_step (by repeat (first | (with_reducible first | exact HB.out | apply below_alloc | apply pw_below_drewN | apply below_drew1 | refine below_set ?_ GE498.out) | exact HB.out)) hb)
      clear HO503
      clear BK498
      clear HB
      have HO503:=n0_
      have HO508:=n1_
      have BK498:=n2_
      have HB:=n3_
      clear n0_ n1_ n2_ n3_
      (try clear hb)
      (try clear hb2)
      (try clear hk)
      (try clear hi)
      (try clear ho0)
      obtain ⟨Ao52,co52,eo52⟩:=Kd.R_slice HO503.out
      (first | subst eo52 | (injection eo52 with f1_ f2_ f3_;have f4_:=f1_.symm;have f5_:=f3_.symm;clear f1_ f2_ f3_;subst f4_;subst f5_))
      obtain ⟨Ao53,co53,eo53⟩:=Kd.R_slice HO508.out
      (first | subst eo53 | (injection eo53 with f1_ f2_ f3_;have f4_:=f1_.symm;have f5_:=f3_.symm;clear f1_ f2_ f3_;subst f4_;subst f5_))
      refine hK.out _ _ ⟨(blk_cell BK498.out 0).trans rfl,(blk_cell BK498.out 1).trans rfl,(blk_cell BK498.out 2).trans rfl⟩ (fun hHeld=>?_)
      clear hK K
      refine norm_ (a':=?_) ?_ ?_
      rotate_left
      ·show Act.put _ (some 23) _ = _
       simp only [Act.put,List.setIfInBounds_toArray,List.set_cons_zero,List.set_cons_succ,i64_w,i32_w]
       rfl
      refine one_ (i:=4) (N:=some 24) #[true,true,true,true,true,false] rfl rfl (by kernel_rfl) (by decide) (fun K hK=>?_)
      refine goes_ Tryd.func26 (by kernel_rfl) rfl #[.slice Ao52 t501.length co52,.agg #[.int .i64 t504,.int .i64 t505,.slice Ao53 t506.length co53]] (by rfl) rfl rfl (by (try simp only [List.map_toArray,List.map_cons,List.map_nil]);first | done | rfl | (simp only [List.length_drop,List.length_take];rfl)) ?_
      with_reducible refine (spec_SealMade.calls k _ _ t501 t504 t505 _ _ t506 t509 _ ?side1 ?side2 ?side3 ?side4 A15.out).mono ?_
      (case side1=>repeat (first | exact (Kd.R_reads' HO503.out).2.2 | (with_reducible refine Kd.C_alloc ?_ _) | (with_reducible refine Kd.C_drewN ?_ _) | (with_reducible refine Kd.C_drew ?_)))
      (case side2=>exact (Kd.R_reads' HO503.out).2.1)
      (case side3=>repeat (first | exact (Kd.R_reads' HO508.out).2.2 | (with_reducible refine Kd.C_alloc ?_ _) | (with_reducible refine Kd.C_drewN ?_ _) | (with_reducible refine Kd.C_drew ?_)))
      (case side4=>exact (Kd.R_reads' HO508.out).2.1)
      rintro e w54 ⟨rfl,hb⟩
      refine ⟨_,rfl,?_⟩
      have n0_:=Aside0.mk (Kd.R_below (by (with_reducible repeat (first | apply Kd.R_alloc | apply Kd.R_drewN | apply Kd.R_drew));exact HO503.out) hb)
      have n1_:=Aside0.mk (Kd.R_below (by (with_reducible repeat (first | apply Kd.R_alloc | apply Kd.R_drewN | apply Kd.R_drew));exact HO508.out) hb)
      have n2_:=Aside0.mk (blk_below (g:=gb498) (o:=.cells #[.int .i64 a1_0,.int .i64 a1_1,.slice A1_2 l1_2.length c1_2] 33 (0,0)) (by (with_reducible repeat (first | refine blk_drewN ?_ _ | refine blk_drew ?_ | refine blk_alloc ?_ _));exact BK498.out) hb)
      have n3_:=Aside0.mk (below_step (by repeat (first | (with_reducible first | exact HB.out | apply below_alloc | apply pw_below_drewN | apply below_drew1 | refine below_set ?_ GE498.out) | exact HB.out)) hb)
      clear HO503
      clear HO508
      clear BK498
      clear HB
      have HO503:=n0_
      have HO508:=n1_
      have BK498:=n2_
      have HB:=n3_
      clear n0_ n1_ n2_ n3_
      (try clear hb)
      (try clear hb2)
      (try clear hk)
      (try clear hi)
      refine hK.out _ _ ⟨(blk_cell BK498.out 0).trans rfl,(blk_cell BK498.out 1).trans rfl,(blk_cell BK498.out 2).trans rfl⟩ (fun hHeld=>?_)
      clear hK K
      refine norm_ (a':=?_) ?_ ?_
      rotate_left
      ·show Act.put _ (some 24) _ = _
       simp only [Act.put,List.setIfInBounds_toArray,List.set_cons_zero,List.set_cons_succ,i64_w,i32_w]
       rfl
      refine pure_ (i:=5) (N:=some 6) (v:=?_) (a':=?_) #[true,true,true,true,true,true] rfl rfl (by kernel_rfl) (fun _ _ _ h=>h) (Or.inl ⟨by rfl,?_⟩) ?_ ?_
      rotate_left;·intro w';go_simp;with_reducible rfl
      rotate_left;·simp only [Act.put,List.setIfInBounds_toArray,List.set_cons_zero,List.set_cons_succ,i64_w,i32_w];rfl
      refine done_ (by kernel_rfl) ?_
      try go_wp2_with (first | ((with_reducible refine gate_callee (f:=27) rfl ?_);refine goesL_ (some 26) rfl rfl Tryd.func27 (by kernel_rfl) rfl #[.slice A0 l0.length c0] rfl (by (try simp only [List.map_toArray,List.map_cons,List.map_nil]);first | done | rfl | (simp only [List.length_drop,List.length_take];rfl)) ?_;(with_reducible refine (laws_toSealS.calls k _ _ l0 t510 _ ?side1 ?side2 A16.out).mono ?_);(case side1=>repeat (first | exact (Kd.C_below HR0.out HB.out) | (with_reducible refine Kd.C_alloc ?_ _) | (with_reducible refine Kd.C_drewN ?_ _) | (with_reducible refine Kd.C_drew ?_)));(case side2=>exact HC0.out);rintro e w55 ⟨v511,rfl,ho0,hb⟩;refine ⟨_,rfl,?_⟩;have n0_:=Aside0.mk (Kd.R_elder' (by (with_reducible repeat (first | apply Kd.R_alloc | apply Kd.R_drewN | apply Kd.R_drew));exact HO503.out) (Kd.R_base ho0) hb);have n1_:=Aside0.mk (Kd.R_elder' (by (with_reducible repeat (first | apply Kd.R_alloc | apply Kd.R_drewN | apply Kd.R_drew));exact HO508.out) (Kd.R_base ho0) hb);have n2_:=Aside0.mk (Kd.R_lower (Kd.R_new' (Kd.R_new' ho0 (Kd.R_lt (by (with_reducible repeat (first | apply Kd.R_alloc | apply Kd.R_drewN | apply Kd.R_drew));exact HO503.out))) (Kd.R_lt (by (with_reducible repeat (first | apply Kd.R_alloc | apply Kd.R_drewN | apply Kd.R_drew));exact HO508.out))) (below_size (by repeat (first | (with_reducible first | exact HB.out | apply below_alloc | apply pw_below_drewN | apply below_drew1 | refine below_set ?_ GE498.out) | exact HB.out))));have n3_:=Aside0.mk (blk_below (g:=gb498) (o:=.cells #[.int .i64 a1_0,.int .i64 a1_1,.slice A1_2 l1_2.length c1_2] 33 (0,0)) (by (with_reducible repeat (first | refine blk_drewN ?_ _ | refine blk_drew ?_ | refine blk_alloc ?_ _));exact BK498.out) hb);have n4_:=Aside0.mk (below_step (by repeat (first | (with_reducible first | exact HB.out | apply below_alloc | apply pw_below_drewN | apply below_drew1 | refine below_set ?_ GE498.out) | exact HB.out)) hb);clear HO503;clear HO508;clear BK498;clear HB;have HO503:=n0_;have HO508:=n1_;have HO512:=n2_;have BK498:=n3_;have HB:=n4_;clear n0_ n1_ n2_ n3_ n4_;(try clear hb);(try clear hb2);(try clear hk);(try clear hi);(try clear ho0);have hcz56_0:w55.cell? ⟨gb498,0,none⟩ = some (.int .i64 a1_0):=(blk_cell BK498.out 0).trans rfl;have hcz56_1:w55.cell? ⟨gb498,1,none⟩ = some (.int .i64 a1_1):=(blk_cell BK498.out 1).trans rfl;have hcz56_2:w55.cell? ⟨gb498,2,none⟩ = some (.slice A1_2 l1_2.length c1_2):=(blk_cell BK498.out 2).trans rfl;have hfz56_0:=blk_frozen BK498.out 0;have hfz56_1:=blk_frozen BK498.out 1;have hfz56_2:=blk_frozen BK498.out 2) | ((with_reducible refine gate_callee (f:=21) rfl ?_);refine goesL_ (some 28) rfl rfl Tryd.func21 (by kernel_rfl) rfl #[.agg #[.int .i64 a1_0,.int .i64 a1_1,.slice A1_2 l1_2.length c1_2]] rfl (by (try simp only [List.map_toArray,List.map_cons,List.map_nil]);first | done | rfl | (simp only [List.length_drop,List.length_take];rfl)) ?_;(with_reducible refine (laws_toSeal.calls k a1_0 a1_1 _ _ l1_2 t513 t514 t515 _ ?side1 ?side2 A17.out).mono ?_);(case side1=>repeat (first | exact (Kd.C_below HR1_2.out HB.out) | (with_reducible refine Kd.C_alloc ?_ _) | (with_reducible refine Kd.C_drewN ?_ _) | (with_reducible refine Kd.C_drew ?_)));(case side2=>exact HC1_2.out);rintro e w57 ⟨v516,rfl,ho0,hb⟩;refine ⟨_,rfl,?_⟩;have n0_:=Aside0.mk (Kd.R_elder' (by (with_reducible repeat (first | apply Kd.R_alloc | apply Kd.R_drewN | apply Kd.R_drew));exact HO503.out) (Kd.R_base ho0) hb);have n1_:=Aside0.mk (Kd.R_elder' (by (with_reducible repeat (first | apply Kd.R_alloc | apply Kd.R_drewN | apply Kd.R_drew));exact HO508.out) (Kd.R_base ho0) hb);have n2_:=Aside0.mk (Kd.R_elder' (by (with_reducible repeat (first | apply Kd.R_alloc | apply Kd.R_drewN | apply Kd.R_drew));exact HO512.out) (Kd.R_base ho0) hb);have n3_:=Aside0.mk (Kd.R_lower (Kd.R_new' (Kd.R_new' (Kd.R_new' ho0 (Kd.R_lt (by (with_reducible repeat (first | apply Kd.R_alloc | apply Kd.R_drewN | apply Kd.R_drew));exact HO503.out))) (Kd.R_lt (by (with_reducible repeat (first | apply Kd.R_alloc | apply Kd.R_drewN | apply Kd.R_drew));exact HO508.out))) (Kd.R_lt (by (with_reducible repeat (first | apply Kd.R_alloc | apply Kd.R_drewN | apply Kd.R_drew));exact HO512.out))) (below_size (by repeat (first | (with_reducible first | exact HB.out | apply below_alloc | apply pw_below_drewN | apply below_drew1 | refine below_set ?_ GE498.out) | exact HB.out))));have n4_:=Aside0.mk (blk_below (g:=gb498) (o:=.cells #[.int .i64 a1_0,.int .i64 a1_1,.slice A1_2 l1_2.length c1_2] 33 (0,0)) (by (with_reducible repeat (first | refine blk_drewN ?_ _ | refine blk_drew ?_ | refine blk_alloc ?_ _));exact BK498.out) hb);have n5_:=Aside0.mk (below_step (by repeat (first | (with_reducible first | exact HB.out | apply below_alloc | apply pw_below_drewN | apply below_drew1 | refine below_set ?_ GE498.out) | exact HB.out)) hb);clear HO503;clear HO508;clear HO512;clear BK498;clear HB;have HO503:=n0_;have HO508:=n1_;have HO512:=n2_;have HO517:=n3_;have BK498:=n4_;have HB:=n5_;clear n0_ n1_ n2_ n3_ n4_ n5_;(try clear hb);(try clear hb2);(try clear hk);(try clear hi);(try clear ho0)) | ((with_reducible refine gate_dst (N:=8) rfl ?_);refine box_event ?hg (N:=8) ?hd (cs:=#[.int .i64 0,.int .i64 0,.slice none 0 0]) (t:=25) ?hr ?_;(case hd=>rfl);(case hg=>rfl);(case hr=>first | (go_simp;done) | (go_simp;rfl));intro gb518 hg w58 hbox hb;have n0_:=Aside0.mk (Kd.R_below (Kd.R_elderB (by (with_reducible repeat (first | apply Kd.R_alloc | apply Kd.R_drewN | apply Kd.R_drew));exact HO503.out) gb518 (Nat.le_of_eq hg.symm)) hb);have n1_:=Aside0.mk (Kd.R_below (Kd.R_elderB (by (with_reducible repeat (first | apply Kd.R_alloc | apply Kd.R_drewN | apply Kd.R_drew));exact HO508.out) gb518 (Nat.le_of_eq hg.symm)) hb);have n2_:=Aside0.mk (Kd.R_below (Kd.R_elderB (by (with_reducible repeat (first | apply Kd.R_alloc | apply Kd.R_drewN | apply Kd.R_drew));exact HO512.out) gb518 (Nat.le_of_eq hg.symm)) hb);have n3_:=Aside0.mk (Kd.R_below (Kd.R_elderB (by (with_reducible repeat (first | apply Kd.R_alloc | apply Kd.R_drewN | apply Kd.R_drew));exact HO517.out) gb518 (Nat.le_of_eq hg.symm)) hb);have n4_:=Aside0.mk (blk_below (g:=gb498) (o:=.cells #[.int .i64 a1_0,.int .i64 a1_1,.slice A1_2 l1_2.length c1_2] 33 (0,0)) (by (with_reducible repeat (first | refine blk_drewN ?_ _ | refine blk_drew ?_ | refine blk_alloc ?_ _));exact BK498.out) hb);have n5_:=Aside0.mk (below_step (by repeat (first | (with_reducible first | exact HB.out | apply below_alloc | apply pw_below_drewN | apply below_drew1 | refine below_set ?_ GE498.out) | exact HB.out)) hb);have n6_:=Aside0.mk (hbox);have n7_:=Aside0.mk ((by rw [hg];exact (below_size (by repeat (first | (with_reducible first | exact HB.out | apply below_alloc | apply pw_below_drewN | apply below_drew1 | refine below_set ?_ GE498.out) | exact HB.out))):w.heap.size ≤ gb518));have n8_:=Aside0.mk ((by rw [hg];exact (below_size (by repeat (first | (with_reducible first | exact HB.out | apply below_alloc | apply pw_below_drewN | apply below_drew1 | refine below_set ?_ GE498.out) | exact HB.out))):w.heap.size ≤ gb518));have n9_:=Aside0.mk ((by rw [hg];exact Nat.ne_of_lt (blk_lt (g:=gb498) (o:=.cells #[.int .i64 a1_0,.int .i64 a1_1,.slice A1_2 l1_2.length c1_2] 33 (0,0)) (by (with_reducible repeat (first | refine blk_drewN ?_ _ | refine blk_drew ?_ | refine blk_alloc ?_ _));exact BK498.out)):gb498 ≠ gb518));have n10_:=Aside0.mk ((by rw [hg];exact Nat.ne_of_gt (blk_lt (g:=gb498) (o:=.cells #[.int .i64 a1_0,.int .i64 a1_1,.slice A1_2 l1_2.length c1_2] 33 (0,0)) (by (with_reducible repeat (first | refine blk_drewN ?_ _ | refine blk_drew ?_ | refine blk_alloc ?_ _));exact BK498.out)):gb518 ≠ gb498));clear HO503;clear HO508;clear HO512;clear HO517;clear BK498;clear HB;have HO503:=n0_;have HO508:=n1_;have HO512:=n2_;have HO517:=n3_;have BK498:=n4_;have HB:=n5_;have BK518:=n6_;have GW518:=n7_;have GE518:=n8_;have NB498_518:=n9_;have NB518_498:=n10_;clear n0_ n1_ n2_ n3_ n4_ n5_ n6_ n7_ n8_ n9_ n10_;clear hb hbox hg;have hnb59:=NB518_498.out;have hnc59:=NB498_518.out;have hcz60_0:w58.cell? ⟨gb518,0,none⟩ = some (.int .i64 0):=(blk_cell BK518.out 0).trans rfl;have hcz60_1:w58.cell? ⟨gb518,1,none⟩ = some (.int .i64 0):=(blk_cell BK518.out 1).trans rfl;have hcz60_2:w58.cell? ⟨gb518,2,none⟩ = some (.slice none 0 0):=(blk_cell BK518.out 2).trans rfl;have hfz60_0:=blk_frozen BK518.out 0;have hfz60_1:=blk_frozen BK518.out 1;have hfz60_2:=blk_frozen BK518.out 2;obtain ⟨Ao61,co61,eo61⟩:=Kd.R_slice HO517.out;subst eo61;obtain ⟨Ao62,co62,eo62⟩:=Kd.R_slice HO512.out;subst eo62) | ((with_reducible refine gate_callee (f:=28) rfl ?_);refine goesL_ (some 31) rfl rfl Tryd.func28 (by kernel_rfl) rfl #[.slice Ao62 t510.length co62,.agg #[.int .i64 t513,.int .i64 t514,.slice Ao61 t515.length co61]] rfl (by (try simp only [List.map_toArray,List.map_cons,List.map_nil]);first | done | rfl | (simp only [List.length_drop,List.length_take];rfl)) ?_;(with_reducible refine (impl_SealMade.calls _ _ t510 t513 t514 _ _ t515 t519 _ ?side1 ?side2 ?side3 ?side4 A18.out).mono ?_);(case side1=>refine (Kd.R_reads' (e:=25) (base:=w.heap.size) (ok:=fun k_=>((((True∧some k_ ≠ (.slice Ao52 t501.length co52:Value).ownBlock)∧some k_ ≠ (.slice Ao53 t506.length co53:Value).ownBlock)∧some k_ ≠ (.slice Ao61 t515.length co61:Value).ownBlock)∧k_ ≠ gb518)) (n:=t510.length) (c:=co62) ?_).2.2;exact (by (with_reducible repeat (first | apply Kd.R_alloc | apply Kd.R_drewN | apply Kd.R_drew));exact (Kd.R_mono (Kd.R_far (p:=⟨gb518,2,none⟩) (Kd.R_far (p:=⟨gb518,1,none⟩) (Kd.R_far (p:=⟨gb518,0,none⟩) (Kd.R_mono HO512.out (fun k_ hk=>(⟨hk,hk.2⟩:_∧k_ ≠ gb518))) (fun _ hk=>hk.2) (.int .i64 t513)) (fun _ hk=>hk.2) (.int .i64 t514)) (fun _ hk=>hk.2) (.slice Ao61 t515.length co61)) (fun _ h_=>h_.1))));(case side2=>exact (Kd.R_reads' HO512.out).2.1);(case side3=>refine (Kd.R_reads' (e:=25) (base:=w.heap.size) (ok:=fun k_=>((((True∧some k_ ≠ (.slice Ao52 t501.length co52:Value).ownBlock)∧some k_ ≠ (.slice Ao53 t506.length co53:Value).ownBlock)∧some k_ ≠ (.slice Ao62 t510.length co62:Value).ownBlock)∧k_ ≠ gb518)) (n:=t515.length) (c:=co61) ?_).2.2;exact (by (with_reducible repeat (first | apply Kd.R_alloc | apply Kd.R_drewN | apply Kd.R_drew));exact (Kd.R_mono (Kd.R_far (p:=⟨gb518,2,none⟩) (Kd.R_far (p:=⟨gb518,1,none⟩) (Kd.R_far (p:=⟨gb518,0,none⟩) (Kd.R_mono HO517.out (fun k_ hk=>(⟨hk,hk.2⟩:_∧k_ ≠ gb518))) (fun _ hk=>hk.2) (.int .i64 t513)) (fun _ hk=>hk.2) (.int .i64 t514)) (fun _ hk=>hk.2) (.slice Ao61 t515.length co61)) (fun _ h_=>h_.1))));(case side4=>exact (Kd.R_reads' HO517.out).2.1);rintro e w63 ⟨rfl,hb⟩;refine ⟨_,rfl,?_⟩;have n0_:=Aside0.mk (Kd.R_below (by (with_reducible repeat (first | apply Kd.R_alloc | apply Kd.R_drewN | apply Kd.R_drew));exact (Kd.R_mono (Kd.R_far (p:=⟨gb518,2,none⟩) (Kd.R_far (p:=⟨gb518,1,none⟩) (Kd.R_far (p:=⟨gb518,0,none⟩) (Kd.R_mono HO503.out (fun k_ hk=>(⟨hk,hk.2⟩:_∧k_ ≠ gb518))) (fun _ hk=>hk.2) (.int .i64 t513)) (fun _ hk=>hk.2) (.int .i64 t514)) (fun _ hk=>hk.2) (.slice Ao61 t515.length co61)) (fun _ h_=>h_.1))) hb);have n1_:=Aside0.mk (Kd.R_below (by (with_reducible repeat (first | apply Kd.R_alloc | apply Kd.R_drewN | apply Kd.R_drew));exact (Kd.R_mono (Kd.R_far (p:=⟨gb518,2,none⟩) (Kd.R_far (p:=⟨gb518,1,none⟩) (Kd.R_far (p:=⟨gb518,0,none⟩) (Kd.R_mono HO508.out (fun k_ hk=>(⟨hk,hk.2⟩:_∧k_ ≠ gb518))) (fun _ hk=>hk.2) (.int .i64 t513)) (fun _ hk=>hk.2) (.int .i64 t514)) (fun _ hk=>hk.2) (.slice Ao61 t515.length co61)) (fun _ h_=>h_.1))) hb);have n2_:=Aside0.mk (Kd.R_below (by (with_reducible repeat (first | apply Kd.R_alloc | apply Kd.R_drewN | apply Kd.R_drew));exact (Kd.R_mono (Kd.R_far (p:=⟨gb518,2,none⟩) (Kd.R_far (p:=⟨gb518,1,none⟩) (Kd.R_far (p:=⟨gb518,0,none⟩) (Kd.R_mono HO512.out (fun k_ hk=>(⟨hk,hk.2⟩:_∧k_ ≠ gb518))) (fun _ hk=>hk.2) (.int .i64 t513)) (fun _ hk=>hk.2) (.int .i64 t514)) (fun _ hk=>hk.2) (.slice Ao61 t515.length co61)) (fun _ h_=>h_.1))) hb);have n3_:=Aside0.mk (Kd.R_below (by (with_reducible repeat (first | apply Kd.R_alloc | apply Kd.R_drewN | apply Kd.R_drew));exact (Kd.R_mono (Kd.R_far (p:=⟨gb518,2,none⟩) (Kd.R_far (p:=⟨gb518,1,none⟩) (Kd.R_far (p:=⟨gb518,0,none⟩) (Kd.R_mono HO517.out (fun k_ hk=>(⟨hk,hk.2⟩:_∧k_ ≠ gb518))) (fun _ hk=>hk.2) (.int .i64 t513)) (fun _ hk=>hk.2) (.int .i64 t514)) (fun _ hk=>hk.2) (.slice Ao61 t515.length co61)) (fun _ h_=>h_.1))) hb);have n4_:=Aside0.mk (blk_below (g:=gb498) (o:=.cells #[.int .i64 a1_0,.int .i64 a1_1,.slice A1_2 l1_2.length c1_2] 33 (0,0)) (by (with_reducible repeat (first | refine blk_drewN ?_ _ | refine blk_drew ?_ | refine blk_alloc ?_ _));refine blk_far ?_ NB498_518.out _;(with_reducible repeat (first | refine blk_drewN ?_ _ | refine blk_drew ?_ | refine blk_alloc ?_ _));refine blk_far ?_ NB498_518.out _;(with_reducible repeat (first | refine blk_drewN ?_ _ | refine blk_drew ?_ | refine blk_alloc ?_ _));refine blk_far ?_ NB498_518.out _;(with_reducible repeat (first | refine blk_drewN ?_ _ | refine blk_drew ?_ | refine blk_alloc ?_ _));exact BK498.out) hb);have n5_:=Aside0.mk (blk_below (g:=gb518) (o:=.cells #[.int .i64 t513,.int .i64 t514,.slice Ao61 t515.length co61] 25 (0,0)) (by (with_reducible repeat (first | refine blk_drewN ?_ _ | refine blk_drew ?_ | refine blk_alloc ?_ _));refine blk_put (cs:=#[.int .i64 t513,.int .i64 t514,.slice none 0 0]) ?_ 2 _ rfl;(with_reducible repeat (first | refine blk_drewN ?_ _ | refine blk_drew ?_ | refine blk_alloc ?_ _));refine blk_put (cs:=#[.int .i64 t513,.int .i64 0,.slice none 0 0]) ?_ 1 _ rfl;(with_reducible repeat (first | refine blk_drewN ?_ _ | refine blk_drew ?_ | refine blk_alloc ?_ _));refine blk_put (cs:=#[.int .i64 0,.int .i64 0,.slice none 0 0]) ?_ 0 _ rfl;(with_reducible repeat (first | refine blk_drewN ?_ _ | refine blk_drew ?_ | refine blk_alloc ?_ _));exact BK518.out) hb);have n6_:=Aside0.mk (below_step (by repeat (first | (with_reducible first | exact HB.out | apply below_alloc | apply pw_below_drewN | apply below_drew1 | refine below_set ?_ GE498.out | refine below_set ?_ GE518.out) | exact HB.out)) hb);clear HO503;clear HO508;clear HO512;clear HO517;clear BK498;clear BK518;clear HB;have HO503:=n0_;have HO508:=n1_;have HO512:=n2_;have HO517:=n3_;have BK498:=n4_;have BK518:=n5_;have HB:=n6_;clear n0_ n1_ n2_ n3_ n4_ n5_ n6_;(try clear hb);(try clear hb2);(try clear hk);(try clear hi)) | ((with_reducible refine gate_callee (f:=27) rfl ?_);refine goesL_ (some 37) rfl rfl Tryd.func27 (by kernel_rfl) rfl #[.slice A0 l0.length c0] rfl (by (try simp only [List.map_toArray,List.map_cons,List.map_nil]);first | done | rfl | (simp only [List.length_drop,List.length_take];rfl)) ?_;(with_reducible refine (laws_toSealS.calls k _ _ l0 t520 _ ?side1 ?side2 A39.out).mono ?_);(case side1=>repeat (first | exact (Kd.C_below HR0.out HB.out) | (with_reducible refine Kd.C_alloc ?_ _) | (with_reducible refine Kd.C_drewN ?_ _) | (with_reducible refine Kd.C_drew ?_)));(case side2=>exact HC0.out);rintro e w64 ⟨v521,rfl,ho0,hb⟩;refine ⟨_,rfl,?_⟩;have n0_:=Aside0.mk (Kd.R_elder' (by (with_reducible repeat (first | apply Kd.R_alloc | apply Kd.R_drewN | apply Kd.R_drew));exact HO503.out) (Kd.R_base ho0) hb);have n1_:=Aside0.mk (Kd.R_elder' (by (with_reducible repeat (first | apply Kd.R_alloc | apply Kd.R_drewN | apply Kd.R_drew));exact HO508.out) (Kd.R_base ho0) hb);have n2_:=Aside0.mk (Kd.R_elder' (by (with_reducible repeat (first | apply Kd.R_alloc | apply Kd.R_drewN | apply Kd.R_drew));exact HO512.out) (Kd.R_base ho0) hb);have n3_:=Aside0.mk (Kd.R_elder' (by (with_reducible repeat (first | apply Kd.R_alloc | apply Kd.R_drewN | apply Kd.R_drew));exact HO517.out) (Kd.R_base ho0) hb);have n4_:=Aside0.mk (Kd.R_lower (Kd.R_newB (Kd.R_new' (Kd.R_new' (Kd.R_new' (Kd.R_new' ho0 (Kd.R_lt (by (with_reducible repeat (first | apply Kd.R_alloc | apply Kd.R_drewN | apply Kd.R_drew));exact HO503.out))) (Kd.R_lt (by (with_reducible repeat (first | apply Kd.R_alloc | apply Kd.R_drewN | apply Kd.R_drew));exact HO508.out))) (Kd.R_lt (by (with_reducible repeat (first | apply Kd.R_alloc | apply Kd.R_drewN | apply Kd.R_drew));exact HO512.out))) (Kd.R_lt (by (with_reducible repeat (first | apply Kd.R_alloc | apply Kd.R_drewN | apply Kd.R_drew));exact HO517.out))) (g:=gb518) (o:=.cells #[.int .i64 t513,.int .i64 t514,.slice Ao61 t515.length co61] 25 (0,0)) (by (with_reducible repeat (first | refine blk_drewN ?_ _ | refine blk_drew ?_ | refine blk_alloc ?_ _));exact BK518.out)) (below_size (by repeat (first | (with_reducible first | exact HB.out | apply below_alloc | apply pw_below_drewN | apply below_drew1 | refine below_set ?_ GE498.out | refine below_set ?_ GE518.out) | exact HB.out))));have n5_:=Aside0.mk (blk_below (g:=gb498) (o:=.cells #[.int .i64 a1_0,.int .i64 a1_1,.slice A1_2 l1_2.length c1_2] 33 (0,0)) (by (with_reducible repeat (first | refine blk_drewN ?_ _ | refine blk_drew ?_ | refine blk_alloc ?_ _));exact BK498.out) hb);have n6_:=Aside0.mk (blk_below (g:=gb518) (o:=.cells #[.int .i64 t513,.int .i64 t514,.slice Ao61 t515.length co61] 25 (0,0)) (by (with_reducible repeat (first | refine blk_drewN ?_ _ | refine blk_drew ?_ | refine blk_alloc ?_ _));exact BK518.out) hb);have n7_:=Aside0.mk (below_step (by repeat (first | (with_reducible first | exact HB.out | apply below_alloc | apply pw_below_drewN | apply below_drew1 | refine below_set ?_ GE498.out | refine below_set ?_ GE518.out) | exact HB.out)) hb);clear HO503;clear HO508;clear HO512;clear HO517;clear BK498;clear BK518;clear HB;have HO503:=n0_;have HO508:=n1_;have HO512:=n2_;have HO517:=n3_;have HO522:=n4_;have BK498:=n5_;have BK518:=n6_;have HB:=n7_;clear n0_ n1_ n2_ n3_ n4_ n5_ n6_ n7_;(try clear hb);(try clear hb2);(try clear hk);(try clear hi);(try clear ho0);obtain ⟨Ao65,co65,eo65⟩:=Kd.R_slice HO522.out;subst eo65) | ((with_reducible refine gate_callee (f:=29) rfl ?_);refine goesL_ (some 38) rfl rfl Tryd.func29 (by kernel_rfl) rfl #[.slice Ao62 t510.length co62,.slice Ao65 t520.length co65] rfl (by (try simp only [List.map_toArray,List.map_cons,List.map_nil]);first | done | rfl | (simp only [List.length_drop,List.length_take];rfl)) ?_;(with_reducible refine (laws_eqSealS.calls k _ _ t510 _ _ t520 true _ ?side1 ?side2 ?side3 ?side4 A40.out).mono ?_);(case side1=>repeat (first | exact (Kd.R_reads' HO512.out).2.2 | (with_reducible refine Kd.C_alloc ?_ _) | (with_reducible refine Kd.C_drewN ?_ _) | (with_reducible refine Kd.C_drew ?_)));(case side2=>exact (Kd.R_reads' HO512.out).2.1);(case side3=>repeat (first | exact (Kd.R_reads' HO522.out).2.2 | (with_reducible refine Kd.C_alloc ?_ _) | (with_reducible refine Kd.C_drewN ?_ _) | (with_reducible refine Kd.C_drew ?_)));(case side4=>exact (Kd.R_reads' HO522.out).2.1);rintro e w66 ⟨rfl,hb⟩;refine ⟨_,rfl,?_⟩;have n0_:=Aside0.mk (Kd.R_below (by (with_reducible repeat (first | apply Kd.R_alloc | apply Kd.R_drewN | apply Kd.R_drew));exact HO503.out) hb);have n1_:=Aside0.mk (Kd.R_below (by (with_reducible repeat (first | apply Kd.R_alloc | apply Kd.R_drewN | apply Kd.R_drew));exact HO508.out) hb);have n2_:=Aside0.mk (Kd.R_below (by (with_reducible repeat (first | apply Kd.R_alloc | apply Kd.R_drewN | apply Kd.R_drew));exact HO512.out) hb);have n3_:=Aside0.mk (Kd.R_below (by (with_reducible repeat (first | apply Kd.R_alloc | apply Kd.R_drewN | apply Kd.R_drew));exact HO517.out) hb);have n4_:=Aside0.mk (Kd.R_below (by (with_reducible repeat (first | apply Kd.R_alloc | apply Kd.R_drewN | apply Kd.R_drew));exact HO522.out) hb);have n5_:=Aside0.mk (blk_below (g:=gb498) (o:=.cells #[.int .i64 a1_0,.int .i64 a1_1,.slice A1_2 l1_2.length c1_2] 33 (0,0)) (by (with_reducible repeat (first | refine blk_drewN ?_ _ | refine blk_drew ?_ | refine blk_alloc ?_ _));exact BK498.out) hb);have n6_:=Aside0.mk (blk_below (g:=gb518) (o:=.cells #[.int .i64 t513,.int .i64 t514,.slice Ao61 t515.length co61] 25 (0,0)) (by (with_reducible repeat (first | refine blk_drewN ?_ _ | refine blk_drew ?_ | refine blk_alloc ?_ _));exact BK518.out) hb);have n7_:=Aside0.mk (below_step (by repeat (first | (with_reducible first | exact HB.out | apply below_alloc | apply pw_below_drewN | apply below_drew1 | refine below_set ?_ GE498.out | refine below_set ?_ GE518.out) | exact HB.out)) hb);clear HO503;clear HO508;clear HO512;clear HO517;clear HO522;clear BK498;clear BK518;clear HB;have HO503:=n0_;have HO508:=n1_;have HO512:=n2_;have HO517:=n3_;have HO522:=n4_;have BK498:=n5_;have BK518:=n6_;have HB:=n7_;clear n0_ n1_ n2_ n3_ n4_ n5_ n6_ n7_;(try clear hb);(try clear hb2);(try clear hk);(try clear hi)))
      have n0_:=Aside0.mk (Kd.R_drew HO503.out)
      have n1_:=Aside0.mk (Kd.R_drew HO508.out)
      have n2_:=Aside0.mk (Kd.R_drew HO512.out)
      have n3_:=Aside0.mk (Kd.R_drew HO517.out)
      have n4_:=Aside0.mk (Kd.R_drew HO522.out)
      have n5_:=Aside0.mk (blk_drew BK498.out)
      have n6_:=Aside0.mk (blk_drew BK518.out)
      have n7_:=Aside0.mk (below_drew1 HB.out)
      clear HO503
      clear HO508
      clear HO512
      clear HO517
      clear HO522
      clear BK498
      clear BK518
      clear HB
      have HO503:=n0_
      have HO508:=n1_
      have HO512:=n2_
      have HO517:=n3_
      have HO522:=n4_
      have BK498:=n5_
      have BK518:=n6_
      have HB:=n7_
      clear n0_ n1_ n2_ n3_ n4_ n5_ n6_ n7_
      refine start_ (n:=5) (S:=fun w'=>w'.cell? ⟨gb518,0,none⟩ = some (.int .i64 t513)∧w'.cell? ⟨gb518,1,none⟩ = some (.int .i64 t514)∧w'.cell? ⟨gb518,2,none⟩ = some (.slice Ao61 t515.length co61)∧w'.cell? ⟨gb498,0,none⟩ = some (.int .i64 a1_0)∧w'.cell? ⟨gb498,1,none⟩ = some (.int .i64 a1_1)∧w'.cell? ⟨gb498,2,none⟩ = some (.slice A1_2 l1_2.length c1_2)) (ds:=[]) #[false,false,false,false,false] (by kernel_rfl) rfl rfl ⟨(blk_cell BK518.out 0).trans rfl,(blk_cell BK518.out 1).trans rfl,(blk_cell BK518.out 2).trans rfl,(blk_cell BK498.out 0).trans rfl,(blk_cell BK498.out 1).trans rfl,(blk_cell BK498.out 2).trans rfl⟩ (fun hHeld=>?_)
      generalize w66.drew = w67 at HO503 HO508 HO512 HO517 HO522 BK498 BK518 HB hHeld ⊢
      refine take_ (i:=0) (N:=some 40) (v:=?_) (a':=?_) #[true,false,false,false,false] rfl rfl (by kernel_rfl) (fun _ _ _ h=>h) (Or.inl ⟨by rfl,?_⟩) hHeld ?_ ?_
      rotate_left;·rintro w' ⟨s0,s1,s2,s3,s4,s5⟩;go_simp;with_reducible rfl
      rotate_left;·simp only [Act.put,List.setIfInBounds_toArray,List.set_cons_zero,List.set_cons_succ,i64_w,i32_w];rfl
      refine take_ (i:=1) (N:=some 41) (v:=?_) (a':=?_) #[true,true,false,false,false] rfl rfl (by kernel_rfl) (fun _ _ _ h=>h) (Or.inl ⟨by rfl,?_⟩) hHeld ?_ ?_
      rotate_left;·rintro w' ⟨s0,s1,s2,s3,s4,s5⟩;go_simp;with_reducible rfl
      rotate_left;·simp only [Act.put,List.setIfInBounds_toArray,List.set_cons_zero,List.set_cons_succ,i64_w,i32_w];rfl
      refine one_ (i:=2) (N:=some 42) #[true,true,true,false,false] rfl rfl (by kernel_rfl) (by decide) (fun K hK=>?_)
      refine goes_ Tryd.func21 (by kernel_rfl) rfl #[.agg #[.int .i64 a1_0,.int .i64 a1_1,.slice A1_2 l1_2.length c1_2]] (by rfl) rfl rfl (by (try simp only [List.map_toArray,List.map_cons,List.map_nil]);first | done | rfl | (simp only [List.length_drop,List.length_take];rfl)) ?_
      with_reducible refine (laws_toSeal.calls k a1_0 a1_1 _ _ l1_2 t524 t525 t526 _ ?side1 ?side2 A42.out).mono ?_
      (case side1=>repeat (first | exact (Kd.C_below HR1_2.out HB.out) | (with_reducible refine Kd.C_alloc ?_ _) | (with_reducible refine Kd.C_drewN ?_ _) | (with_reducible refine Kd.C_drew ?_)))
      (case side2=>exact HC1_2.out)
      rintro e w68 ⟨v527,rfl,ho0,hb⟩
      refine ⟨_,rfl,?_⟩
      have n0_:=Aside0.mk (Kd.R_elder' (by (with_reducible repeat (first | apply Kd.R_alloc | apply Kd.R_drewN | apply Kd.R_drew));exact HO503.out) (Kd.R_base ho0) hb)
      have n1_:=Aside0.mk (Kd.R_elder' (by (with_reducible repeat (first | apply Kd.R_alloc | apply Kd.R_drewN | apply Kd.R_drew));exact HO508.out) (Kd.R_base ho0) hb)
      have n2_:=Aside0.mk (Kd.R_elder' (by (with_reducible repeat (first | apply Kd.R_alloc | apply Kd.R_drewN | apply Kd.R_drew));exact HO512.out) (Kd.R_base ho0) hb)
      have n3_:=Aside0.mk (Kd.R_elder' (by (with_reducible repeat (first | apply Kd.R_alloc | apply Kd.R_drewN | apply Kd.R_drew));exact HO517.out) (Kd.R_base ho0) hb)
      have n4_:=Aside0.mk (Kd.R_elder' (by (with_reducible repeat (first | apply Kd.R_alloc | apply Kd.R_drewN | apply Kd.R_drew));exact HO522.out) (Kd.R_base ho0) hb)
      have n5_:=Aside0.mk (Kd.R_lower (Kd.R_newB (Kd.R_new' (Kd.R_new' (Kd.R_new' (Kd.R_new' (Kd.R_new' ho0 (Kd.R_lt (by (with_reducible repeat (first | apply Kd.R_alloc | apply Kd.R_drewN | apply Kd.R_drew));exact HO503.out))) (Kd.R_lt (by (with_reducible repeat (first | apply Kd.R_alloc | apply Kd.R_drewN | apply Kd.R_drew));exact HO508.out))) (Kd.R_lt (by (with_reducible repeat (first | apply Kd.R_alloc | apply Kd.R_drewN | apply Kd.R_drew));exact HO512.out))) (Kd.R_lt (by (with_reducible repeat (first | apply Kd.R_alloc | apply Kd.R_drewN | apply Kd.R_drew));exact HO517.out))) (Kd.R_lt (by (with_reducible repeat (first | apply Kd.R_alloc | apply Kd.R_drewN | apply Kd.R_drew));exact HO522.out))) (g:=gb518) (o:=.cells #[.int .i64 t513,.int .i64 t514,.slice Ao61 t515.length co61] 25 (0,0)) (by (with_reducible repeat (first | refine blk_drewN ?_ _ | refine blk_drew ?_ | refine blk_alloc ?_ _));exact BK518.out)) (below_size (by repeat (first | (with_reducible first | exact HB.out | apply below_alloc | apply pw_below_drewN | apply below_drew1 | refine below_set ?_ GE498.out | refine below_set ?_ GE518.out) | exact HB.out))))
      have n6_:=Aside0.mk (blk_below (g:=gb498) (o:=.cells #[.int .i64 a1_0,.int .i64 a1_1,.slice A1_2 l1_2.length c1_2] 33 (0,0)) (by (with_reducible repeat (first | refine blk_drewN ?_ _ | refine blk_drew ?_ | refine blk_alloc ?_ _));exact BK498.out) hb)
      have n7_:=Aside0.mk (blk_below (g:=gb518) (o:=.cells #[.int .i64 t513,.int .i64 t514,.slice Ao61 t515.length co61] 25 (0,0)) (by (with_reducible repeat (first | refine blk_drewN ?_ _ | refine blk_drew ?_ | refine blk_alloc ?_ _));exact BK518.out) hb)
      have n8_:=Aside0.mk (below_step (by repeat (first | (with_reducible first | exact HB.out | apply below_alloc | apply pw_below_drewN | apply below_drew1 | refine below_set ?_ GE498.out | refine below_set ?_ GE518.out) | exact HB.out)) hb)
      clear HO503
      clear HO508
      clear HO512
      clear HO517
      clear HO522
      clear BK498
      clear BK518
      clear HB
      have HO503:=n0_
      have HO508:=n1_
      have HO512:=n2_
      have HO517:=n3_
      have HO522:=n4_
      have HO528:=n5_
      have BK498:=n6_
      have BK518:=n7_
      have HB:=n8_
      clear n0_ n1_ n2_ n3_ n4_ n5_ n6_ n7_ n8_
      (try clear hb)
      (try clear hb2)
      (try clear hk)
      (try clear hi)
      (try clear ho0)
      obtain ⟨Ao69,co69,eo69⟩:=Kd.R_slice HO528.out
      (first | subst eo69 | (injection eo69 with f1_ f2_ f3_;have f4_:=f1_.symm;have f5_:=f3_.symm;clear f1_ f2_ f3_;subst f4_;subst f5_))
      refine hK.out _ _ ⟨(blk_cell BK518.out 0).trans rfl,(blk_cell BK518.out 1).trans rfl,(blk_cell BK518.out 2).trans rfl,(blk_cell BK498.out 0).trans rfl,(blk_cell BK498.out 1).trans rfl,(blk_cell BK498.out 2).trans rfl⟩ (fun hHeld=>?_)
      clear hK K
      refine norm_ (a':=?_) ?_ ?_
      rotate_left
      ·show Act.put _ (some 42) _ = _
       simp only [Act.put,List.setIfInBounds_toArray,List.set_cons_zero,List.set_cons_succ,i64_w,i32_w]
       rfl
      refine one_ (i:=3) (N:=some 43) #[true,true,true,true,false] rfl rfl (by kernel_rfl) (by decide) (fun K hK=>?_)
      refine goes_ Tryd.func22 (by kernel_rfl) rfl #[.agg #[.int .i64 t513,.int .i64 t514,.slice Ao61 t515.length co61],.agg #[.int .i64 t524,.int .i64 t525,.slice Ao69 t526.length co69]] (by rfl) rfl rfl (by (try simp only [List.map_toArray,List.map_cons,List.map_nil]);first | done | rfl | (simp only [List.length_drop,List.length_take];rfl)) ?_
      with_reducible refine (laws_eqSeal.calls k t513 t514 _ _ t515 t524 t525 _ _ t526 true _ ?side1 ?side2 ?side3 ?side4 A43.out).mono ?_
      (case side1=>repeat (first | exact (Kd.R_reads' HO517.out).2.2 | (with_reducible refine Kd.C_alloc ?_ _) | (with_reducible refine Kd.C_drewN ?_ _) | (with_reducible refine Kd.C_drew ?_)))
      (case side2=>exact (Kd.R_reads' HO517.out).2.1)
      (case side3=>repeat (first | exact (Kd.R_reads' HO528.out).2.2 | (with_reducible refine Kd.C_alloc ?_ _) | (with_reducible refine Kd.C_drewN ?_ _) | (with_reducible refine Kd.C_drew ?_)))
      (case side4=>exact (Kd.R_reads' HO528.out).2.1)
      rintro e w70 ⟨rfl,hb⟩
      refine ⟨_,rfl,?_⟩
      have n0_:=Aside0.mk (Kd.R_below (by (with_reducible repeat (first | apply Kd.R_alloc | apply Kd.R_drewN | apply Kd.R_drew));exact HO503.out) hb)
      have n1_:=Aside0.mk (Kd.R_below (by (with_reducible repeat (first | apply Kd.R_alloc | apply Kd.R_drewN | apply Kd.R_drew));exact HO508.out) hb)
      have n2_:=Aside0.mk (Kd.R_below (by (with_reducible repeat (first | apply Kd.R_alloc | apply Kd.R_drewN | apply Kd.R_drew));exact HO512.out) hb)
      have n3_:=Aside0.mk (Kd.R_below (by (with_reducible repeat (first | apply Kd.R_alloc | apply Kd.R_drewN | apply Kd.R_drew));exact HO517.out) hb)
      have n4_:=Aside0.mk (Kd.R_below (by (with_reducible repeat (first | apply Kd.R_alloc | apply Kd.R_drewN | apply Kd.R_drew));exact HO522.out) hb)
      have n5_:=Aside0.mk (Kd.R_below (by (with_reducible repeat (first | apply Kd.R_alloc | apply Kd.R_drewN | apply Kd.R_drew));exact HO528.out) hb)
      have n6_:=Aside0.mk (blk_below (g:=gb498) (o:=.cells #[.int .i64 a1_0,.int .i64 a1_1,.slice A1_2 l1_2.length c1_2] 33 (0,0)) (by (with_reducible repeat (first | refine blk_drewN ?_ _ | refine blk_drew ?_ | refine blk_alloc ?_ _));exact BK498.out) hb)
      have n7_:=Aside0.mk (blk_below (g:=gb518) (o:=.cells #[.int .i64 t513,.int .i64 t514,.slice Ao61 t515.length co61] 25 (0,0)) (by (with_reducible repeat (first | refine blk_drewN ?_ _ | refine blk_drew ?_ | refine blk_alloc ?_ _));exact BK518.out) hb)
      have n8_:=Aside0.mk (below_step (by repeat (first | (with_reducible first | exact HB.out | apply below_alloc | apply pw_below_drewN | apply below_drew1 | refine below_set ?_ GE498.out | refine below_set ?_ GE518.out) | exact HB.out)) hb)
      clear HO503
      clear HO508
      clear HO512
      clear HO517
      clear HO522
      clear HO528
      clear BK498
      clear BK518
      clear HB
      have HO503:=n0_
      have HO508:=n1_
      have HO512:=n2_
      have HO517:=n3_
      have HO522:=n4_
      have HO528:=n5_
      have BK498:=n6_
      have BK518:=n7_
      have HB:=n8_
      clear n0_ n1_ n2_ n3_ n4_ n5_ n6_ n7_ n8_
      (try clear hb)
      (try clear hb2)
      (try clear hk)
      (try clear hi)
      refine hK.out _ _ ⟨(blk_cell BK518.out 0).trans rfl,(blk_cell BK518.out 1).trans rfl,(blk_cell BK518.out 2).trans rfl,(blk_cell BK498.out 0).trans rfl,(blk_cell BK498.out 1).trans rfl,(blk_cell BK498.out 2).trans rfl⟩ (fun hHeld=>?_)
      clear hK K
      refine norm_ (a':=?_) ?_ ?_
      rotate_left
      ·show Act.put _ (some 43) _ = _
       simp only [Act.put,List.setIfInBounds_toArray,List.set_cons_zero,List.set_cons_succ,i64_w,i32_w]
       rfl
      refine pure_ (i:=4) (N:=some 44) (v:=?_) (a':=?_) #[true,true,true,true,true] rfl rfl (by kernel_rfl) (fun _ _ _ h=>h) (Or.inl ⟨by rfl,?_⟩) ?_ ?_
      rotate_left;·intro w';go_simp;with_reducible rfl
      rotate_left;·simp only [Act.put,List.setIfInBounds_toArray,List.set_cons_zero,List.set_cons_succ,i64_w,i32_w];rfl
      refine done_ (by kernel_rfl) ?_
      try go_wp2
      go_ret
      exact ⟨by first | rfl | (simp [errW_none,errW_some] <;> rfl) | (simp [*,errW_none,errW_some] <;> rfl),by repeat (first | (with_reducible first | exact HB.out | apply below_alloc | apply pw_below_drewN | apply below_drew1 | refine below_set ?_ GE498.out | refine below_set ?_ GE518.out) | exact HB.out)⟩
     ·replace c44:=Bool.eq_false_iff.mpr c44
      subst c44
      have H1:(some false) = some r:=by rw [if_neg (show ¬ (false = true) by decide)] at H;exact H
      clear H
      have H:=H1
      clear H1
      obtain rfl:=Option.some.inj H
      go_enter Tryd.func8,Tryd.ntmps8
      try go_wp2_with (first | ((with_reducible refine gate_dst (N:=3) rfl ?_);refine box_event ?hg (N:=3) ?hd (cs:=#[.int .i64 a1_0,.int .i64 a1_1,.slice A1_2 l1_2.length c1_2]) (t:=33) ?hr ?_;(case hd=>rfl);(case hg=>rfl);(case hr=>first | (go_simp;done) | (go_simp;rfl));intro gb498 hg w71 hbox hb;have n0_:=Aside0.mk (below_step (by repeat (first | (with_reducible first | exact HB.out | apply below_alloc | apply pw_below_drewN | apply below_drew1) | exact HB.out)) hb);have n1_:=Aside0.mk (hbox);have n2_:=Aside0.mk ((by rw [hg];exact (below_size (by repeat (first | (with_reducible first | exact HB.out | apply below_alloc | apply pw_below_drewN | apply below_drew1) | exact HB.out))):w.heap.size ≤ gb498));have n3_:=Aside0.mk ((by rw [hg];exact (below_size (by repeat (first | (with_reducible first | exact HB.out | apply below_alloc | apply pw_below_drewN | apply below_drew1) | exact HB.out))):w.heap.size ≤ gb498));clear HB;have HB:=n0_;have BK498:=n1_;have GW498:=n2_;have GE498:=n3_;clear n0_ n1_ n2_ n3_;clear hb hbox hg) | ((with_reducible refine gate_callee (f:=25) rfl ?_);refine goesL_ (some 12) rfl rfl Tryd.func25 (by kernel_rfl) rfl #[.slice A0 l0.length c0,.int .i64 1048576] rfl (by (try simp only [List.map_toArray,List.map_cons,List.map_nil]);first | done | rfl | (simp only [List.length_drop,List.length_take];rfl)) ?_;(with_reducible refine (laws_szSealS.calls k _ _ l0 1048576 t499 _ ?side1 ?side2 A3.out).mono ?_);(case side1=>repeat (first | exact (Kd.C_below HR0.out HB.out) | (with_reducible refine Kd.C_alloc ?_ _) | (with_reducible refine Kd.C_drewN ?_ _) | (with_reducible refine Kd.C_drew ?_)));(case side2=>exact HC0.out);rintro e w72 ⟨rfl,hb⟩;refine ⟨_,rfl,?_⟩;have n0_:=Aside0.mk (blk_below (g:=gb498) (o:=.cells #[.int .i64 a1_0,.int .i64 a1_1,.slice A1_2 l1_2.length c1_2] 33 (0,0)) (by (with_reducible repeat (first | refine blk_drewN ?_ _ | refine blk_drew ?_ | refine blk_alloc ?_ _));exact BK498.out) hb);have n1_:=Aside0.mk (below_step (by repeat (first | (with_reducible first | exact HB.out | apply below_alloc | apply pw_below_drewN | apply below_drew1 | refine below_set ?_ GE498.out) | exact HB.out)) hb);clear BK498;clear HB;have BK498:=n0_;have HB:=n1_;clear n0_ n1_;(try clear hb);(try clear hb2);(try clear hk);(try clear hi);have hcz73_0:w72.cell? ⟨gb498,0,none⟩ = some (.int .i64 a1_0):=(blk_cell BK498.out 0).trans rfl;have hcz73_1:w72.cell? ⟨gb498,1,none⟩ = some (.int .i64 a1_1):=(blk_cell BK498.out 1).trans rfl;have hcz73_2:w72.cell? ⟨gb498,2,none⟩ = some (.slice A1_2 l1_2.length c1_2):=(blk_cell BK498.out 2).trans rfl;have hfz73_0:=blk_frozen BK498.out 0;have hfz73_1:=blk_frozen BK498.out 1;have hfz73_2:=blk_frozen BK498.out 2) | ((with_reducible refine gate_callee (f:=20) rfl ?_);refine goesL_ (some 17) rfl rfl Tryd.func20 (by kernel_rfl) rfl #[.agg #[.int .i64 a1_0,.int .i64 a1_1,.slice A1_2 l1_2.length c1_2],.int .i64 t499] rfl (by (try simp only [List.map_toArray,List.map_cons,List.map_nil]);first | done | rfl | (simp only [List.length_drop,List.length_take];rfl)) ?_;(with_reducible refine (laws_szSeal.calls k a1_0 a1_1 _ _ l1_2 t499 t500 _ ?side1 ?side2 A7.out).mono ?_);(case side1=>repeat (first | exact (Kd.C_below HR1_2.out HB.out) | (with_reducible refine Kd.C_alloc ?_ _) | (with_reducible refine Kd.C_drewN ?_ _) | (with_reducible refine Kd.C_drew ?_)));(case side2=>exact HC1_2.out);rintro e w74 ⟨rfl,hb⟩;refine ⟨_,rfl,?_⟩;have n0_:=Aside0.mk (blk_below (g:=gb498) (o:=.cells #[.int .i64 a1_0,.int .i64 a1_1,.slice A1_2 l1_2.length c1_2] 33 (0,0)) (by (with_reducible repeat (first | refine blk_drewN ?_ _ | refine blk_drew ?_ | refine blk_alloc ?_ _));exact BK498.out) hb);have n1_:=Aside0.mk (below_step (by repeat (first | (with_reducible first | exact HB.out | apply below_alloc | apply pw_below_drewN | apply below_drew1 | refine below_set ?_ GE498.out) | exact HB.out)) hb);clear BK498;clear HB;have BK498:=n0_;have HB:=n1_;clear n0_ n1_;(try clear hb);(try clear hb2);(try clear hk);(try clear hi)))
      have n0_:=Aside0.mk (blk_drew BK498.out)
      have n1_:=Aside0.mk (below_drew1 HB.out)
      clear BK498
      clear HB
      have BK498:=n0_
      have HB:=n1_
      clear n0_ n1_
      refine start_ (n:=6) (S:=fun w'=>w'.cell? ⟨gb498,0,none⟩ = some (.int .i64 a1_0)∧w'.cell? ⟨gb498,1,none⟩ = some (.int .i64 a1_1)∧w'.cell? ⟨gb498,2,none⟩ = some (.slice A1_2 l1_2.length c1_2)) (ds:=[]) #[false,false,false,false,false,false] (by kernel_rfl) rfl rfl ⟨(blk_cell BK498.out 0).trans rfl,(blk_cell BK498.out 1).trans rfl,(blk_cell BK498.out 2).trans rfl⟩ (fun hHeld=>?_)
      generalize w74.drew = w75 at BK498 HB hHeld ⊢
      refine pure_ (i:=0) (N:=some 20) (v:=?_) (a':=?_) #[true,false,false,false,false,false] rfl rfl (by kernel_rfl) (fun _ _ _ h=>h) (Or.inl ⟨by rfl,?_⟩) ?_ ?_
      rotate_left;·intro w';go_simp;with_reducible rfl
      rotate_left;·simp only [Act.put,List.setIfInBounds_toArray,List.set_cons_zero,List.set_cons_succ,i64_w,i32_w];rfl
      refine take_ (i:=2) (N:=some 22) (v:=?_) (a':=?_) #[true,false,true,false,false,false] rfl rfl (by kernel_rfl) (fun _ _ _ h=>h) (Or.inl ⟨by rfl,?_⟩) hHeld ?_ ?_
      rotate_left;·rintro w' ⟨s0,s1,s2⟩;go_simp;with_reducible rfl
      rotate_left;·simp only [Act.put,List.setIfInBounds_toArray,List.set_cons_zero,List.set_cons_succ,i64_w,i32_w];rfl
      refine one_ (i:=1) (N:=some 21) #[true,true,true,false,false,false] rfl rfl (by kernel_rfl) (by decide) (fun K hK=>?_)
      refine goes_ Tryd.func27 (by kernel_rfl) rfl #[.slice A0 l0.length c0] (by rfl) rfl rfl (by (try simp only [List.map_toArray,List.map_cons,List.map_nil]);first | done | rfl | (simp only [List.length_drop,List.length_take];rfl)) ?_
      with_reducible refine (laws_toSealS.calls k _ _ l0 t501 _ ?side1 ?side2 A13.out).mono ?_
      (case side1=>repeat (first | exact (Kd.C_below HR0.out HB.out) | (with_reducible refine Kd.C_alloc ?_ _) | (with_reducible refine Kd.C_drewN ?_ _) | (with_reducible refine Kd.C_drew ?_)))
      (case side2=>exact HC0.out)
      rintro e w76 ⟨v502,rfl,ho0,hb⟩
      refine ⟨_,rfl,?_⟩
      have n0_:=Aside0.mk (Kd.R_lower ho0 (below_size (by repeat (first | (with_reducible first | exact HB.out | apply below_alloc | apply pw_below_drewN | apply below_drew1 | refine below_set ?_ GE498.out) | exact HB.out))))
      have n1_:=Aside0.mk (blk_below (g:=gb498) (o:=.cells #[.int .i64 a1_0,.int .i64 a1_1,.slice A1_2 l1_2.length c1_2] 33 (0,0)) (by (with_reducible repeat (first | refine blk_drewN ?_ _ | refine blk_drew ?_ | refine blk_alloc ?_ _));exact BK498.out) hb)
      have n2_:=Aside0.mk (below_step (by repeat (first | (with_reducible first | exact HB.out | apply below_alloc | apply pw_below_drewN | apply below_drew1 | refine below_set ?_ GE498.out) | exact HB.out)) hb)
      clear BK498
      clear HB
      have HO503:=n0_
      have BK498:=n1_
      have HB:=n2_
      clear n0_ n1_ n2_
      (try clear hb)
      (try clear hb2)
      (try clear hk)
      (try clear hi)
      (try clear ho0)
      refine hK.out _ _ ⟨(blk_cell BK498.out 0).trans rfl,(blk_cell BK498.out 1).trans rfl,(blk_cell BK498.out 2).trans rfl⟩ (fun hHeld=>?_)
      clear hK K
      refine norm_ (a':=?_) ?_ ?_
      rotate_left
      ·show Act.put _ (some 21) _ = _
       simp only [Act.put,List.setIfInBounds_toArray,List.set_cons_zero,List.set_cons_succ,i64_w,i32_w]
       rfl
      refine one_ (i:=3) (N:=some 23) #[true,true,true,true,false,false] rfl rfl (by kernel_rfl) (by decide) (fun K hK=>?_)
      refine goes_ Tryd.func21 (by kernel_rfl) rfl #[.agg #[.int .i64 a1_0,.int .i64 a1_1,.slice A1_2 l1_2.length c1_2]] (by rfl) rfl rfl (by (try simp only [List.map_toArray,List.map_cons,List.map_nil]);first | done | rfl | (simp only [List.length_drop,List.length_take];rfl)) ?_
      with_reducible refine (laws_toSeal.calls k a1_0 a1_1 _ _ l1_2 t504 t505 t506 _ ?side1 ?side2 A14.out).mono ?_
      (case side1=>repeat (first | exact (Kd.C_below HR1_2.out HB.out) | (with_reducible refine Kd.C_alloc ?_ _) | (with_reducible refine Kd.C_drewN ?_ _) | (with_reducible refine Kd.C_drew ?_)))
      (case side2=>exact HC1_2.out)
      rintro e w77 ⟨v507,rfl,ho0,hb⟩
      refine ⟨_,rfl,?_⟩
      have n0_:=Aside0.mk (Kd.R_elder' (by (with_reducible repeat (first | apply Kd.R_alloc | apply Kd.R_drewN | apply Kd.R_drew));exact HO503.out) (Kd.R_base ho0) hb)
      have n1_:=Aside0.mk (Kd.R_lower (Kd.R_new' ho0 (Kd.R_lt (by (with_reducible repeat (first | apply Kd.R_alloc | apply Kd.R_drewN | apply Kd.R_drew));exact HO503.out))) (below_size (by repeat (first | (with_reducible first | exact HB.out | apply below_alloc | apply pw_below_drewN | apply below_drew1 | refine below_set ?_ GE498.out) | exact HB.out))))
      have n2_:=Aside0.mk (blk_below (g:=gb498) (o:=.cells #[.int .i64 a1_0,.int .i64 a1_1,.slice A1_2 l1_2.length c1_2] 33 (0,0)) (by (with_reducible repeat (first | refine blk_drewN ?_ _ | refine blk_drew ?_ | refine blk_alloc ?_ _));exact BK498.out) hb)
      have n3_:=Aside0.mk (below_step (by repeat (first | (with_reducible first | exact HB.out | apply below_alloc | apply pw_below_drewN | apply below_drew1 | refine below_set ?_ GE498.out) | exact HB.out)) hb)
      clear HO503
      clear BK498
      clear HB
      have HO503:=n0_
      have HO508:=n1_
      have BK498:=n2_
      have HB:=n3_
      clear n0_ n1_ n2_ n3_
      (try clear hb)
      (try clear hb2)
      (try clear hk)
      (try clear hi)
      (try clear ho0)
      obtain ⟨Ao78,co78,eo78⟩:=Kd.R_slice HO503.out
      (first | subst eo78 | (injection eo78 with f1_ f2_ f3_;have f4_:=f1_.symm;have f5_:=f3_.symm;clear f1_ f2_ f3_;subst f4_;subst f5_))
      obtain ⟨Ao79,co79,eo79⟩:=Kd.R_slice HO508.out
      (first | subst eo79 | (injection eo79 with f1_ f2_ f3_;have f4_:=f1_.symm;have f5_:=f3_.symm;clear f1_ f2_ f3_;subst f4_;subst f5_))
      refine hK.out _ _ ⟨(blk_cell BK498.out 0).trans rfl,(blk_cell BK498.out 1).trans rfl,(blk_cell BK498.out 2).trans rfl⟩ (fun hHeld=>?_)
      clear hK K
      refine norm_ (a':=?_) ?_ ?_
      rotate_left
      ·show Act.put _ (some 23) _ = _
       simp only [Act.put,List.setIfInBounds_toArray,List.set_cons_zero,List.set_cons_succ,i64_w,i32_w]
       rfl
      refine one_ (i:=4) (N:=some 24) #[true,true,true,true,true,false] rfl rfl (by kernel_rfl) (by decide) (fun K hK=>?_)
      refine goes_ Tryd.func26 (by kernel_rfl) rfl #[.slice Ao78 t501.length co78,.agg #[.int .i64 t504,.int .i64 t505,.slice Ao79 t506.length co79]] (by rfl) rfl rfl (by (try simp only [List.map_toArray,List.map_cons,List.map_nil]);first | done | rfl | (simp only [List.length_drop,List.length_take];rfl)) ?_
      with_reducible refine (spec_SealMade.calls k _ _ t501 t504 t505 _ _ t506 t509 _ ?side1 ?side2 ?side3 ?side4 A15.out).mono ?_
      (case side1=>repeat (first | exact (Kd.R_reads' HO503.out).2.2 | (with_reducible refine Kd.C_alloc ?_ _) | (with_reducible refine Kd.C_drewN ?_ _) | (with_reducible refine Kd.C_drew ?_)))
      (case side2=>exact (Kd.R_reads' HO503.out).2.1)
      (case side3=>repeat (first | exact (Kd.R_reads' HO508.out).2.2 | (with_reducible refine Kd.C_alloc ?_ _) | (with_reducible refine Kd.C_drewN ?_ _) | (with_reducible refine Kd.C_drew ?_)))
      (case side4=>exact (Kd.R_reads' HO508.out).2.1)
      rintro e w80 ⟨rfl,hb⟩
      refine ⟨_,rfl,?_⟩
      have n0_:=Aside0.mk (Kd.R_below (by (with_reducible repeat (first | apply Kd.R_alloc | apply Kd.R_drewN | apply Kd.R_drew));exact HO503.out) hb)
      have n1_:=Aside0.mk (Kd.R_below (by (with_reducible repeat (first | apply Kd.R_alloc | apply Kd.R_drewN | apply Kd.R_drew));exact HO508.out) hb)
      have n2_:=Aside0.mk (blk_below (g:=gb498) (o:=.cells #[.int .i64 a1_0,.int .i64 a1_1,.slice A1_2 l1_2.length c1_2] 33 (0,0)) (by (with_reducible repeat (first | refine blk_drewN ?_ _ | refine blk_drew ?_ | refine blk_alloc ?_ _));exact BK498.out) hb)
      have n3_:=Aside0.mk (below_step (by repeat (first | (with_reducible first | exact HB.out | apply below_alloc | apply pw_below_drewN | apply below_drew1 | refine below_set ?_ GE498.out) | exact HB.out)) hb)
      clear HO503
      clear HO508
      clear BK498
      clear HB
      have HO503:=n0_
      have HO508:=n1_
      have BK498:=n2_
      have HB:=n3_
      clear n0_ n1_ n2_ n3_
      (try clear hb)
      (try clear hb2)
      (try clear hk)
      (try clear hi)
      refine hK.out _ _ ⟨(blk_cell BK498.out 0).trans rfl,(blk_cell BK498.out 1).trans rfl,(blk_cell BK498.out 2).trans rfl⟩ (fun hHeld=>?_)
      clear hK K
      refine norm_ (a':=?_) ?_ ?_
      rotate_left
      ·show Act.put _ (some 24) _ = _
       simp only [Act.put,List.setIfInBounds_toArray,List.set_cons_zero,List.set_cons_succ,i64_w,i32_w]
       rfl
      refine pure_ (i:=5) (N:=some 6) (v:=?_) (a':=?_) #[true,true,true,true,true,true] rfl rfl (by kernel_rfl) (fun _ _ _ h=>h) (Or.inl ⟨by rfl,?_⟩) ?_ ?_
      rotate_left;·intro w';go_simp;with_reducible rfl
      rotate_left;·simp only [Act.put,List.setIfInBounds_toArray,List.set_cons_zero,List.set_cons_succ,i64_w,i32_w];rfl
      refine done_ (by kernel_rfl) ?_
      try go_wp2_with (first | ((with_reducible refine gate_callee (f:=27) rfl ?_);refine goesL_ (some 26) rfl rfl Tryd.func27 (by kernel_rfl) rfl #[.slice A0 l0.length c0] rfl (by (try simp only [List.map_toArray,List.map_cons,List.map_nil]);first | done | rfl | (simp only [List.length_drop,List.length_take];rfl)) ?_;(with_reducible refine (laws_toSealS.calls k _ _ l0 t510 _ ?side1 ?side2 A16.out).mono ?_);(case side1=>repeat (first | exact (Kd.C_below HR0.out HB.out) | (with_reducible refine Kd.C_alloc ?_ _) | (with_reducible refine Kd.C_drewN ?_ _) | (with_reducible refine Kd.C_drew ?_)));(case side2=>exact HC0.out);rintro e w81 ⟨v511,rfl,ho0,hb⟩;refine ⟨_,rfl,?_⟩;have n0_:=Aside0.mk (Kd.R_elder' (by (with_reducible repeat (first | apply Kd.R_alloc | apply Kd.R_drewN | apply Kd.R_drew));exact HO503.out) (Kd.R_base ho0) hb);have n1_:=Aside0.mk (Kd.R_elder' (by (with_reducible repeat (first | apply Kd.R_alloc | apply Kd.R_drewN | apply Kd.R_drew));exact HO508.out) (Kd.R_base ho0) hb);have n2_:=Aside0.mk (Kd.R_lower (Kd.R_new' (Kd.R_new' ho0 (Kd.R_lt (by (with_reducible repeat (first | apply Kd.R_alloc | apply Kd.R_drewN | apply Kd.R_drew));exact HO503.out))) (Kd.R_lt (by (with_reducible repeat (first | apply Kd.R_alloc | apply Kd.R_drewN | apply Kd.R_drew));exact HO508.out))) (below_size (by repeat (first | (with_reducible first | exact HB.out | apply below_alloc | apply pw_below_drewN | apply below_drew1 | refine below_set ?_ GE498.out) | exact HB.out))));have n3_:=Aside0.mk (blk_below (g:=gb498) (o:=.cells #[.int .i64 a1_0,.int .i64 a1_1,.slice A1_2 l1_2.length c1_2] 33 (0,0)) (by (with_reducible repeat (first | refine blk_drewN ?_ _ | refine blk_drew ?_ | refine blk_alloc ?_ _));exact BK498.out) hb);have n4_:=Aside0.mk (below_step (by repeat (first | (with_reducible first | exact HB.out | apply below_alloc | apply pw_below_drewN | apply below_drew1 | refine below_set ?_ GE498.out) | exact HB.out)) hb);clear HO503;clear HO508;clear BK498;clear HB;have HO503:=n0_;have HO508:=n1_;have HO512:=n2_;have BK498:=n3_;have HB:=n4_;clear n0_ n1_ n2_ n3_ n4_;(try clear hb);(try clear hb2);(try clear hk);(try clear hi);(try clear ho0);have hcz82_0:w81.cell? ⟨gb498,0,none⟩ = some (.int .i64 a1_0):=(blk_cell BK498.out 0).trans rfl;have hcz82_1:w81.cell? ⟨gb498,1,none⟩ = some (.int .i64 a1_1):=(blk_cell BK498.out 1).trans rfl;have hcz82_2:w81.cell? ⟨gb498,2,none⟩ = some (.slice A1_2 l1_2.length c1_2):=(blk_cell BK498.out 2).trans rfl;have hfz82_0:=blk_frozen BK498.out 0;have hfz82_1:=blk_frozen BK498.out 1;have hfz82_2:=blk_frozen BK498.out 2) | ((with_reducible refine gate_callee (f:=21) rfl ?_);refine goesL_ (some 28) rfl rfl Tryd.func21 (by kernel_rfl) rfl #[.agg #[.int .i64 a1_0,.int .i64 a1_1,.slice A1_2 l1_2.length c1_2]] rfl (by (try simp only [List.map_toArray,List.map_cons,List.map_nil]);first | done | rfl | (simp only [List.length_drop,List.length_take];rfl)) ?_;(with_reducible refine (laws_toSeal.calls k a1_0 a1_1 _ _ l1_2 t513 t514 t515 _ ?side1 ?side2 A17.out).mono ?_);(case side1=>repeat (first | exact (Kd.C_below HR1_2.out HB.out) | (with_reducible refine Kd.C_alloc ?_ _) | (with_reducible refine Kd.C_drewN ?_ _) | (with_reducible refine Kd.C_drew ?_)));(case side2=>exact HC1_2.out);rintro e w83 ⟨v516,rfl,ho0,hb⟩;refine ⟨_,rfl,?_⟩;have n0_:=Aside0.mk (Kd.R_elder' (by (with_reducible repeat (first | apply Kd.R_alloc | apply Kd.R_drewN | apply Kd.R_drew));exact HO503.out) (Kd.R_base ho0) hb);have n1_:=Aside0.mk (Kd.R_elder' (by (with_reducible repeat (first | apply Kd.R_alloc | apply Kd.R_drewN | apply Kd.R_drew));exact HO508.out) (Kd.R_base ho0) hb);have n2_:=Aside0.mk (Kd.R_elder' (by (with_reducible repeat (first | apply Kd.R_alloc | apply Kd.R_drewN | apply Kd.R_drew));exact HO512.out) (Kd.R_base ho0) hb);have n3_:=Aside0.mk (Kd.R_lower (Kd.R_new' (Kd.R_new' (Kd.R_new' ho0 (Kd.R_lt (by (with_reducible repeat (first | apply Kd.R_alloc | apply Kd.R_drewN | apply Kd.R_drew));exact HO503.out))) (Kd.R_lt (by (with_reducible repeat (first | apply Kd.R_alloc | apply Kd.R_drewN | apply Kd.R_drew));exact HO508.out))) (Kd.R_lt (by (with_reducible repeat (first | apply Kd.R_alloc | apply Kd.R_drewN | apply Kd.R_drew));exact HO512.out))) (below_size (by repeat (first | (with_reducible first | exact HB.out | apply below_alloc | apply pw_below_drewN | apply below_drew1 | refine below_set ?_ GE498.out) | exact HB.out))));have n4_:=Aside0.mk (blk_below (g:=gb498) (o:=.cells #[.int .i64 a1_0,.int .i64 a1_1,.slice A1_2 l1_2.length c1_2] 33 (0,0)) (by (with_reducible repeat (first | refine blk_drewN ?_ _ | refine blk_drew ?_ | refine blk_alloc ?_ _));exact BK498.out) hb);have n5_:=Aside0.mk (below_step (by repeat (first | (with_reducible first | exact HB.out | apply below_alloc | apply pw_below_drewN | apply below_drew1 | refine below_set ?_ GE498.out) | exact HB.out)) hb);clear HO503;clear HO508;clear HO512;clear BK498;clear HB;have HO503:=n0_;have HO508:=n1_;have HO512:=n2_;have HO517:=n3_;have BK498:=n4_;have HB:=n5_;clear n0_ n1_ n2_ n3_ n4_ n5_;(try clear hb);(try clear hb2);(try clear hk);(try clear hi);(try clear ho0)) | ((with_reducible refine gate_dst (N:=8) rfl ?_);refine box_event ?hg (N:=8) ?hd (cs:=#[.int .i64 0,.int .i64 0,.slice none 0 0]) (t:=25) ?hr ?_;(case hd=>rfl);(case hg=>rfl);(case hr=>first | (go_simp;done) | (go_simp;rfl));intro gb518 hg w84 hbox hb;have n0_:=Aside0.mk (Kd.R_below (Kd.R_elderB (by (with_reducible repeat (first | apply Kd.R_alloc | apply Kd.R_drewN | apply Kd.R_drew));exact HO503.out) gb518 (Nat.le_of_eq hg.symm)) hb);have n1_:=Aside0.mk (Kd.R_below (Kd.R_elderB (by (with_reducible repeat (first | apply Kd.R_alloc | apply Kd.R_drewN | apply Kd.R_drew));exact HO508.out) gb518 (Nat.le_of_eq hg.symm)) hb);have n2_:=Aside0.mk (Kd.R_below (Kd.R_elderB (by (with_reducible repeat (first | apply Kd.R_alloc | apply Kd.R_drewN | apply Kd.R_drew));exact HO512.out) gb518 (Nat.le_of_eq hg.symm)) hb);have n3_:=Aside0.mk (Kd.R_below (Kd.R_elderB (by (with_reducible repeat (first | apply Kd.R_alloc | apply Kd.R_drewN | apply Kd.R_drew));exact HO517.out) gb518 (Nat.le_of_eq hg.symm)) hb);have n4_:=Aside0.mk (blk_below (g:=gb498) (o:=.cells #[.int .i64 a1_0,.int .i64 a1_1,.slice A1_2 l1_2.length c1_2] 33 (0,0)) (by (with_reducible repeat (first | refine blk_drewN ?_ _ | refine blk_drew ?_ | refine blk_alloc ?_ _));exact BK498.out) hb);have n5_:=Aside0.mk (below_step (by repeat (first | (with_reducible first | exact HB.out | apply below_alloc | apply pw_below_drewN | apply below_drew1 | refine below_set ?_ GE498.out) | exact HB.out)) hb);have n6_:=Aside0.mk (hbox);have n7_:=Aside0.mk ((by rw [hg];exact (below_size (by repeat (first | (with_reducible first | exact HB.out | apply below_alloc | apply pw_below_drewN | apply below_drew1 | refine below_set ?_ GE498.out) | exact HB.out))):w.heap.size ≤ gb518));have n8_:=Aside0.mk ((by rw [hg];exact (below_size (by repeat (first | (with_reducible first | exact HB.out | apply below_alloc | apply pw_below_drewN | apply below_drew1 | refine below_set ?_ GE498.out) | exact HB.out))):w.heap.size ≤ gb518));have n9_:=Aside0.mk ((by rw [hg];exact Nat.ne_of_lt (blk_lt (g:=gb498) (o:=.cells #[.int .i64 a1_0,.int .i64 a1_1,.slice A1_2 l1_2.length c1_2] 33 (0,0)) (by (with_reducible repeat (first | refine blk_drewN ?_ _ | refine blk_drew ?_ | refine blk_alloc ?_ _));exact BK498.out)):gb498 ≠ gb518));have n10_:=Aside0.mk ((by rw [hg];exact Nat.ne_of_gt (blk_lt (g:=gb498) (o:=.cells #[.int .i64 a1_0,.int .i64 a1_1,.slice A1_2 l1_2.length c1_2] 33 (0,0)) (by (with_reducible repeat (first | refine blk_drewN ?_ _ | refine blk_drew ?_ | refine blk_alloc ?_ _));exact BK498.out)):gb518 ≠ gb498));clear HO503;clear HO508;clear HO512;clear HO517;clear BK498;clear HB;have HO503:=n0_;have HO508:=n1_;have HO512:=n2_;have HO517:=n3_;have BK498:=n4_;have HB:=n5_;have BK518:=n6_;have GW518:=n7_;have GE518:=n8_;have NB498_518:=n9_;have NB518_498:=n10_;clear n0_ n1_ n2_ n3_ n4_ n5_ n6_ n7_ n8_ n9_ n10_;clear hb hbox hg;have hnb85:=NB518_498.out;have hnc85:=NB498_518.out;have hcz86_0:w84.cell? ⟨gb518,0,none⟩ = some (.int .i64 0):=(blk_cell BK518.out 0).trans rfl;have hcz86_1:w84.cell? ⟨gb518,1,none⟩ = some (.int .i64 0):=(blk_cell BK518.out 1).trans rfl;have hcz86_2:w84.cell? ⟨gb518,2,none⟩ = some (.slice none 0 0):=(blk_cell BK518.out 2).trans rfl;have hfz86_0:=blk_frozen BK518.out 0;have hfz86_1:=blk_frozen BK518.out 1;have hfz86_2:=blk_frozen BK518.out 2;obtain ⟨Ao87,co87,eo87⟩:=Kd.R_slice HO517.out;subst eo87;obtain ⟨Ao88,co88,eo88⟩:=Kd.R_slice HO512.out;subst eo88) | ((with_reducible refine gate_callee (f:=28) rfl ?_);refine goesL_ (some 31) rfl rfl Tryd.func28 (by kernel_rfl) rfl #[.slice Ao88 t510.length co88,.agg #[.int .i64 t513,.int .i64 t514,.slice Ao87 t515.length co87]] rfl (by (try simp only [List.map_toArray,List.map_cons,List.map_nil]);first | done | rfl | (simp only [List.length_drop,List.length_take];rfl)) ?_;(with_reducible refine (impl_SealMade.calls _ _ t510 t513 t514 _ _ t515 t519 _ ?side1 ?side2 ?side3 ?side4 A18.out).mono ?_);(case side1=>refine (Kd.R_reads' (e:=25) (base:=w.heap.size) (ok:=fun k_=>((((True∧some k_ ≠ (.slice Ao78 t501.length co78:Value).ownBlock)∧some k_ ≠ (.slice Ao79 t506.length co79:Value).ownBlock)∧some k_ ≠ (.slice Ao87 t515.length co87:Value).ownBlock)∧k_ ≠ gb518)) (n:=t510.length) (c:=co88) ?_).2.2;exact (by (with_reducible repeat (first | apply Kd.R_alloc | apply Kd.R_drewN | apply Kd.R_drew));exact (Kd.R_mono (Kd.R_far (p:=⟨gb518,2,none⟩) (Kd.R_far (p:=⟨gb518,1,none⟩) (Kd.R_far (p:=⟨gb518,0,none⟩) (Kd.R_mono HO512.out (fun k_ hk=>(⟨hk,hk.2⟩:_∧k_ ≠ gb518))) (fun _ hk=>hk.2) (.int .i64 t513)) (fun _ hk=>hk.2) (.int .i64 t514)) (fun _ hk=>hk.2) (.slice Ao87 t515.length co87)) (fun _ h_=>h_.1))));(case side2=>exact (Kd.R_reads' HO512.out).2.1);(case side3=>refine (Kd.R_reads' (e:=25) (base:=w.heap.size) (ok:=fun k_=>((((True∧some k_ ≠ (.slice Ao78 t501.length co78:Value).ownBlock)∧some k_ ≠ (.slice Ao79 t506.length co79:Value).ownBlock)∧some k_ ≠ (.slice Ao88 t510.length co88:Value).ownBlock)∧k_ ≠ gb518)) (n:=t515.length) (c:=co87) ?_).2.2;exact (by (with_reducible repeat (first | apply Kd.R_alloc | apply Kd.R_drewN | apply Kd.R_drew));exact (Kd.R_mono (Kd.R_far (p:=⟨gb518,2,none⟩) (Kd.R_far (p:=⟨gb518,1,none⟩) (Kd.R_far (p:=⟨gb518,0,none⟩) (Kd.R_mono HO517.out (fun k_ hk=>(⟨hk,hk.2⟩:_∧k_ ≠ gb518))) (fun _ hk=>hk.2) (.int .i64 t513)) (fun _ hk=>hk.2) (.int .i64 t514)) (fun _ hk=>hk.2) (.slice Ao87 t515.length co87)) (fun _ h_=>h_.1))));(case side4=>exact (Kd.R_reads' HO517.out).2.1);rintro e w89 ⟨rfl,hb⟩;refine ⟨_,rfl,?_⟩;have n0_:=Aside0.mk (Kd.R_below (by (with_reducible repeat (first | apply Kd.R_alloc | apply Kd.R_drewN | apply Kd.R_drew));exact (Kd.R_mono (Kd.R_far (p:=⟨gb518,2,none⟩) (Kd.R_far (p:=⟨gb518,1,none⟩) (Kd.R_far (p:=⟨gb518,0,none⟩) (Kd.R_mono HO503.out (fun k_ hk=>(⟨hk,hk.2⟩:_∧k_ ≠ gb518))) (fun _ hk=>hk.2) (.int .i64 t513)) (fun _ hk=>hk.2) (.int .i64 t514)) (fun _ hk=>hk.2) (.slice Ao87 t515.length co87)) (fun _ h_=>h_.1))) hb);have n1_:=Aside0.mk (Kd.R_below (by (with_reducible repeat (first | apply Kd.R_alloc | apply Kd.R_drewN | apply Kd.R_drew));exact (Kd.R_mono (Kd.R_far (p:=⟨gb518,2,none⟩) (Kd.R_far (p:=⟨gb518,1,none⟩) (Kd.R_far (p:=⟨gb518,0,none⟩) (Kd.R_mono HO508.out (fun k_ hk=>(⟨hk,hk.2⟩:_∧k_ ≠ gb518))) (fun _ hk=>hk.2) (.int .i64 t513)) (fun _ hk=>hk.2) (.int .i64 t514)) (fun _ hk=>hk.2) (.slice Ao87 t515.length co87)) (fun _ h_=>h_.1))) hb);have n2_:=Aside0.mk (Kd.R_below (by (with_reducible repeat (first | apply Kd.R_alloc | apply Kd.R_drewN | apply Kd.R_drew));exact (Kd.R_mono (Kd.R_far (p:=⟨gb518,2,none⟩) (Kd.R_far (p:=⟨gb518,1,none⟩) (Kd.R_far (p:=⟨gb518,0,none⟩) (Kd.R_mono HO512.out (fun k_ hk=>(⟨hk,hk.2⟩:_∧k_ ≠ gb518))) (fun _ hk=>hk.2) (.int .i64 t513)) (fun _ hk=>hk.2) (.int .i64 t514)) (fun _ hk=>hk.2) (.slice Ao87 t515.length co87)) (fun _ h_=>h_.1))) hb);have n3_:=Aside0.mk (Kd.R_below (by (with_reducible repeat (first | apply Kd.R_alloc | apply Kd.R_drewN | apply Kd.R_drew));exact (Kd.R_mono (Kd.R_far (p:=⟨gb518,2,none⟩) (Kd.R_far (p:=⟨gb518,1,none⟩) (Kd.R_far (p:=⟨gb518,0,none⟩) (Kd.R_mono HO517.out (fun k_ hk=>(⟨hk,hk.2⟩:_∧k_ ≠ gb518))) (fun _ hk=>hk.2) (.int .i64 t513)) (fun _ hk=>hk.2) (.int .i64 t514)) (fun _ hk=>hk.2) (.slice Ao87 t515.length co87)) (fun _ h_=>h_.1))) hb);have n4_:=Aside0.mk (blk_below (g:=gb498) (o:=.cells #[.int .i64 a1_0,.int .i64 a1_1,.slice A1_2 l1_2.length c1_2] 33 (0,0)) (by (with_reducible repeat (first | refine blk_drewN ?_ _ | refine blk_drew ?_ | refine blk_alloc ?_ _));refine blk_far ?_ NB498_518.out _;(with_reducible repeat (first | refine blk_drewN ?_ _ | refine blk_drew ?_ | refine blk_alloc ?_ _));refine blk_far ?_ NB498_518.out _;(with_reducible repeat (first | refine blk_drewN ?_ _ | refine blk_drew ?_ | refine blk_alloc ?_ _));refine blk_far ?_ NB498_518.out _;(with_reducible repeat (first | refine blk_drewN ?_ _ | refine blk_drew ?_ | refine blk_alloc ?_ _));exact BK498.out) hb);have n5_:=Aside0.mk (blk_below (g:=gb518) (o:=.cells #[.int .i64 t513,.int .i64 t514,.slice Ao87 t515.length co87] 25 (0,0)) (by (with_reducible repeat (first | refine blk_drewN ?_ _ | refine blk_drew ?_ | refine blk_alloc ?_ _));refine blk_put (cs:=#[.int .i64 t513,.int .i64 t514,.slice none 0 0]) ?_ 2 _ rfl;(with_reducible repeat (first | refine blk_drewN ?_ _ | refine blk_drew ?_ | refine blk_alloc ?_ _));refine blk_put (cs:=#[.int .i64 t513,.int .i64 0,.slice none 0 0]) ?_ 1 _ rfl;(with_reducible repeat (first | refine blk_drewN ?_ _ | refine blk_drew ?_ | refine blk_alloc ?_ _));refine blk_put (cs:=#[.int .i64 0,.int .i64 0,.slice none 0 0]) ?_ 0 _ rfl;(with_reducible repeat (first | refine blk_drewN ?_ _ | refine blk_drew ?_ | refine blk_alloc ?_ _));exact BK518.out) hb);have n6_:=Aside0.mk (below_step (by repeat (first | (with_reducible first | exact HB.out | apply below_alloc | apply pw_below_drewN | apply below_drew1 | refine below_set ?_ GE498.out | refine below_set ?_ GE518.out) | exact HB.out)) hb);clear HO503;clear HO508;clear HO512;clear HO517;clear BK498;clear BK518;clear HB;have HO503:=n0_;have HO508:=n1_;have HO512:=n2_;have HO517:=n3_;have BK498:=n4_;have BK518:=n5_;have HB:=n6_;clear n0_ n1_ n2_ n3_ n4_ n5_ n6_;(try clear hb);(try clear hb2);(try clear hk);(try clear hi)) | ((with_reducible refine gate_callee (f:=27) rfl ?_);refine goesL_ (some 37) rfl rfl Tryd.func27 (by kernel_rfl) rfl #[.slice A0 l0.length c0] rfl (by (try simp only [List.map_toArray,List.map_cons,List.map_nil]);first | done | rfl | (simp only [List.length_drop,List.length_take];rfl)) ?_;(with_reducible refine (laws_toSealS.calls k _ _ l0 t520 _ ?side1 ?side2 A39.out).mono ?_);(case side1=>repeat (first | exact (Kd.C_below HR0.out HB.out) | (with_reducible refine Kd.C_alloc ?_ _) | (with_reducible refine Kd.C_drewN ?_ _) | (with_reducible refine Kd.C_drew ?_)));(case side2=>exact HC0.out);rintro e w90 ⟨v521,rfl,ho0,hb⟩;refine ⟨_,rfl,?_⟩;have n0_:=Aside0.mk (Kd.R_elder' (by (with_reducible repeat (first | apply Kd.R_alloc | apply Kd.R_drewN | apply Kd.R_drew));exact HO503.out) (Kd.R_base ho0) hb);have n1_:=Aside0.mk (Kd.R_elder' (by (with_reducible repeat (first | apply Kd.R_alloc | apply Kd.R_drewN | apply Kd.R_drew));exact HO508.out) (Kd.R_base ho0) hb);have n2_:=Aside0.mk (Kd.R_elder' (by (with_reducible repeat (first | apply Kd.R_alloc | apply Kd.R_drewN | apply Kd.R_drew));exact HO512.out) (Kd.R_base ho0) hb);have n3_:=Aside0.mk (Kd.R_elder' (by (with_reducible repeat (first | apply Kd.R_alloc | apply Kd.R_drewN | apply Kd.R_drew));exact HO517.out) (Kd.R_base ho0) hb);have n4_:=Aside0.mk (Kd.R_lower (Kd.R_newB (Kd.R_new' (Kd.R_new' (Kd.R_new' (Kd.R_new' ho0 (Kd.R_lt (by (with_reducible repeat (first | apply Kd.R_alloc | apply Kd.R_drewN | apply Kd.R_drew));exact HO503.out))) (Kd.R_lt (by (with_reducible repeat (first | apply Kd.R_alloc | apply Kd.R_drewN | apply Kd.R_drew));exact HO508.out))) (Kd.R_lt (by (with_reducible repeat (first | apply Kd.R_alloc | apply Kd.R_drewN | apply Kd.R_drew));exact HO512.out))) (Kd.R_lt (by (with_reducible repeat (first | apply Kd.R_alloc | apply Kd.R_drewN | apply Kd.R_drew));exact HO517.out))) (g:=gb518) (o:=.cells #[.int .i64 t513,.int .i64 t514,.slice Ao87 t515.length co87] 25 (0,0)) (by (with_reducible repeat (first | refine blk_drewN ?_ _ | refine blk_drew ?_ | refine blk_alloc ?_ _));exact BK518.out)) (below_size (by repeat (first | (with_reducible first | exact HB.out | apply below_alloc | apply pw_below_drewN | apply below_drew1 | refine below_set ?_ GE498.out | refine below_set ?_ GE518.out) | exact HB.out))));have n5_:=Aside0.mk (blk_below (g:=gb498) (o:=.cells #[.int .i64 a1_0,.int .i64 a1_1,.slice A1_2 l1_2.length c1_2] 33 (0,0)) (by (with_reducible repeat (first | refine blk_drewN ?_ _ | refine blk_drew ?_ | refine blk_alloc ?_ _));exact BK498.out) hb);have n6_:=Aside0.mk (blk_below (g:=gb518) (o:=.cells #[.int .i64 t513,.int .i64 t514,.slice Ao87 t515.length co87] 25 (0,0)) (by (with_reducible repeat (first | refine blk_drewN ?_ _ | refine blk_drew ?_ | refine blk_alloc ?_ _));exact BK518.out) hb);have n7_:=Aside0.mk (below_step (by repeat (first | (with_reducible first | exact HB.out | apply below_alloc | apply pw_below_drewN | apply below_drew1 | refine below_set ?_ GE498.out | refine below_set ?_ GE518.out) | exact HB.out)) hb);clear HO503;clear HO508;clear HO512;clear HO517;clear BK498;clear BK518;clear HB;have HO503:=n0_;have HO508:=n1_;have HO512:=n2_;have HO517:=n3_;have HO522:=n4_;have BK498:=n5_;have BK518:=n6_;have HB:=n7_;clear n0_ n1_ n2_ n3_ n4_ n5_ n6_ n7_;(try clear hb);(try clear hb2);(try clear hk);(try clear hi);(try clear ho0);obtain ⟨Ao91,co91,eo91⟩:=Kd.R_slice HO522.out;subst eo91) | ((with_reducible refine gate_callee (f:=29) rfl ?_);refine goesL_ (some 38) rfl rfl Tryd.func29 (by kernel_rfl) rfl #[.slice Ao88 t510.length co88,.slice Ao91 t520.length co91] rfl (by (try simp only [List.map_toArray,List.map_cons,List.map_nil]);first | done | rfl | (simp only [List.length_drop,List.length_take];rfl)) ?_;(with_reducible refine (laws_eqSealS.calls k _ _ t510 _ _ t520 true _ ?side1 ?side2 ?side3 ?side4 A40.out).mono ?_);(case side1=>repeat (first | exact (Kd.R_reads' HO512.out).2.2 | (with_reducible refine Kd.C_alloc ?_ _) | (with_reducible refine Kd.C_drewN ?_ _) | (with_reducible refine Kd.C_drew ?_)));(case side2=>exact (Kd.R_reads' HO512.out).2.1);(case side3=>repeat (first | exact (Kd.R_reads' HO522.out).2.2 | (with_reducible refine Kd.C_alloc ?_ _) | (with_reducible refine Kd.C_drewN ?_ _) | (with_reducible refine Kd.C_drew ?_)));(case side4=>exact (Kd.R_reads' HO522.out).2.1);rintro e w92 ⟨rfl,hb⟩;refine ⟨_,rfl,?_⟩;have n0_:=Aside0.mk (Kd.R_below (by (with_reducible repeat (first | apply Kd.R_alloc | apply Kd.R_drewN | apply Kd.R_drew));exact HO503.out) hb);have n1_:=Aside0.mk (Kd.R_below (by (with_reducible repeat (first | apply Kd.R_alloc | apply Kd.R_drewN | apply Kd.R_drew));exact HO508.out) hb);have n2_:=Aside0.mk (Kd.R_below (by (with_reducible repeat (first | apply Kd.R_alloc | apply Kd.R_drewN | apply Kd.R_drew));exact HO512.out) hb);have n3_:=Aside0.mk (Kd.R_below (by (with_reducible repeat (first | apply Kd.R_alloc | apply Kd.R_drewN | apply Kd.R_drew));exact HO517.out) hb);have n4_:=Aside0.mk (Kd.R_below (by (with_reducible repeat (first | apply Kd.R_alloc | apply Kd.R_drewN | apply Kd.R_drew));exact HO522.out) hb);have n5_:=Aside0.mk (blk_below (g:=gb498) (o:=.cells #[.int .i64 a1_0,.int .i64 a1_1,.slice A1_2 l1_2.length c1_2] 33 (0,0)) (by (with_reducible repeat (first | refine blk_drewN ?_ _ | refine blk_drew ?_ | refine blk_alloc ?_ _));exact BK498.out) hb);have n6_:=Aside0.mk (blk_below (g:=gb518) (o:=.cells #[.int .i64 t513,.int .i64 t514,.slice Ao87 t515.length co87] 25 (0,0)) (by (with_reducible repeat (first | refine blk_drewN ?_ _ | refine blk_drew ?_ | refine blk_alloc ?_ _));exact BK518.out) hb);have n7_:=Aside0.mk (below_step (by repeat (first | (with_reducible first | exact HB.out | apply below_alloc | apply pw_below_drewN | apply below_drew1 | refine below_set ?_ GE498.out | refine below_set ?_ GE518.out) | exact HB.out)) hb);clear HO503;clear HO508;clear HO512;clear HO517;clear HO522;clear BK498;clear BK518;clear HB;have HO503:=n0_;have HO508:=n1_;have HO512:=n2_;have HO517:=n3_;have HO522:=n4_;have BK498:=n5_;have BK518:=n6_;have HB:=n7_;clear n0_ n1_ n2_ n3_ n4_ n5_ n6_ n7_;(try clear hb);(try clear hb2);(try clear hk);(try clear hi)))
      have n0_:=Aside0.mk (Kd.R_drew HO503.out)
      have n1_:=Aside0.mk (Kd.R_drew HO508.out)
      have n2_:=Aside0.mk (Kd.R_drew HO512.out)
      have n3_:=Aside0.mk (Kd.R_drew HO517.out)
      have n4_:=Aside0.mk (Kd.R_drew HO522.out)
      have n5_:=Aside0.mk (blk_drew BK498.out)
      have n6_:=Aside0.mk (blk_drew BK518.out)
      have n7_:=Aside0.mk (below_drew1 HB.out)
      clear HO503
      clear HO508
      clear HO512
      clear HO517
      clear HO522
      clear BK498
      clear BK518
      clear HB
      have HO503:=n0_
      have HO508:=n1_
      have HO512:=n2_
      have HO517:=n3_
      have HO522:=n4_
      have BK498:=n5_
      have BK518:=n6_
      have HB:=n7_
      clear n0_ n1_ n2_ n3_ n4_ n5_ n6_ n7_
      refine start_ (n:=5) (S:=fun w'=>w'.cell? ⟨gb518,0,none⟩ = some (.int .i64 t513)∧w'.cell? ⟨gb518,1,none⟩ = some (.int .i64 t514)∧w'.cell? ⟨gb518,2,none⟩ = some (.slice Ao87 t515.length co87)∧w'.cell? ⟨gb498,0,none⟩ = some (.int .i64 a1_0)∧w'.cell? ⟨gb498,1,none⟩ = some (.int .i64 a1_1)∧w'.cell? ⟨gb498,2,none⟩ = some (.slice A1_2 l1_2.length c1_2)) (ds:=[]) #[false,false,false,false,false] (by kernel_rfl) rfl rfl ⟨(blk_cell BK518.out 0).trans rfl,(blk_cell BK518.out 1).trans rfl,(blk_cell BK518.out 2).trans rfl,(blk_cell BK498.out 0).trans rfl,(blk_cell BK498.out 1).trans rfl,(blk_cell BK498.out 2).trans rfl⟩ (fun hHeld=>?_)
      generalize w92.drew = w93 at HO503 HO508 HO512 HO517 HO522 BK498 BK518 HB hHeld ⊢
      refine take_ (i:=0) (N:=some 40) (v:=?_) (a':=?_) #[true,false,false,false,false] rfl rfl (by kernel_rfl) (fun _ _ _ h=>h) (Or.inl ⟨by rfl,?_⟩) hHeld ?_ ?_
      rotate_left;·rintro w' ⟨s0,s1,s2,s3,s4,s5⟩;go_simp;with_reducible rfl
      rotate_left;·simp only [Act.put,List.setIfInBounds_toArray,List.set_cons_zero,List.set_cons_succ,i64_w,i32_w];rfl
      refine take_ (i:=1) (N:=some 41) (v:=?_) (a':=?_) #[true,true,false,false,false] rfl rfl (by kernel_rfl) (fun _ _ _ h=>h) (Or.inl ⟨by rfl,?_⟩) hHeld ?_ ?_
      rotate_left;·rintro w' ⟨s0,s1,s2,s3,s4,s5⟩;go_simp;with_reducible rfl
      rotate_left;·simp only [Act.put,List.setIfInBounds_toArray,List.set_cons_zero,List.set_cons_succ,i64_w,i32_w];rfl
      refine one_ (i:=2) (N:=some 42) #[true,true,true,false,false] rfl rfl (by kernel_rfl) (by decide) (fun K hK=>?_)
      refine goes_ Tryd.func21 (by kernel_rfl) rfl #[.agg #[.int .i64 a1_0,.int .i64 a1_1,.slice A1_2 l1_2.length c1_2]] (by rfl) rfl rfl (by (try simp only [List.map_toArray,List.map_cons,List.map_nil]);first | done | rfl | (simp only [List.length_drop,List.length_take];rfl)) ?_
      with_reducible refine (laws_toSeal.calls k a1_0 a1_1 _ _ l1_2 t524 t525 t526 _ ?side1 ?side2 A42.out).mono ?_
      (case side1=>repeat (first | exact (Kd.C_below HR1_2.out HB.out) | (with_reducible refine Kd.C_alloc ?_ _) | (with_reducible refine Kd.C_drewN ?_ _) | (with_reducible refine Kd.C_drew ?_)))
      (case side2=>exact HC1_2.out)
      rintro e w94 ⟨v527,rfl,ho0,hb⟩
      refine ⟨_,rfl,?_⟩
      have n0_:=Aside0.mk (Kd.R_elder' (by (with_reducible repeat (first | apply Kd.R_alloc | apply Kd.R_drewN | apply Kd.R_drew));exact HO503.out) (Kd.R_base ho0) hb)
      have n1_:=Aside0.mk (Kd.R_elder' (by (with_reducible repeat (first | apply Kd.R_alloc | apply Kd.R_drewN | apply Kd.R_drew));exact HO508.out) (Kd.R_base ho0) hb)
      have n2_:=Aside0.mk (Kd.R_elder' (by (with_reducible repeat (first | apply Kd.R_alloc | apply Kd.R_drewN | apply Kd.R_drew));exact HO512.out) (Kd.R_base ho0) hb)
      have n3_:=Aside0.mk (Kd.R_elder' (by (with_reducible repeat (first | apply Kd.R_alloc | apply Kd.R_drewN | apply Kd.R_drew));exact HO517.out) (Kd.R_base ho0) hb)
      have n4_:=Aside0.mk (Kd.R_elder' (by (with_reducible repeat (first | apply Kd.R_alloc | apply Kd.R_drewN | apply Kd.R_drew));exact HO522.out) (Kd.R_base ho0) hb)
      have n5_:=Aside0.mk (Kd.R_lower (Kd.R_newB (Kd.R_new' (Kd.R_new' (Kd.R_new' (Kd.R_new' (Kd.R_new' ho0 (Kd.R_lt (by (with_reducible repeat (first | apply Kd.R_alloc | apply Kd.R_drewN | apply Kd.R_drew));exact HO503.out))) (Kd.R_lt (by (with_reducible repeat (first | apply Kd.R_alloc | apply Kd.R_drewN | apply Kd.R_drew));exact HO508.out))) (Kd.R_lt (by (with_reducible repeat (first | apply Kd.R_alloc | apply Kd.R_drewN | apply Kd.R_drew));exact HO512.out))) (Kd.R_lt (by (with_reducible repeat (first | apply Kd.R_alloc | apply Kd.R_drewN | apply Kd.R_drew));exact HO517.out))) (Kd.R_lt (by (with_reducible repeat (first | apply Kd.R_alloc | apply Kd.R_drewN | apply Kd.R_drew));exact HO522.out))) (g:=gb518) (o:=.cells #[.int .i64 t513,.int .i64 t514,.slice Ao87 t515.length co87] 25 (0,0)) (by (with_reducible repeat (first | refine blk_drewN ?_ _ | refine blk_drew ?_ | refine blk_alloc ?_ _));exact BK518.out)) (below_size (by repeat (first | (with_reducible first | exact HB.out | apply below_alloc | apply pw_below_drewN | apply below_drew1 | refine below_set ?_ GE498.out | refine below_set ?_ GE518.out) | exact HB.out))))
      have n6_:=Aside0.mk (blk_below (g:=gb498) (o:=.cells #[.int .i64 a1_0,.int .i64 a1_1,.slice A1_2 l1_2.length c1_2] 33 (0,0)) (by (with_reducible repeat (first | refine blk_drewN ?_ _ | refine blk_drew ?_ | refine blk_alloc ?_ _));exact BK498.out) hb)
      have n7_:=Aside0.mk (blk_below (g:=gb518) (o:=.cells #[.int .i64 t513,.int .i64 t514,.slice Ao87 t515.length co87] 25 (0,0)) (by (with_reducible repeat (first | refine blk_drewN ?_ _ | refine blk_drew ?_ | refine blk_alloc ?_ _));exact BK518.out) hb)
      have n8_:=Aside0.mk (below_step (by repeat (first | (with_reducible first | exact HB.out | apply below_alloc | apply pw_below_drewN | apply below_drew1 | refine below_set ?_ GE498.out | refine below_set ?_ GE518.out) | exact HB.out)) hb)
      clear HO503
      clear HO508
      clear HO512
      clear HO517
      clear HO522
      clear BK498
      clear BK518
      clear HB
      have HO503:=n0_
      have HO508:=n1_
      have HO512:=n2_
      have HO517:=n3_
      have HO522:=n4_
      have HO528:=n5_
      have BK498:=n6_
      have BK518:=n7_
      have HB:=n8_
      clear n0_ n1_ n2_ n3_ n4_ n5_ n6_ n7_ n8_
      (try clear hb)
      (try clear hb2)
      (try clear hk)
      (try clear hi)
      (try clear ho0)
      obtain ⟨Ao95,co95,eo95⟩:=Kd.R_slice HO528.out
      (first | subst eo95 | (injection eo95 with f1_ f2_ f3_;have f4_:=f1_.symm;have f5_:=f3_.symm;clear f1_ f2_ f3_;subst f4_;subst f5_))
      refine hK.out _ _ ⟨(blk_cell BK518.out 0).trans rfl,(blk_cell BK518.out 1).trans rfl,(blk_cell BK518.out 2).trans rfl,(blk_cell BK498.out 0).trans rfl,(blk_cell BK498.out 1).trans rfl,(blk_cell BK498.out 2).trans rfl⟩ (fun hHeld=>?_)
      clear hK K
      refine norm_ (a':=?_) ?_ ?_
      rotate_left
      ·show Act.put _ (some 42) _ = _
       simp only [Act.put,List.setIfInBounds_toArray,List.set_cons_zero,List.set_cons_succ,i64_w,i32_w]
       rfl
      refine one_ (i:=3) (N:=some 43) #[true,true,true,true,false] rfl rfl (by kernel_rfl) (by decide) (fun K hK=>?_)
      refine goes_ Tryd.func22 (by kernel_rfl) rfl #[.agg #[.int .i64 t513,.int .i64 t514,.slice Ao87 t515.length co87],.agg #[.int .i64 t524,.int .i64 t525,.slice Ao95 t526.length co95]] (by rfl) rfl rfl (by (try simp only [List.map_toArray,List.map_cons,List.map_nil]);first | done | rfl | (simp only [List.length_drop,List.length_take];rfl)) ?_
      with_reducible refine (laws_eqSeal.calls k t513 t514 _ _ t515 t524 t525 _ _ t526 false _ ?side1 ?side2 ?side3 ?side4 A43.out).mono ?_
      (case side1=>repeat (first | exact (Kd.R_reads' HO517.out).2.2 | (with_reducible refine Kd.C_alloc ?_ _) | (with_reducible refine Kd.C_drewN ?_ _) | (with_reducible refine Kd.C_drew ?_)))
      (case side2=>exact (Kd.R_reads' HO517.out).2.1)
      (case side3=>repeat (first | exact (Kd.R_reads' HO528.out).2.2 | (with_reducible refine Kd.C_alloc ?_ _) | (with_reducible refine Kd.C_drewN ?_ _) | (with_reducible refine Kd.C_drew ?_)))
      (case side4=>exact (Kd.R_reads' HO528.out).2.1)
      rintro e w96 ⟨rfl,hb⟩
      refine ⟨_,rfl,?_⟩
      have n0_:=Aside0.mk (Kd.R_below (by (with_reducible repeat (first | apply Kd.R_alloc | apply Kd.R_drewN | apply Kd.R_drew));exact HO503.out) hb)
      have n1_:=Aside0.mk (Kd.R_below (by (with_reducible repeat (first | apply Kd.R_alloc | apply Kd.R_drewN | apply Kd.R_drew));exact HO508.out) hb)
      have n2_:=Aside0.mk (Kd.R_below (by (with_reducible repeat (first | apply Kd.R_alloc | apply Kd.R_drewN | apply Kd.R_drew));exact HO512.out) hb)
      have n3_:=Aside0.mk (Kd.R_below (by (with_reducible repeat (first | apply Kd.R_alloc | apply Kd.R_drewN | apply Kd.R_drew));exact HO517.out) hb)
      have n4_:=Aside0.mk (Kd.R_below (by (with_reducible repeat (first | apply Kd.R_alloc | apply Kd.R_drewN | apply Kd.R_drew));exact HO522.out) hb)
      have n5_:=Aside0.mk (Kd.R_below (by (with_reducible repeat (first | apply Kd.R_alloc | apply Kd.R_drewN | apply Kd.R_drew));exact HO528.out) hb)
      have n6_:=Aside0.mk (blk_below (g:=gb498) (o:=.cells #[.int .i64 a1_0,.int .i64 a1_1,.slice A1_2 l1_2.length c1_2] 33 (0,0)) (by (with_reducible repeat (first | refine blk_drewN ?_ _ | refine blk_drew ?_ | refine blk_alloc ?_ _));exact BK498.out) hb)
      have n7_:=Aside0.mk (blk_below (g:=gb518) (o:=.cells #[.int .i64 t513,.int .i64 t514,.slice Ao87 t515.length co87] 25 (0,0)) (by (with_reducible repeat (first | refine blk_drewN ?_ _ | refine blk_drew ?_ | refine blk_alloc ?_ _));exact BK518.out) hb)
      have n8_:=Aside0.mk (below_step (by repeat (first | (with_reducible first | exact HB.out | apply below_alloc | apply pw_below_drewN | apply below_drew1 | refine below_set ?_ GE498.out | refine below_set ?_ GE518.out) | exact HB.out)) hb)
      clear HO503
      clear HO508
      clear HO512
      clear HO517
      clear HO522
      clear HO528
      clear BK498
      clear BK518
      clear HB
      have HO503:=n0_
      have HO508:=n1_
      have HO512:=n2_
      have HO517:=n3_
      have HO522:=n4_
      have HO528:=n5_
      have BK498:=n6_
      have BK518:=n7_
      have HB:=n8_
      clear n0_ n1_ n2_ n3_ n4_ n5_ n6_ n7_ n8_
      (try clear hb)
      (try clear hb2)
      (try clear hk)
      (try clear hi)
      refine hK.out _ _ ⟨(blk_cell BK518.out 0).trans rfl,(blk_cell BK518.out 1).trans rfl,(blk_cell BK518.out 2).trans rfl,(blk_cell BK498.out 0).trans rfl,(blk_cell BK498.out 1).trans rfl,(blk_cell BK498.out 2).trans rfl⟩ (fun hHeld=>?_)
      clear hK K
      refine norm_ (a':=?_) ?_ ?_
      rotate_left
      ·show Act.put _ (some 43) _ = _
       simp only [Act.put,List.setIfInBounds_toArray,List.set_cons_zero,List.set_cons_succ,i64_w,i32_w]
       rfl
      refine pure_ (i:=4) (N:=some 44) (v:=?_) (a':=?_) #[true,true,true,true,true] rfl rfl (by kernel_rfl) (fun _ _ _ h=>h) (Or.inl ⟨by rfl,?_⟩) ?_ ?_
      rotate_left;·intro w';go_simp;with_reducible rfl
      rotate_left;·simp only [Act.put,List.setIfInBounds_toArray,List.set_cons_zero,List.set_cons_succ,i64_w,i32_w];rfl
      refine done_ (by kernel_rfl) ?_
      try go_wp2
      go_ret
      exact ⟨by first | rfl | (simp [errW_none,errW_some] <;> rfl) | (simp [*,errW_none,errW_some] <;> rfl),by repeat (first | (with_reducible first | exact HB.out | apply below_alloc | apply pw_below_drewN | apply below_drew1 | refine below_set ?_ GE498.out | refine below_set ?_ GE518.out) | exact HB.out)⟩
    ·replace c41:=Bool.eq_false_iff.mpr c41
     subst c41
     have H1:(some false) = some r:=by rw [if_neg (show ¬ (false = true) by decide)] at H;exact H
     clear H
     have H:=H1
     clear H1
     obtain rfl:=Option.some.inj H
     go_enter Tryd.func8,Tryd.ntmps8
     try go_wp2_with (first | ((with_reducible refine gate_dst (N:=3) rfl ?_);refine box_event ?hg (N:=3) ?hd (cs:=#[.int .i64 a1_0,.int .i64 a1_1,.slice A1_2 l1_2.length c1_2]) (t:=33) ?hr ?_;(case hd=>rfl);(case hg=>rfl);(case hr=>first | (go_simp;done) | (go_simp;rfl));intro gb498 hg w97 hbox hb;have n0_:=Aside0.mk (below_step (by repeat (first | (with_reducible first | exact HB.out | apply below_alloc | apply pw_below_drewN | apply below_drew1) | exact HB.out)) hb);have n1_:=Aside0.mk (hbox);have n2_:=Aside0.mk ((by rw [hg];exact (below_size (by repeat (first | (with_reducible first | exact HB.out | apply below_alloc | apply pw_below_drewN | apply below_drew1) | exact HB.out))):w.heap.size ≤ gb498));have n3_:=Aside0.mk ((by rw [hg];exact (below_size (by repeat (first | (with_reducible first | exact HB.out | apply below_alloc | apply pw_below_drewN | apply below_drew1) | exact HB.out))):w.heap.size ≤ gb498));clear HB;have HB:=n0_;have BK498:=n1_;have GW498:=n2_;have GE498:=n3_;clear n0_ n1_ n2_ n3_;clear hb hbox hg) | ((with_reducible refine gate_callee (f:=25) rfl ?_);refine goesL_ (some 12) rfl rfl Tryd.func25 (by kernel_rfl) rfl #[.slice A0 l0.length c0,.int .i64 1048576] rfl (by (try simp only [List.map_toArray,List.map_cons,List.map_nil]);first | done | rfl | (simp only [List.length_drop,List.length_take];rfl)) ?_;(with_reducible refine (laws_szSealS.calls k _ _ l0 1048576 t499 _ ?side1 ?side2 A3.out).mono ?_);(case side1=>repeat (first | exact (Kd.C_below HR0.out HB.out) | (with_reducible refine Kd.C_alloc ?_ _) | (with_reducible refine Kd.C_drewN ?_ _) | (with_reducible refine Kd.C_drew ?_)));(case side2=>exact HC0.out);rintro e w98 ⟨rfl,hb⟩;refine ⟨_,rfl,?_⟩;have n0_:=Aside0.mk (blk_below (g:=gb498) (o:=.cells #[.int .i64 a1_0,.int .i64 a1_1,.slice A1_2 l1_2.length c1_2] 33 (0,0)) (by (with_reducible repeat (first | refine blk_drewN ?_ _ | refine blk_drew ?_ | refine blk_alloc ?_ _));exact BK498.out) hb);have n1_:=Aside0.mk (below_step (by repeat (first | (with_reducible first | exact HB.out | apply below_alloc | apply pw_below_drewN | apply below_drew1 | refine below_set ?_ GE498.out) | exact HB.out)) hb);clear BK498;clear HB;have BK498:=n0_;have HB:=n1_;clear n0_ n1_;(try clear hb);(try clear hb2);(try clear hk);(try clear hi);have hcz99_0:w98.cell? ⟨gb498,0,none⟩ = some (.int .i64 a1_0):=(blk_cell BK498.out 0).trans rfl;have hcz99_1:w98.cell? ⟨gb498,1,none⟩ = some (.int .i64 a1_1):=(blk_cell BK498.out 1).trans rfl;have hcz99_2:w98.cell? ⟨gb498,2,none⟩ = some (.slice A1_2 l1_2.length c1_2):=(blk_cell BK498.out 2).trans rfl;have hfz99_0:=blk_frozen BK498.out 0;have hfz99_1:=blk_frozen BK498.out 1;have hfz99_2:=blk_frozen BK498.out 2) | ((with_reducible refine gate_callee (f:=20) rfl ?_);refine goesL_ (some 17) rfl rfl Tryd.func20 (by kernel_rfl) rfl #[.agg #[.int .i64 a1_0,.int .i64 a1_1,.slice A1_2 l1_2.length c1_2],.int .i64 t499] rfl (by (try simp only [List.map_toArray,List.map_cons,List.map_nil]);first | done | rfl | (simp only [List.length_drop,List.length_take];rfl)) ?_;(with_reducible refine (laws_szSeal.calls k a1_0 a1_1 _ _ l1_2 t499 t500 _ ?side1 ?side2 A7.out).mono ?_);(case side1=>repeat (first | exact (Kd.C_below HR1_2.out HB.out) | (with_reducible refine Kd.C_alloc ?_ _) | (with_reducible refine Kd.C_drewN ?_ _) | (with_reducible refine Kd.C_drew ?_)));(case side2=>exact HC1_2.out);rintro e w100 ⟨rfl,hb⟩;refine ⟨_,rfl,?_⟩;have n0_:=Aside0.mk (blk_below (g:=gb498) (o:=.cells #[.int .i64 a1_0,.int .i64 a1_1,.slice A1_2 l1_2.length c1_2] 33 (0,0)) (by (with_reducible repeat (first | refine blk_drewN ?_ _ | refine blk_drew ?_ | refine blk_alloc ?_ _));exact BK498.out) hb);have n1_:=Aside0.mk (below_step (by repeat (first | (with_reducible first | exact HB.out | apply below_alloc | apply pw_below_drewN | apply below_drew1 | refine below_set ?_ GE498.out) | exact HB.out)) hb);clear BK498;clear HB;have BK498:=n0_;have HB:=n1_;clear n0_ n1_;(try clear hb);(try clear hb2);(try clear hk);(try clear hi)))
     have n0_:=Aside0.mk (blk_drew BK498.out)
     have n1_:=Aside0.mk (below_drew1 HB.out)
     clear BK498
     clear HB
     have BK498:=n0_
     have HB:=n1_
     clear n0_ n1_
     refine start_ (n:=6) (S:=fun w'=>w'.cell? ⟨gb498,0,none⟩ = some (.int .i64 a1_0)∧w'.cell? ⟨gb498,1,none⟩ = some (.int .i64 a1_1)∧w'.cell? ⟨gb498,2,none⟩ = some (.slice A1_2 l1_2.length c1_2)) (ds:=[]) #[false,false,false,false,false,false] (by kernel_rfl) rfl rfl ⟨(blk_cell BK498.out 0).trans rfl,(blk_cell BK498.out 1).trans rfl,(blk_cell BK498.out 2).trans rfl⟩ (fun hHeld=>?_)
     generalize w100.drew = w101 at BK498 HB hHeld ⊢
     refine pure_ (i:=0) (N:=some 20) (v:=?_) (a':=?_) #[true,false,false,false,false,false] rfl rfl (by kernel_rfl) (fun _ _ _ h=>h) (Or.inl ⟨by rfl,?_⟩) ?_ ?_
     rotate_left;·intro w';go_simp;with_reducible rfl
     rotate_left;·simp only [Act.put,List.setIfInBounds_toArray,List.set_cons_zero,List.set_cons_succ,i64_w,i32_w];rfl
     refine take_ (i:=2) (N:=some 22) (v:=?_) (a':=?_) #[true,false,true,false,false,false] rfl rfl (by kernel_rfl) (fun _ _ _ h=>h) (Or.inl ⟨by rfl,?_⟩) hHeld ?_ ?_
     rotate_left;·rintro w' ⟨s0,s1,s2⟩;go_simp;with_reducible rfl
     rotate_left;·simp only [Act.put,List.setIfInBounds_toArray,List.set_cons_zero,List.set_cons_succ,i64_w,i32_w];rfl
     refine one_ (i:=1) (N:=some 21) #[true,true,true,false,false,false] rfl rfl (by kernel_rfl) (by decide) (fun K hK=>?_)
     refine goes_ Tryd.func27 (by kernel_rfl) rfl #[.slice A0 l0.length c0] (by rfl) rfl rfl (by (try simp only [List.map_toArray,List.map_cons,List.map_nil]);first | done | rfl | (simp only [List.length_drop,List.length_take];rfl)) ?_
     with_reducible refine (laws_toSealS.calls k _ _ l0 t501 _ ?side1 ?side2 A13.out).mono ?_
     (case side1=>repeat (first | exact (Kd.C_below HR0.out HB.out) | (with_reducible refine Kd.C_alloc ?_ _) | (with_reducible refine Kd.C_drewN ?_ _) | (with_reducible refine Kd.C_drew ?_)))
     (case side2=>exact HC0.out)
     rintro e w102 ⟨v502,rfl,ho0,hb⟩
     refine ⟨_,rfl,?_⟩
     have n0_:=Aside0.mk (Kd.R_lower ho0 (below_size (by repeat (first | (with_reducible first | exact HB.out | apply below_alloc | apply pw_below_drewN | apply below_drew1 | refine below_set ?_ GE498.out) | exact HB.out))))
     have n1_:=Aside0.mk (blk_below (g:=gb498) (o:=.cells #[.int .i64 a1_0,.int .i64 a1_1,.slice A1_2 l1_2.length c1_2] 33 (0,0)) (by (with_reducible repeat (first | refine blk_drewN ?_ _ | refine blk_drew ?_ | refine blk_alloc ?_ _));exact BK498.out) hb)
     have n2_:=Aside0.mk (below_step (by repeat (first | (with_reducible first | exact HB.out | apply below_alloc | apply pw_below_drewN | apply below_drew1 | refine below_set ?_ GE498.out) | exact HB.out)) hb)
     clear BK498
     clear HB
     have HO503:=n0_
     have BK498:=n1_
     have HB:=n2_
     clear n0_ n1_ n2_
     (try clear hb)
     (try clear hb2)
     (try clear hk)
     (try clear hi)
     (try clear ho0)
     refine hK.out _ _ ⟨(blk_cell BK498.out 0).trans rfl,(blk_cell BK498.out 1).trans rfl,(blk_cell BK498.out 2).trans rfl⟩ (fun hHeld=>?_)
     clear hK K
     refine norm_ (a':=?_) ?_ ?_
     rotate_left
     ·show Act.put _ (some 21) _ = _
      simp only [Act.put,List.setIfInBounds_toArray,List.set_cons_zero,List.set_cons_succ,i64_w,i32_w]
      rfl
     refine one_ (i:=3) (N:=some 23) #[true,true,true,true,false,false] rfl rfl (by kernel_rfl) (by decide) (fun K hK=>?_)
     refine goes_ Tryd.func21 (by kernel_rfl) rfl #[.agg #[.int .i64 a1_0,.int .i64 a1_1,.slice A1_2 l1_2.length c1_2]] (by rfl) rfl rfl (by (try simp only [List.map_toArray,List.map_cons,List.map_nil]);first | done | rfl | (simp only [List.length_drop,List.length_take];rfl)) ?_
     with_reducible refine (laws_toSeal.calls k a1_0 a1_1 _ _ l1_2 t504 t505 t506 _ ?side1 ?side2 A14.out).mono ?_
     (case side1=>repeat (first | exact (Kd.C_below HR1_2.out HB.out) | (with_reducible refine Kd.C_alloc ?_ _) | (with_reducible refine Kd.C_drewN ?_ _) | (with_reducible refine Kd.C_drew ?_)))
     (case side2=>exact HC1_2.out)
     rintro e w103 ⟨v507,rfl,ho0,hb⟩
     refine ⟨_,rfl,?_⟩
     have n0_:=Aside0.mk (Kd.R_elder' (by (with_reducible repeat (first | apply Kd.R_alloc | apply Kd.R_drewN | apply Kd.R_drew));exact HO503.out) (Kd.R_base ho0) hb)
     have n1_:=Aside0.mk (Kd.R_lower (Kd.R_new' ho0 (Kd.R_lt (by (with_reducible repeat (first | apply Kd.R_alloc | apply Kd.R_drewN | apply Kd.R_drew));exact HO503.out))) (below_size (by repeat (first | (with_reducible first | exact HB.out | apply below_alloc | apply pw_below_drewN | apply below_drew1 | refine below_set ?_ GE498.out) | exact HB.out))))
     have n2_:=Aside0.mk (blk_below (g:=gb498) (o:=.cells #[.int .i64 a1_0,.int .i64 a1_1,.slice A1_2 l1_2.length c1_2] 33 (0,0)) (by (with_reducible repeat (first | refine blk_drewN ?_ _ | refine blk_drew ?_ | refine blk_alloc ?_ _));exact BK498.out) hb)
     have n3_:=Aside0.mk (below_step (by repeat (first | (with_reducible first | exact HB.out | apply below_alloc | apply pw_below_drewN | apply below_drew1 | refine below_set ?_ GE498.out) | exact HB.out)) hb)
     clear HO503
     clear BK498
     clear HB
     have HO503:=n0_
     have HO508:=n1_
     have BK498:=n2_
     have HB:=n3_
     clear n0_ n1_ n2_ n3_
     (try clear hb)
     (try clear hb2)
     (try clear hk)
     (try clear hi)
     (try clear ho0)
     obtain ⟨Ao104,co104,eo104⟩:=Kd.R_slice HO503.out
     (first | subst eo104 | (injection eo104 with f1_ f2_ f3_;have f4_:=f1_.symm;have f5_:=f3_.symm;clear f1_ f2_ f3_;subst f4_;subst f5_))
     obtain ⟨Ao105,co105,eo105⟩:=Kd.R_slice HO508.out
     (first | subst eo105 | (injection eo105 with f1_ f2_ f3_;have f4_:=f1_.symm;have f5_:=f3_.symm;clear f1_ f2_ f3_;subst f4_;subst f5_))
     refine hK.out _ _ ⟨(blk_cell BK498.out 0).trans rfl,(blk_cell BK498.out 1).trans rfl,(blk_cell BK498.out 2).trans rfl⟩ (fun hHeld=>?_)
     clear hK K
     refine norm_ (a':=?_) ?_ ?_
     rotate_left
     ·show Act.put _ (some 23) _ = _
      simp only [Act.put,List.setIfInBounds_toArray,List.set_cons_zero,List.set_cons_succ,i64_w,i32_w]
      rfl
     refine one_ (i:=4) (N:=some 24) #[true,true,true,true,true,false] rfl rfl (by kernel_rfl) (by decide) (fun K hK=>?_)
     refine goes_ Tryd.func26 (by kernel_rfl) rfl #[.slice Ao104 t501.length co104,.agg #[.int .i64 t504,.int .i64 t505,.slice Ao105 t506.length co105]] (by rfl) rfl rfl (by (try simp only [List.map_toArray,List.map_cons,List.map_nil]);first | done | rfl | (simp only [List.length_drop,List.length_take];rfl)) ?_
     with_reducible refine (spec_SealMade.calls k _ _ t501 t504 t505 _ _ t506 t509 _ ?side1 ?side2 ?side3 ?side4 A15.out).mono ?_
     (case side1=>repeat (first | exact (Kd.R_reads' HO503.out).2.2 | (with_reducible refine Kd.C_alloc ?_ _) | (with_reducible refine Kd.C_drewN ?_ _) | (with_reducible refine Kd.C_drew ?_)))
     (case side2=>exact (Kd.R_reads' HO503.out).2.1)
     (case side3=>repeat (first | exact (Kd.R_reads' HO508.out).2.2 | (with_reducible refine Kd.C_alloc ?_ _) | (with_reducible refine Kd.C_drewN ?_ _) | (with_reducible refine Kd.C_drew ?_)))
     (case side4=>exact (Kd.R_reads' HO508.out).2.1)
     rintro e w106 ⟨rfl,hb⟩
     refine ⟨_,rfl,?_⟩
     have n0_:=Aside0.mk (Kd.R_below (by (with_reducible repeat (first | apply Kd.R_alloc | apply Kd.R_drewN | apply Kd.R_drew));exact HO503.out) hb)
     have n1_:=Aside0.mk (Kd.R_below (by (with_reducible repeat (first | apply Kd.R_alloc | apply Kd.R_drewN | apply Kd.R_drew));exact HO508.out) hb)
     have n2_:=Aside0.mk (blk_below (g:=gb498) (o:=.cells #[.int .i64 a1_0,.int .i64 a1_1,.slice A1_2 l1_2.length c1_2] 33 (0,0)) (by (with_reducible repeat (first | refine blk_drewN ?_ _ | refine blk_drew ?_ | refine blk_alloc ?_ _));exact BK498.out) hb)
     have n3_:=Aside0.mk (below_step (by repeat (first | (with_reducible first | exact HB.out | apply below_alloc | apply pw_below_drewN | apply below_drew1 | refine below_set ?_ GE498.out) | exact HB.out)) hb)
     clear HO503
     clear HO508
     clear BK498
     clear HB
     have HO503:=n0_
     have HO508:=n1_
     have BK498:=n2_
     have HB:=n3_
     clear n0_ n1_ n2_ n3_
     (try clear hb)
     (try clear hb2)
     (try clear hk)
     (try clear hi)
     refine hK.out _ _ ⟨(blk_cell BK498.out 0).trans rfl,(blk_cell BK498.out 1).trans rfl,(blk_cell BK498.out 2).trans rfl⟩ (fun hHeld=>?_)
     clear hK K
     refine norm_ (a':=?_) ?_ ?_
     rotate_left
     ·show Act.put _ (some 24) _ = _
      simp only [Act.put,List.setIfInBounds_toArray,List.set_cons_zero,List.set_cons_succ,i64_w,i32_w]
      rfl
     refine pure_ (i:=5) (N:=some 6) (v:=?_) (a':=?_) #[true,true,true,true,true,true] rfl rfl (by kernel_rfl) (fun _ _ _ h=>h) (Or.inl ⟨by rfl,?_⟩) ?_ ?_
     rotate_left;·intro w';go_simp;with_reducible rfl
     rotate_left;·simp only [Act.put,List.setIfInBounds_toArray,List.set_cons_zero,List.set_cons_succ,i64_w,i32_w];rfl
     refine done_ (by kernel_rfl) ?_
     try go_wp2_with (first | ((with_reducible refine gate_callee (f:=27) rfl ?_);refine goesL_ (some 26) rfl rfl Tryd.func27 (by kernel_rfl) rfl #[.slice A0 l0.length c0] rfl (by (try simp only [List.map_toArray,List.map_cons,List.map_nil]);first | done | rfl | (simp only [List.length_drop,List.length_take];rfl)) ?_;(with_reducible refine (laws_toSealS.calls k _ _ l0 t510 _ ?side1 ?side2 A16.out).mono ?_);(case side1=>repeat (first | exact (Kd.C_below HR0.out HB.out) | (with_reducible refine Kd.C_alloc ?_ _) | (with_reducible refine Kd.C_drewN ?_ _) | (with_reducible refine Kd.C_drew ?_)));(case side2=>exact HC0.out);rintro e w107 ⟨v511,rfl,ho0,hb⟩;refine ⟨_,rfl,?_⟩;have n0_:=Aside0.mk (Kd.R_elder' (by (with_reducible repeat (first | apply Kd.R_alloc | apply Kd.R_drewN | apply Kd.R_drew));exact HO503.out) (Kd.R_base ho0) hb);have n1_:=Aside0.mk (Kd.R_elder' (by (with_reducible repeat (first | apply Kd.R_alloc | apply Kd.R_drewN | apply Kd.R_drew));exact HO508.out) (Kd.R_base ho0) hb);have n2_:=Aside0.mk (Kd.R_lower (Kd.R_new' (Kd.R_new' ho0 (Kd.R_lt (by (with_reducible repeat (first | apply Kd.R_alloc | apply Kd.R_drewN | apply Kd.R_drew));exact HO503.out))) (Kd.R_lt (by (with_reducible repeat (first | apply Kd.R_alloc | apply Kd.R_drewN | apply Kd.R_drew));exact HO508.out))) (below_size (by repeat (first | (with_reducible first | exact HB.out | apply below_alloc | apply pw_below_drewN | apply below_drew1 | refine below_set ?_ GE498.out) | exact HB.out))));have n3_:=Aside0.mk (blk_below (g:=gb498) (o:=.cells #[.int .i64 a1_0,.int .i64 a1_1,.slice A1_2 l1_2.length c1_2] 33 (0,0)) (by (with_reducible repeat (first | refine blk_drewN ?_ _ | refine blk_drew ?_ | refine blk_alloc ?_ _));exact BK498.out) hb);have n4_:=Aside0.mk (below_step (by repeat (first | (with_reducible first | exact HB.out | apply below_alloc | apply pw_below_drewN | apply below_drew1 | refine below_set ?_ GE498.out) | exact HB.out)) hb);clear HO503;clear HO508;clear BK498;clear HB;have HO503:=n0_;have HO508:=n1_;have HO512:=n2_;have BK498:=n3_;have HB:=n4_;clear n0_ n1_ n2_ n3_ n4_;(try clear hb);(try clear hb2);(try clear hk);(try clear hi);(try clear ho0);have hcz108_0:w107.cell? ⟨gb498,0,none⟩ = some (.int .i64 a1_0):=(blk_cell BK498.out 0).trans rfl;have hcz108_1:w107.cell? ⟨gb498,1,none⟩ = some (.int .i64 a1_1):=(blk_cell BK498.out 1).trans rfl;have hcz108_2:w107.cell? ⟨gb498,2,none⟩ = some (.slice A1_2 l1_2.length c1_2):=(blk_cell BK498.out 2).trans rfl;have hfz108_0:=blk_frozen BK498.out 0;have hfz108_1:=blk_frozen BK498.out 1;have hfz108_2:=blk_frozen BK498.out 2) | ((with_reducible refine gate_callee (f:=21) rfl ?_);refine goesL_ (some 28) rfl rfl Tryd.func21 (by kernel_rfl) rfl #[.agg #[.int .i64 a1_0,.int .i64 a1_1,.slice A1_2 l1_2.length c1_2]] rfl (by (try simp only [List.map_toArray,List.map_cons,List.map_nil]);first | done | rfl | (simp only [List.length_drop,List.length_take];rfl)) ?_;(with_reducible refine (laws_toSeal.calls k a1_0 a1_1 _ _ l1_2 t513 t514 t515 _ ?side1 ?side2 A17.out).mono ?_);(case side1=>repeat (first | exact (Kd.C_below HR1_2.out HB.out) | (with_reducible refine Kd.C_alloc ?_ _) | (with_reducible refine Kd.C_drewN ?_ _) | (with_reducible refine Kd.C_drew ?_)));(case side2=>exact HC1_2.out);rintro e w109 ⟨v516,rfl,ho0,hb⟩;refine ⟨_,rfl,?_⟩;have n0_:=Aside0.mk (Kd.R_elder' (by (with_reducible repeat (first | apply Kd.R_alloc | apply Kd.R_drewN | apply Kd.R_drew));exact HO503.out) (Kd.R_base ho0) hb);have n1_:=Aside0.mk (Kd.R_elder' (by (with_reducible repeat (first | apply Kd.R_alloc | apply Kd.R_drewN | apply Kd.R_drew));exact HO508.out) (Kd.R_base ho0) hb);have n2_:=Aside0.mk (Kd.R_elder' (by (with_reducible repeat (first | apply Kd.R_alloc | apply Kd.R_drewN | apply Kd.R_drew));exact HO512.out) (Kd.R_base ho0) hb);have n3_:=Aside0.mk (Kd.R_lower (Kd.R_new' (Kd.R_new' (Kd.R_new' ho0 (Kd.R_lt (by (with_reducible repeat (first | apply Kd.R_alloc | apply Kd.R_drewN | apply Kd.R_drew));exact HO503.out))) (Kd.R_lt (by (with_reducible repeat (first | apply Kd.R_alloc | apply Kd.R_drewN | apply Kd.R_drew));exact HO508.out))) (Kd.R_lt (by (with_reducible repeat (first | apply Kd.R_alloc | apply Kd.R_drewN | apply Kd.R_drew));exact HO512.out))) (below_size (by repeat (first | (with_reducible first | exact HB.out | apply below_alloc | apply pw_below_drewN | apply below_drew1 | refine below_set ?_ GE498.out) | exact HB.out))));have n4_:=Aside0.mk (blk_below (g:=gb498) (o:=.cells #[.int .i64 a1_0,.int .i64 a1_1,.slice A1_2 l1_2.length c1_2] 33 (0,0)) (by (with_reducible repeat (first | refine blk_drewN ?_ _ | refine blk_drew ?_ | refine blk_alloc ?_ _));exact BK498.out) hb);have n5_:=Aside0.mk (below_step (by repeat (first | (with_reducible first | exact HB.out | apply below_alloc | apply pw_below_drewN | apply below_drew1 | refine below_set ?_ GE498.out) | exact HB.out)) hb);clear HO503;clear HO508;clear HO512;clear BK498;clear HB;have HO503:=n0_;have HO508:=n1_;have HO512:=n2_;have HO517:=n3_;have BK498:=n4_;have HB:=n5_;clear n0_ n1_ n2_ n3_ n4_ n5_;(try clear hb);(try clear hb2);(try clear hk);(try clear hi);(try clear ho0)) | ((with_reducible refine gate_dst (N:=8) rfl ?_);refine box_event ?hg (N:=8) ?hd (cs:=#[.int .i64 0,.int .i64 0,.slice none 0 0]) (t:=25) ?hr ?_;(case hd=>rfl);(case hg=>rfl);(case hr=>first | (go_simp;done) | (go_simp;rfl));intro gb518 hg w110 hbox hb;have n0_:=Aside0.mk (Kd.R_below (Kd.R_elderB (by (with_reducible repeat (first | apply Kd.R_alloc | apply Kd.R_drewN | apply Kd.R_drew));exact HO503.out) gb518 (Nat.le_of_eq hg.symm)) hb);have n1_:=Aside0.mk (Kd.R_below (Kd.R_elderB (by (with_reducible repeat (first | apply Kd.R_alloc | apply Kd.R_drewN | apply Kd.R_drew));exact HO508.out) gb518 (Nat.le_of_eq hg.symm)) hb);have n2_:=Aside0.mk (Kd.R_below (Kd.R_elderB (by (with_reducible repeat (first | apply Kd.R_alloc | apply Kd.R_drewN | apply Kd.R_drew));exact HO512.out) gb518 (Nat.le_of_eq hg.symm)) hb);have n3_:=Aside0.mk (Kd.R_below (Kd.R_elderB (by (with_reducible repeat (first | apply Kd.R_alloc | apply Kd.R_drewN | apply Kd.R_drew));exact HO517.out) gb518 (Nat.le_of_eq hg.symm)) hb);have n4_:=Aside0.mk (blk_below (g:=gb498) (o:=.cells #[.int .i64 a1_0,.int .i64 a1_1,.slice A1_2 l1_2.length c1_2] 33 (0,0)) (by (with_reducible repeat (first | refine blk_drewN ?_ _ | refine blk_drew ?_ | refine blk_alloc ?_ _));exact BK498.out) hb);have n5_:=Aside0.mk (below_step (by repeat (first | (with_reducible first | exact HB.out | apply below_alloc | apply pw_below_drewN | apply below_drew1 | refine below_set ?_ GE498.out) | exact HB.out)) hb);have n6_:=Aside0.mk (hbox);have n7_:=Aside0.mk ((by rw [hg];exact (below_size (by repeat (first | (with_reducible first | exact HB.out | apply below_alloc | apply pw_below_drewN | apply below_drew1 | refine below_set ?_ GE498.out) | exact HB.out))):w.heap.size ≤ gb518));have n8_:=Aside0.mk ((by rw [hg];exact (below_size (by repeat (first | (with_reducible first | exact HB.out | apply below_alloc | apply pw_below_drewN | apply below_drew1 | refine below_set ?_ GE498.out) | exact HB.out))):w.heap.size ≤ gb518));have n9_:=Aside0.mk ((by rw [hg];exact Nat.ne_of_lt (blk_lt (g:=gb498) (o:=.cells #[.int .i64 a1_0,.int .i64 a1_1,.slice A1_2 l1_2.length c1_2] 33 (0,0)) (by (with_reducible repeat (first | refine blk_drewN ?_ _ | refine blk_drew ?_ | refine blk_alloc ?_ _));exact BK498.out)):gb498 ≠ gb518));have n10_:=Aside0.mk ((by rw [hg];exact Nat.ne_of_gt (blk_lt (g:=gb498) (o:=.cells #[.int .i64 a1_0,.int .i64 a1_1,.slice A1_2 l1_2.length c1_2] 33 (0,0)) (by (with_reducible repeat (first | refine blk_drewN ?_ _ | refine blk_drew ?_ | refine blk_alloc ?_ _));exact BK498.out)):gb518 ≠ gb498));clear HO503;clear HO508;clear HO512;clear HO517;clear BK498;clear HB;have HO503:=n0_;have HO508:=n1_;have HO512:=n2_;have HO517:=n3_;have BK498:=n4_;have HB:=n5_;have BK518:=n6_;have GW518:=n7_;have GE518:=n8_;have NB498_518:=n9_;have NB518_498:=n10_;clear n0_ n1_ n2_ n3_ n4_ n5_ n6_ n7_ n8_ n9_ n10_;clear hb hbox hg;have hnb111:=NB518_498.out;have hnc111:=NB498_518.out;have hcz112_0:w110.cell? ⟨gb518,0,none⟩ = some (.int .i64 0):=(blk_cell BK518.out 0).trans rfl;have hcz112_1:w110.cell? ⟨gb518,1,none⟩ = some (.int .i64 0):=(blk_cell BK518.out 1).trans rfl;have hcz112_2:w110.cell? ⟨gb518,2,none⟩ = some (.slice none 0 0):=(blk_cell BK518.out 2).trans rfl;have hfz112_0:=blk_frozen BK518.out 0;have hfz112_1:=blk_frozen BK518.out 1;have hfz112_2:=blk_frozen BK518.out 2;obtain ⟨Ao113,co113,eo113⟩:=Kd.R_slice HO517.out;subst eo113;obtain ⟨Ao114,co114,eo114⟩:=Kd.R_slice HO512.out;subst eo114) | ((with_reducible refine gate_callee (f:=28) rfl ?_);refine goesL_ (some 31) rfl rfl Tryd.func28 (by kernel_rfl) rfl #[.slice Ao114 t510.length co114,.agg #[.int .i64 t513,.int .i64 t514,.slice Ao113 t515.length co113]] rfl (by (try simp only [List.map_toArray,List.map_cons,List.map_nil]);first | done | rfl | (simp only [List.length_drop,List.length_take];rfl)) ?_;(with_reducible refine (impl_SealMade.calls _ _ t510 t513 t514 _ _ t515 t519 _ ?side1 ?side2 ?side3 ?side4 A18.out).mono ?_);(case side1=>refine (Kd.R_reads' (e:=25) (base:=w.heap.size) (ok:=fun k_=>((((True∧some k_ ≠ (.slice Ao104 t501.length co104:Value).ownBlock)∧some k_ ≠ (.slice Ao105 t506.length co105:Value).ownBlock)∧some k_ ≠ (.slice Ao113 t515.length co113:Value).ownBlock)∧k_ ≠ gb518)) (n:=t510.length) (c:=co114) ?_).2.2;exact (by (with_reducible repeat (first | apply Kd.R_alloc | apply Kd.R_drewN | apply Kd.R_drew));exact (Kd.R_mono (Kd.R_far (p:=⟨gb518,2,none⟩) (Kd.R_far (p:=⟨gb518,1,none⟩) (Kd.R_far (p:=⟨gb518,0,none⟩) (Kd.R_mono HO512.out (fun k_ hk=>(⟨hk,hk.2⟩:_∧k_ ≠ gb518))) (fun _ hk=>hk.2) (.int .i64 t513)) (fun _ hk=>hk.2) (.int .i64 t514)) (fun _ hk=>hk.2) (.slice Ao113 t515.length co113)) (fun _ h_=>h_.1))));(case side2=>exact (Kd.R_reads' HO512.out).2.1);(case side3=>refine (Kd.R_reads' (e:=25) (base:=w.heap.size) (ok:=fun k_=>((((True∧some k_ ≠ (.slice Ao104 t501.length co104:Value).ownBlock)∧some k_ ≠ (.slice Ao105 t506.length co105:Value).ownBlock)∧some k_ ≠ (.slice Ao114 t510.length co114:Value).ownBlock)∧k_ ≠ gb518)) (n:=t515.length) (c:=co113) ?_).2.2;exact (by (with_reducible repeat (first | apply Kd.R_alloc | apply Kd.R_drewN | apply Kd.R_drew));exact (Kd.R_mono (Kd.R_far (p:=⟨gb518,2,none⟩) (Kd.R_far (p:=⟨gb518,1,none⟩) (Kd.R_far (p:=⟨gb518,0,none⟩) (Kd.R_mono HO517.out (fun k_ hk=>(⟨hk,hk.2⟩:_∧k_ ≠ gb518))) (fun _ hk=>hk.2) (.int .i64 t513)) (fun _ hk=>hk.2) (.int .i64 t514)) (fun _ hk=>hk.2) (.slice Ao113 t515.length co113)) (fun _ h_=>h_.1))));(case side4=>exact (Kd.R_reads' HO517.out).2.1);rintro e w115 ⟨rfl,hb⟩;refine ⟨_,rfl,?_⟩;have n0_:=Aside0.mk (Kd.R_below (by (with_reducible repeat (first | apply Kd.R_alloc | apply Kd.R_drewN | apply Kd.R_drew));exact (Kd.R_mono (Kd.R_far (p:=⟨gb518,2,none⟩) (Kd.R_far (p:=⟨gb518,1,none⟩) (Kd.R_far (p:=⟨gb518,0,none⟩) (Kd.R_mono HO503.out (fun k_ hk=>(⟨hk,hk.2⟩:_∧k_ ≠ gb518))) (fun _ hk=>hk.2) (.int .i64 t513)) (fun _ hk=>hk.2) (.int .i64 t514)) (fun _ hk=>hk.2) (.slice Ao113 t515.length co113)) (fun _ h_=>h_.1))) hb);have n1_:=Aside0.mk (Kd.R_below (by (with_reducible repeat (first | apply Kd.R_alloc | apply Kd.R_drewN | apply Kd.R_drew));exact (Kd.R_mono (Kd.R_far (p:=⟨gb518,2,none⟩) (Kd.R_far (p:=⟨gb518,1,none⟩) (Kd.R_far (p:=⟨gb518,0,none⟩) (Kd.R_mono HO508.out (fun k_ hk=>(⟨hk,hk.2⟩:_∧k_ ≠ gb518))) (fun _ hk=>hk.2) (.int .i64 t513)) (fun _ hk=>hk.2) (.int .i64 t514)) (fun _ hk=>hk.2) (.slice Ao113 t515.length co113)) (fun _ h_=>h_.1))) hb);have n2_:=Aside0.mk (Kd.R_below (by (with_reducible repeat (first | apply Kd.R_alloc | apply Kd.R_drewN | apply Kd.R_drew));exact (Kd.R_mono (Kd.R_far (p:=⟨gb518,2,none⟩) (Kd.R_far (p:=⟨gb518,1,none⟩) (Kd.R_far (p:=⟨gb518,0,none⟩) (Kd.R_mono HO512.out (fun k_ hk=>(⟨hk,hk.2⟩:_∧k_ ≠ gb518))) (fun _ hk=>hk.2) (.int .i64 t513)) (fun _ hk=>hk.2) (.int .i64 t514)) (fun _ hk=>hk.2) (.slice Ao113 t515.length co113)) (fun _ h_=>h_.1))) hb);have n3_:=Aside0.mk (Kd.R_below (by (with_reducible repeat (first | apply Kd.R_alloc | apply Kd.R_drewN | apply Kd.R_drew));exact (Kd.R_mono (Kd.R_far (p:=⟨gb518,2,none⟩) (Kd.R_far (p:=⟨gb518,1,none⟩) (Kd.R_far (p:=⟨gb518,0,none⟩) (Kd.R_mono HO517.out (fun k_ hk=>(⟨hk,hk.2⟩:_∧k_ ≠ gb518))) (fun _ hk=>hk.2) (.int .i64 t513)) (fun _ hk=>hk.2) (.int .i64 t514)) (fun _ hk=>hk.2) (.slice Ao113 t515.length co113)) (fun _ h_=>h_.1))) hb);have n4_:=Aside0.mk (blk_below (g:=gb498) (o:=.cells #[.int .i64 a1_0,.int .i64 a1_1,.slice A1_2 l1_2.length c1_2] 33 (0,0)) (by (with_reducible repeat (first | refine blk_drewN ?_ _ | refine blk_drew ?_ | refine blk_alloc ?_ _));refine blk_far ?_ NB498_518.out _;(with_reducible repeat (first | refine blk_drewN ?_ _ | refine blk_drew ?_ | refine blk_alloc ?_ _));refine blk_far ?_ NB498_518.out _;(with_reducible repeat (first | refine blk_drewN ?_ _ | refine blk_drew ?_ | refine blk_alloc ?_ _));refine blk_far ?_ NB498_518.out _;(with_reducible repeat (first | refine blk_drewN ?_ _ | refine blk_drew ?_ | refine blk_alloc ?_ _));exact BK498.out) hb);have n5_:=Aside0.mk (blk_below (g:=gb518) (o:=.cells #[.int .i64 t513,.int .i64 t514,.slice Ao113 t515.length co113] 25 (0,0)) (by (with_reducible repeat (first | refine blk_drewN ?_ _ | refine blk_drew ?_ | refine blk_alloc ?_ _));refine blk_put (cs:=#[.int .i64 t513,.int .i64 t514,.slice none 0 0]) ?_ 2 _ rfl;(with_reducible repeat (first | refine blk_drewN ?_ _ | refine blk_drew ?_ | refine blk_alloc ?_ _));refine blk_put (cs:=#[.int .i64 t513,.int .i64 0,.slice none 0 0]) ?_ 1 _ rfl;(with_reducible repeat (first | refine blk_drewN ?_ _ | refine blk_drew ?_ | refine blk_alloc ?_ _));refine blk_put (cs:=#[.int .i64 0,.int .i64 0,.slice none 0 0]) ?_ 0 _ rfl;(with_reducible repeat (first | refine blk_drewN ?_ _ | refine blk_drew ?_ | refine blk_alloc ?_ _));exact BK518.out) hb);have n6_:=Aside0.mk (below_step (by repeat (first | (with_reducible first | exact HB.out | apply below_alloc | apply pw_below_drewN | apply below_drew1 | refine below_set ?_ GE498.out | refine below_set ?_ GE518.out) | exact HB.out)) hb);clear HO503;clear HO508;clear HO512;clear HO517;clear BK498;clear BK518;clear HB;have HO503:=n0_;have HO508:=n1_;have HO512:=n2_;have HO517:=n3_;have BK498:=n4_;have BK518:=n5_;have HB:=n6_;clear n0_ n1_ n2_ n3_ n4_ n5_ n6_;(try clear hb);(try clear hb2);(try clear hk);(try clear hi)) | ((with_reducible refine gate_callee (f:=27) rfl ?_);refine goesL_ (some 37) rfl rfl Tryd.func27 (by kernel_rfl) rfl #[.slice A0 l0.length c0] rfl (by (try simp only [List.map_toArray,List.map_cons,List.map_nil]);first | done | rfl | (simp only [List.length_drop,List.length_take];rfl)) ?_;(with_reducible refine (laws_toSealS.calls k _ _ l0 t520 _ ?side1 ?side2 A39.out).mono ?_);(case side1=>repeat (first | exact (Kd.C_below HR0.out HB.out) | (with_reducible refine Kd.C_alloc ?_ _) | (with_reducible refine Kd.C_drewN ?_ _) | (with_reducible refine Kd.C_drew ?_)));(case side2=>exact HC0.out);rintro e w116 ⟨v521,rfl,ho0,hb⟩;refine ⟨_,rfl,?_⟩;have n0_:=Aside0.mk (Kd.R_elder' (by (with_reducible repeat (first | apply Kd.R_alloc | apply Kd.R_drewN | apply Kd.R_drew));exact HO503.out) (Kd.R_base ho0) hb);have n1_:=Aside0.mk (Kd.R_elder' (by (with_reducible repeat (first | apply Kd.R_alloc | apply Kd.R_drewN | apply Kd.R_drew));exact HO508.out) (Kd.R_base ho0) hb);have n2_:=Aside0.mk (Kd.R_elder' (by (with_reducible repeat (first | apply Kd.R_alloc | apply Kd.R_drewN | apply Kd.R_drew));exact HO512.out) (Kd.R_base ho0) hb);have n3_:=Aside0.mk (Kd.R_elder' (by (with_reducible repeat (first | apply Kd.R_alloc | apply Kd.R_drewN | apply Kd.R_drew));exact HO517.out) (Kd.R_base ho0) hb);have n4_:=Aside0.mk (Kd.R_lower (Kd.R_newB (Kd.R_new' (Kd.R_new' (Kd.R_new' (Kd.R_new' ho0 (Kd.R_lt (by (with_reducible repeat (first | apply Kd.R_alloc | apply Kd.R_drewN | apply Kd.R_drew));exact HO503.out))) (Kd.R_lt (by (with_reducible repeat (first | apply Kd.R_alloc | apply Kd.R_drewN | apply Kd.R_drew));exact HO508.out))) (Kd.R_lt (by (with_reducible repeat (first | apply Kd.R_alloc | apply Kd.R_drewN | apply Kd.R_drew));exact HO512.out))) (Kd.R_lt (by (with_reducible repeat (first | apply Kd.R_alloc | apply Kd.R_drewN | apply Kd.R_drew));exact HO517.out))) (g:=gb518) (o:=.cells #[.int .i64 t513,.int .i64 t514,.slice Ao113 t515.length co113] 25 (0,0)) (by (with_reducible repeat (first | refine blk_drewN ?_ _ | refine blk_drew ?_ | refine blk_alloc ?_ _));exact BK518.out)) (below_size (by repeat (first | (with_reducible first | exact HB.out | apply below_alloc | apply pw_below_drewN | apply below_drew1 | refine below_set ?_ GE498.out | refine below_set ?_ GE518.out) | exact HB.out))));have n5_:=Aside0.mk (blk_below (g:=gb498) (o:=.cells #[.int .i64 a1_0,.int .i64 a1_1,.slice A1_2 l1_2.length c1_2] 33 (0,0)) (by (with_reducible repeat (first | refine blk_drewN ?_ _ | refine blk_drew ?_ | refine blk_alloc ?_ _));exact BK498.out) hb);have n6_:=Aside0.mk (blk_below (g:=gb518) (o:=.cells #[.int .i64 t513,.int .i64 t514,.slice Ao113 t515.length co113] 25 (0,0)) (by (with_reducible repeat (first | refine blk_drewN ?_ _ | refine blk_drew ?_ | refine blk_alloc ?_ _));exact BK518.out) hb);have n7_:=Aside0.mk (below_step (by repeat (first | (with_reducible first | exact HB.out | apply below_alloc | apply pw_below_drewN | apply below_drew1 | refine below_set ?_ GE498.out | refine below_set ?_ GE518.out) | exact HB.out)) hb);clear HO503;clear HO508;clear HO512;clear HO517;clear BK498;clear BK518;clear HB;have HO503:=n0_;have HO508:=n1_;have HO512:=n2_;have HO517:=n3_;have HO522:=n4_;have BK498:=n5_;have BK518:=n6_;have HB:=n7_;clear n0_ n1_ n2_ n3_ n4_ n5_ n6_ n7_;(try clear hb);(try clear hb2);(try clear hk);(try clear hi);(try clear ho0);obtain ⟨Ao117,co117,eo117⟩:=Kd.R_slice HO522.out;subst eo117) | ((with_reducible refine gate_callee (f:=29) rfl ?_);refine goesL_ (some 38) rfl rfl Tryd.func29 (by kernel_rfl) rfl #[.slice Ao114 t510.length co114,.slice Ao117 t520.length co117] rfl (by (try simp only [List.map_toArray,List.map_cons,List.map_nil]);first | done | rfl | (simp only [List.length_drop,List.length_take];rfl)) ?_;(with_reducible refine (laws_eqSealS.calls k _ _ t510 _ _ t520 false _ ?side1 ?side2 ?side3 ?side4 A40.out).mono ?_);(case side1=>repeat (first | exact (Kd.R_reads' HO512.out).2.2 | (with_reducible refine Kd.C_alloc ?_ _) | (with_reducible refine Kd.C_drewN ?_ _) | (with_reducible refine Kd.C_drew ?_)));(case side2=>exact (Kd.R_reads' HO512.out).2.1);(case side3=>repeat (first | exact (Kd.R_reads' HO522.out).2.2 | (with_reducible refine Kd.C_alloc ?_ _) | (with_reducible refine Kd.C_drewN ?_ _) | (with_reducible refine Kd.C_drew ?_)));(case side4=>exact (Kd.R_reads' HO522.out).2.1);rintro e w118 ⟨rfl,hb⟩;refine ⟨_,rfl,?_⟩;have n0_:=Aside0.mk (Kd.R_below (by (with_reducible repeat (first | apply Kd.R_alloc | apply Kd.R_drewN | apply Kd.R_drew));exact HO503.out) hb);have n1_:=Aside0.mk (Kd.R_below (by (with_reducible repeat (first | apply Kd.R_alloc | apply Kd.R_drewN | apply Kd.R_drew));exact HO508.out) hb);have n2_:=Aside0.mk (Kd.R_below (by (with_reducible repeat (first | apply Kd.R_alloc | apply Kd.R_drewN | apply Kd.R_drew));exact HO512.out) hb);have n3_:=Aside0.mk (Kd.R_below (by (with_reducible repeat (first | apply Kd.R_alloc | apply Kd.R_drewN | apply Kd.R_drew));exact HO517.out) hb);have n4_:=Aside0.mk (Kd.R_below (by (with_reducible repeat (first | apply Kd.R_alloc | apply Kd.R_drewN | apply Kd.R_drew));exact HO522.out) hb);have n5_:=Aside0.mk (blk_below (g:=gb498) (o:=.cells #[.int .i64 a1_0,.int .i64 a1_1,.slice A1_2 l1_2.length c1_2] 33 (0,0)) (by (with_reducible repeat (first | refine blk_drewN ?_ _ | refine blk_drew ?_ | refine blk_alloc ?_ _));exact BK498.out) hb);have n6_:=Aside0.mk (blk_below (g:=gb518) (o:=.cells #[.int .i64 t513,.int .i64 t514,.slice Ao113 t515.length co113] 25 (0,0)) (by (with_reducible repeat (first | refine blk_drewN ?_ _ | refine blk_drew ?_ | refine blk_alloc ?_ _));exact BK518.out) hb);have n7_:=Aside0.mk (below_step (by repeat (first | (with_reducible first | exact HB.out | apply below_alloc | apply pw_below_drewN | apply below_drew1 | refine below_set ?_ GE498.out | refine below_set ?_ GE518.out) | exact HB.out)) hb);clear HO503;clear HO508;clear HO512;clear HO517;clear HO522;clear BK498;clear BK518;clear HB;have HO503:=n0_;have HO508:=n1_;have HO512:=n2_;have HO517:=n3_;have HO522:=n4_;have BK498:=n5_;have BK518:=n6_;have HB:=n7_;clear n0_ n1_ n2_ n3_ n4_ n5_ n6_ n7_;(try clear hb);(try clear hb2);(try clear hk);(try clear hi)))
     go_ret
     exact ⟨by first | rfl | (simp [errW_none,errW_some] <;> rfl) | (simp [*,errW_none,errW_some] <;> rfl),by repeat (first | (with_reducible first | exact HB.out | apply below_alloc | apply pw_below_drewN | apply below_drew1 | refine below_set ?_ GE498.out | refine below_set ?_ GE518.out) | exact HB.out)⟩
end Go.Proofs.YtbcjpdahdecehaaDoor.P
