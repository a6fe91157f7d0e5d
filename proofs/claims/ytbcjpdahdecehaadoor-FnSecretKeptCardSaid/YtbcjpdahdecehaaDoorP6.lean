/- What the Go functions that the laws reach compute, and that their calls come to just that: told by a program of this session (aprint.py). No condition. -/
import Derived.Test.YtbcjpdahdecehaaDoorP0
import Derived.Test.YtbcjpdahdecehaaDoorP1
import Derived.Test.YtbcjpdahdecehaaDoorP3
import Derived.Test.YtbcjpdahdecehaaDoorP5
import Derived.Test.YtbcjpdahdecehaaDoorHMade
noncomputable section
namespace Go.Proofs.YtbcjpdahdecehaaDoor.P
open Go.RowKit Go.Proofs.YtbcjpdahdecehaaDoorW.PrintWords Go.Proofs.YtbcjpdahdecehaaDoorW.PrintLast Go.Proofs.YtbcjpdahdecehaaDoorW.PrintMore
attribute [local go_sem] max2_int min2_int max_two min_two max_three min_three max_four min_four
set_option linter.unusedVariables false
set_option linter.unusedSimpArgs false
mutual
def laws_FnSecretKept.l0:Nat → List (S25) → Int → Option (Bool)
 | 0,_,_=>none
 | k + 1,x3,x7=>if x7 < (x3.length:Int) then (if 0 ≤ x7 then ((impl_SealOk.f k ((rd_T25 x3 x7).f0) ((rd_T25 x3 x7).f1) ((rd_T25 x3 x7).f2)).bind fun t594=>(if t594 = true then ((impl_SealUnder.f k 0 8 ([]:List (S25)) ((rd_T25 x3 x7).f0) ((rd_T25 x3 x7).f1) ((rd_T25 x3 x7).f2)).bind fun t596=>(if t596 = true then (some true) else ((impl_SealUnder.f k 0 9 ([]:List (S25)) ((rd_T25 x3 x7).f0) ((rd_T25 x3 x7).f1) ((rd_T25 x3 x7).f2)).bind fun t598=>(if t598 = true then (some true) else (laws_FnSecretKept.l0 k x3 (wrap64 (x7 + 1))))))) else (some true))) else (none)) else (if (wrap64 ((x3.length:Int) + 2)) > 6 then (some true) else ((some (([]:List (S25)):List (S25))).bind fun y599=>(if y599.length + x3.length < 3518437208883 then ((some (y599 ++ x3:List (S25))).bind fun y602=>(if y602.length < 3518437208883 then (laws_FnSecretKept.l1 k x3 (y602 ++ [(⟨2,0,(([(⟨0,9,([]:List (S25))⟩:S25),(⟨0,8,([]:List (S25))⟩:S25)]:List (S25)))⟩:S25)]) 0) else (none))) else (none))))
def laws_FnSecretKept.l1:Nat → List (S25) → List (S25) → Int → Option (Bool)
 | 0,_,_,_=>none
 | k + 1,x3,x8,x9=>if x9 < 10 then ((impl_SealMade.f x8 0 x9 ([]:List (S25))).bind fun t616=>((impl_SealMade.f x3 0 x9 ([]:List (S25))).bind fun t617=>(if (t616 != t617) = true then (some false) else (laws_FnSecretKept.l1 k x3 x8 (wrap64 (x9 + 1)))))) else ((impl_SealMade.f x8 0 8 ([]:List (S25))).bind fun t611=>(if t611 = true then (some false) else (if x8.length < 3518437208883 then ((impl_SealMade.f (x8 ++ [(⟨0,9,([]:List (S25))⟩:S25)]) 0 8 ([]:List (S25))).bind fun t615=>(some t615)) else (none))))
end
def laws_FnSecretKept.f (k:Nat) (l0:List Int):Option (Bool):=if (l0.length:Int) > 1048576 then (some true) else ((spec_DrawSealMade.f k l0).bind fun bt582=>((impl_SealMade.f bt582.1 bt582.2.1 bt582.2.2.1 bt582.2.2.2).bind fun t591=>((spec_SealMade.f k bt582.1 bt582.2.1 bt582.2.2.1 bt582.2.2.2).bind fun t592=>(if (t591 != t592) = true then (some false) else (laws_FnSecretKept.l0 k bt582.1 0)))))
theorem laws_FnSecretKept.mono_l:∀ k,(∀ y0 y1,LeO (laws_FnSecretKept.l0 k y0 y1) (laws_FnSecretKept.l0 (k + 1) y0 y1))∧(∀ y0 y1 y2,LeO (laws_FnSecretKept.l1 k y0 y1 y2) (laws_FnSecretKept.l1 (k + 1) y0 y1 y2))
 | 0=>⟨fun _ _ r h=>by simp [laws_FnSecretKept.l0] at h,fun _ _ _ r h=>by simp [laws_FnSecretKept.l1] at h⟩
 | k + 1=>by
  obtain ⟨ih0,ih1⟩:=laws_FnSecretKept.mono_l k
  refine ⟨?_,?_⟩
  ·intro y0 y1
   unfold laws_FnSecretKept.l0
   repeat' first
   | (with_reducible exact ih0 _ _)
   | (with_reducible exact ih1 _ _ _)
   | (with_reducible exact impl_SealOk.mono _ _ _ _)
   | (with_reducible exact impl_SealUnder.mono _ _ _ _ _ _ _)
   | (with_reducible exact spec_DrawSealMade.mono _ _)
   | (with_reducible exact spec_SealMade.mono _ _ _ _ _)
   | (with_reducible exact LeO.refl _)
   | (with_reducible exact LeO.none _)
   | (with_reducible refine LeO.ite ?_ ?_)
   | (with_reducible refine LeO.bind ?_ (fun _=>?_))
   | exact ih0 _ _
   | exact ih1 _ _ _
   | exact impl_SealOk.mono _ _ _ _
   | exact impl_SealUnder.mono _ _ _ _ _ _ _
   | exact spec_DrawSealMade.mono _ _
   | exact spec_SealMade.mono _ _ _ _ _
   | exact LeO.none _
   | refine LeO.ite ?_ ?_
   | refine LeO.bind ?_ (fun _=>?_)
  ·intro y0 y1 y2
   unfold laws_FnSecretKept.l1
   repeat' first
   | (with_reducible exact ih0 _ _)
   | (with_reducible exact ih1 _ _ _)
   | (with_reducible exact impl_SealOk.mono _ _ _ _)
   | (with_reducible exact impl_SealUnder.mono _ _ _ _ _ _ _)
   | (with_reducible exact spec_DrawSealMade.mono _ _)
   | (with_reducible exact spec_SealMade.mono _ _ _ _ _)
   | (with_reducible exact LeO.refl _)
   | (with_reducible exact LeO.none _)
   | (with_reducible refine LeO.ite ?_ ?_)
   | (with_reducible refine LeO.bind ?_ (fun _=>?_))
   | exact ih0 _ _
   | exact ih1 _ _ _
   | exact impl_SealOk.mono _ _ _ _
   | exact impl_SealUnder.mono _ _ _ _ _ _ _
   | exact spec_DrawSealMade.mono _ _
   | exact spec_SealMade.mono _ _ _ _ _
   | exact LeO.none _
   | refine LeO.ite ?_ ?_
   | refine LeO.bind ?_ (fun _=>?_)
theorem laws_FnSecretKept.mono:∀ a0 k,LeO (laws_FnSecretKept.f k a0) (laws_FnSecretKept.f (k + 1) a0):=by
 intro a0 k
 obtain ⟨ih0,ih1⟩:=laws_FnSecretKept.mono_l k
 unfold laws_FnSecretKept.f
 repeat' first
   | (with_reducible exact ih0 _ _)
   | (with_reducible exact ih1 _ _ _)
   | (with_reducible exact impl_SealOk.mono _ _ _ _)
   | (with_reducible exact impl_SealUnder.mono _ _ _ _ _ _ _)
   | (with_reducible exact spec_DrawSealMade.mono _ _)
   | (with_reducible exact spec_SealMade.mono _ _ _ _ _)
   | (with_reducible exact LeO.refl _)
   | (with_reducible exact LeO.none _)
   | (with_reducible refine LeO.ite ?_ ?_)
   | (with_reducible refine LeO.bind ?_ (fun _=>?_))
   | exact ih0 _ _
   | exact ih1 _ _ _
   | exact impl_SealOk.mono _ _ _ _
   | exact impl_SealUnder.mono _ _ _ _ _ _ _
   | exact spec_DrawSealMade.mono _ _
   | exact spec_SealMade.mono _ _ _ _ _
   | exact LeO.none _
   | refine LeO.ite ?_ ?_
   | refine LeO.bind ?_ (fun _=>?_)
set_option maxHeartbeats 8000000 in
set_option maxRecDepth 100000 in
theorem laws_FnSecretKept.calls (k:Nat) (A0:Option Addr) (c0:Nat) (l0:List Int) (r:Bool) (w:World) (hr0:Kd.C (Kd.int .u8) w A0 l0.length l0) (hc0:l0.length ≤ c0) (h:laws_FnSecretKept.f k l0 = some r) :
  Calls Tryd.prog 10 #[.slice A0 l0.length c0] w fun e w'=>e = .returned (.bool r)∧Below w.heap.size w w':=by
 have hu25:=Tryd.underlying25
 have HR0:=Aside0.mk hr0
 have HC0:=Aside0.mk hc0
 clear hr0 hc0
 have HB:=Aside0.mk (Below.refl w.heap.size w)
 have H:(if (l0.length:Int) > 1048576 then (some true) else ((spec_DrawSealMade.f k l0).bind fun bt582=>((impl_SealMade.f bt582.1 bt582.2.1 bt582.2.2.1 bt582.2.2.2).bind fun t591=>((spec_SealMade.f k bt582.1 bt582.2.1 bt582.2.2.1 bt582.2.2.2).bind fun t592=>(if (t591 != t592) = true then (some false) else (laws_FnSecretKept.l0 k bt582.1 0)))))) = some r:=h
 clear h
 by_cases c2:(l0.length:Int) > 1048576
 ·rw [if_pos c2] at H
  have c2b0:decide (1048576 < (l0.length:Int)) = true:=decide_eq_true c2
  have c2b1:decide (1048576 < l0.length) = true:=decide_eq_true (by omega)
  clear c2
  obtain rfl:=Option.some.inj H
  go_enter Tryd.func10,Tryd.ntmps10
  go_wp2
  go_ret
  exact ⟨by first | rfl | (simp [errW_none,errW_some] <;> rfl) | (simp [*,errW_none,errW_some] <;> rfl),by repeat (first | (with_reducible first | exact HB.out | apply below_alloc | apply pw_below_drewN | apply below_drew1) | exact HB.out)⟩
 ·rw [if_neg c2] at H
  have c2b0:decide (1048576 < (l0.length:Int)) = false:=decide_eq_false c2
  have c2b1:decide (1048576 < l0.length) = false:=decide_eq_false (by omega)
  clear c2
  replace H:=Option.bind_eq_some_iff.mp H
  obtain ⟨⟨t582,t585,t586,t587⟩,A30,H⟩:=H
  replace H:((impl_SealMade.f t582 t585 t586 t587).bind fun t591=>((spec_SealMade.f k t582 t585 t586 t587).bind fun t592=>(if (t591 != t592) = true then (some false) else (laws_FnSecretKept.l0 k t582 0)))) = some r:=H
  have A3:=Aside0.mk A30
  clear A30
  replace H:=Option.bind_eq_some_iff.mp H
  obtain ⟨t591,A40,H⟩:=H
  replace H:((spec_SealMade.f k t582 t585 t586 t587).bind fun t592=>(if (t591 != t592) = true then (some false) else (laws_FnSecretKept.l0 k t582 0))) = some r:=H
  have A4:=Aside0.mk A40
  clear A40
  replace H:=Option.bind_eq_some_iff.mp H
  obtain ⟨t592,A50,H⟩:=H
  replace H:(if (t591 != t592) = true then (some false) else (laws_FnSecretKept.l0 k t582 0)) = some r:=H
  have A5:=Aside0.mk A50
  clear A50
  by_cases c6:(t591 != t592) = true
  ·rw [if_pos c6] at H
   have c6b0:(t591 != t592) = true:=c6
   (try (have c6b1:decide (t591 = t592) = false:=by simpa using c6))
   (try (have c6b2:(t591 == t592) = false:=by simpa using c6))
   (try (have c6b3:¬ (t591 = t592):=by simpa using c6))
   clear c6
   obtain rfl:=Option.some.inj H
   go_enter Tryd.func10,Tryd.ntmps10
   go_wp2_with (first | ((with_reducible refine gate_callee (f:=30) rfl ?_);refine goesL_ (some 15) rfl rfl Tryd.func30 (by kernel_rfl) rfl #[.slice A0 l0.length c0] rfl (by (try simp only [List.map_toArray,List.map_cons,List.map_nil]);first | done | rfl | (simp only [List.length_drop,List.length_take];rfl)) ?_;(with_reducible refine (spec_DrawSealMade.calls k _ _ l0 t582 t585 t586 t587 _ ?side1 ?side2 A3.out).mono ?_);(case side1=>repeat (first | exact HR0.out | (with_reducible refine Kd.C_alloc ?_ _) | (with_reducible refine Kd.C_drewN ?_ _) | (with_reducible refine Kd.C_drew ?_)));(case side2=>exact HC0.out);rintro e w7 ⟨v583,v588,rfl,ho0,ho1,hb⟩;refine ⟨_,rfl,?_⟩;have n0_:=Aside0.mk (Kd.N_lower (Kd.N_mono (ok':=fun k_=>True) ho0 (fun k_ hk_=>trivial)) (below_size (by repeat (first | (with_reducible first | exact HB.out | apply below_alloc | apply pw_below_drewN | apply below_drew1) | exact HB.out))));have n1_:=Aside0.mk (Kd.V_lower (Kd.V_mono (ok':=fun k_=>some k_ ≠ (v583:Value).ownBlock) ho1 (fun k_ hk_=>hk_.2)) (below_size (by repeat (first | (with_reducible first | exact HB.out | apply below_alloc | apply pw_below_drewN | apply below_drew1) | exact HB.out))));have n2_:=Aside0.mk (below_step (by repeat (first | (with_reducible first | exact HB.out | apply below_alloc | apply pw_below_drewN | apply below_drew1) | exact HB.out)) hb);clear HB;have HO584:=n0_;have HO589:=n1_;have HB:=n2_;clear n0_ n1_ n2_;(try clear hb);(try clear hb2);(try clear hk);(try clear hi);(try clear ho0);(try clear ho1)) | ((with_reducible refine gate_dst (N:=4) rfl ?_);(try (refine gate_guard (by rfl) ?_;dsimp only));refine box_event ?hg (N:=4) ?hd (cs:=#[.int .i64 0,.int .i64 0,.slice none 0 0]) (t:=25) ?hr ?_;(case hd=>rfl);(case hg=>rfl);(case hr=>first | (go_simp;done) | (go_simp;rfl));intro gb590 hg w8 hbox hb;have n0_:=Aside0.mk (Kd.N_below (Kd.N_elderB (by (with_reducible repeat (first | apply Kd.N_alloc | apply Kd.N_drewN | apply Kd.N_drew));exact HO584.out) gb590 (Nat.le_of_eq hg.symm)) hb);have n1_:=Aside0.mk (Kd.V_below (Kd.V_elderB (by (with_reducible repeat (first | apply Kd.V_alloc | apply Kd.V_drewN | apply Kd.V_drew));exact HO589.out) gb590 (Nat.le_of_eq hg.symm)) hb);have n2_:=Aside0.mk (below_step (by repeat (first | (with_reducible first | exact HB.out | apply below_alloc | apply pw_below_drewN | apply below_drew1) | exact HB.out)) hb);have n3_:=Aside0.mk (hbox);have n4_:=Aside0.mk ((by rw [hg];exact (below_size (by repeat (first | (with_reducible first | exact HB.out | apply below_alloc | apply pw_below_drewN | apply below_drew1) | exact HB.out))):w.heap.size ≤ gb590));have n5_:=Aside0.mk ((by rw [hg];exact (below_size (by repeat (first | (with_reducible first | exact HB.out | apply below_alloc | apply pw_below_drewN | apply below_drew1) | exact HB.out))):w.heap.size ≤ gb590));clear HO584;clear HO589;clear HB;have HO584:=n0_;have HO589:=n1_;have HB:=n2_;have BK590:=n3_;have GW590:=n4_;have GE590:=n5_;clear n0_ n1_ n2_ n3_ n4_ n5_;clear hb hbox hg;have hcz9_0:w8.cell? ⟨gb590,0,none⟩ = some (.int .i64 0):=(blk_cell BK590.out 0).trans rfl;have hcz9_1:w8.cell? ⟨gb590,1,none⟩ = some (.int .i64 0):=(blk_cell BK590.out 1).trans rfl;have hcz9_2:w8.cell? ⟨gb590,2,none⟩ = some (.slice none 0 0):=(blk_cell BK590.out 2).trans rfl;have hfz9_0:=blk_frozen BK590.out 0;have hfz9_1:=blk_frozen BK590.out 1;have hfz9_2:=blk_frozen BK590.out 2;obtain ⟨Ao10,co10,eo10⟩:=Kd.V_slice HO589.out;subst eo10;obtain ⟨Ao11,co11,eo11⟩:=Kd.N_slice HO584.out;subst eo11) | ((with_reducible refine gate_callee (f:=28) rfl ?_);refine goesL_ (some 20) rfl rfl Tryd.func28 (by kernel_rfl) rfl #[.slice Ao11 t582.length co11,.agg #[.int .i64 t585,.int .i64 t586,.slice Ao10 t587.length co10]] rfl (by (try simp only [List.map_toArray,List.map_cons,List.map_nil]);first | done | rfl | (simp only [List.length_drop,List.length_take];rfl)) ?_;(with_reducible refine (impl_SealMade.calls _ _ t582 t585 t586 _ _ t587 t591 _ ?side1 ?side2 ?side3 ?side4 A4.out).mono ?_);(case side1=>refine (Kd.N_reads' (e:=25) (base:=w.heap.size) (ok:=fun k_=>(True∧k_ ≠ gb590)) (n:=t582.length) (c:=co11) ?_).2.2;exact (by (with_reducible repeat (first | apply Kd.N_alloc | apply Kd.N_drewN | apply Kd.N_drew));exact (Kd.N_mono (Kd.N_far (p:=⟨gb590,2,none⟩) (Kd.N_far (p:=⟨gb590,1,none⟩) (Kd.N_far (p:=⟨gb590,0,none⟩) (Kd.N_mono HO584.out (fun k_ hk=>(⟨hk,hk.2⟩:_∧k_ ≠ gb590))) (fun _ hk=>hk.2) (.int .i64 t585)) (fun _ hk=>hk.2) (.int .i64 t586)) (fun _ hk=>hk.2) (.slice Ao10 t587.length co10)) (fun _ h_=>h_.1))));(case side2=>exact (Kd.N_reads' HO584.out).2.1);(case side3=>refine (Kd.V_reads' (e:=25) (base:=w.heap.size) (ok:=fun k_=>(some k_ ≠ (.slice Ao11 t582.length co11:Value).ownBlock∧k_ ≠ gb590)) (n:=t587.length) (c:=co10) ?_).2.2;exact (by (with_reducible repeat (first | apply Kd.V_alloc | apply Kd.V_drewN | apply Kd.V_drew));exact (Kd.V_mono (Kd.V_far (p:=⟨gb590,2,none⟩) (Kd.V_far (p:=⟨gb590,1,none⟩) (Kd.V_far (p:=⟨gb590,0,none⟩) (Kd.V_mono HO589.out (fun k_ hk=>(⟨hk,hk.2⟩:_∧k_ ≠ gb590))) (fun _ hk=>hk.2) (.int .i64 t585)) (fun _ hk=>hk.2) (.int .i64 t586)) (fun _ hk=>hk.2) (.slice Ao10 t587.length co10)) (fun _ h_=>h_.1))));(case side4=>exact (Kd.V_reads' HO589.out).2.1);rintro e w12 ⟨rfl,hb⟩;refine ⟨_,rfl,?_⟩;have n0_:=Aside0.mk (Kd.N_below (by (with_reducible repeat (first | apply Kd.N_alloc | apply Kd.N_drewN | apply Kd.N_drew));exact (Kd.N_mono (Kd.N_far (p:=⟨gb590,2,none⟩) (Kd.N_far (p:=⟨gb590,1,none⟩) (Kd.N_far (p:=⟨gb590,0,none⟩) (Kd.N_mono HO584.out (fun k_ hk=>(⟨hk,hk.2⟩:_∧k_ ≠ gb590))) (fun _ hk=>hk.2) (.int .i64 t585)) (fun _ hk=>hk.2) (.int .i64 t586)) (fun _ hk=>hk.2) (.slice Ao10 t587.length co10)) (fun _ h_=>h_.1))) hb);have n1_:=Aside0.mk (Kd.V_below (by (with_reducible repeat (first | apply Kd.V_alloc | apply Kd.V_drewN | apply Kd.V_drew));exact (Kd.V_mono (Kd.V_far (p:=⟨gb590,2,none⟩) (Kd.V_far (p:=⟨gb590,1,none⟩) (Kd.V_far (p:=⟨gb590,0,none⟩) (Kd.V_mono HO589.out (fun k_ hk=>(⟨hk,hk.2⟩:_∧k_ ≠ gb590))) (fun _ hk=>hk.2) (.int .i64 t585)) (fun _ hk=>hk.2) (.int .i64 t586)) (fun _ hk=>hk.2) (.slice Ao10 t587.length co10)) (fun _ h_=>h_.1))) hb);have n2_:=Aside0.mk (blk_below (g:=gb590) (o:=.cells #[.int .i64 t585,.int .i64 t586,.slice Ao10 t587.length co10] 25 (0,0)) (by (with_reducible repeat (first | refine blk_drewN ?_ _ | refine blk_drew ?_ | refine blk_alloc ?_ _));refine blk_put (cs:=#[.int .i64 t585,.int .i64 t586,.slice none 0 0]) ?_ 2 _ rfl;(with_reducible repeat (first | refine blk_drewN ?_ _ | refine blk_drew ?_ | refine blk_alloc ?_ _));refine blk_put (cs:=#[.int .i64 t585,.int .i64 0,.slice none 0 0]) ?_ 1 _ rfl;(with_reducible repeat (first | refine blk_drewN ?_ _ | refine blk_drew ?_ | refine blk_alloc ?_ _));refine blk_put (cs:=#[.int .i64 0,.int .i64 0,.slice none 0 0]) ?_ 0 _ rfl;(with_reducible repeat (first | refine blk_drewN ?_ _ | refine blk_drew ?_ | refine blk_alloc ?_ _));exact BK590.out) hb);have n3_:=Aside0.mk (below_step (by repeat (first | (with_reducible first | exact HB.out | apply below_alloc | apply pw_below_drewN | apply below_drew1 | refine below_set ?_ GE590.out) | exact HB.out)) hb);clear HO584;clear HO589;clear BK590;clear HB;have HO584:=n0_;have HO589:=n1_;have BK590:=n2_;have HB:=n3_;clear n0_ n1_ n2_ n3_;(try clear hb);(try clear hb2);(try clear hk);(try clear hi);have hcz13_0:w12.cell? ⟨gb590,0,none⟩ = some (.int .i64 t585):=(blk_cell BK590.out 0).trans rfl;have hcz13_1:w12.cell? ⟨gb590,1,none⟩ = some (.int .i64 t586):=(blk_cell BK590.out 1).trans rfl;have hcz13_2:w12.cell? ⟨gb590,2,none⟩ = some (.slice Ao10 t587.length co10):=(blk_cell BK590.out 2).trans rfl;have hfz13_0:=blk_frozen BK590.out 0;have hfz13_1:=blk_frozen BK590.out 1;have hfz13_2:=blk_frozen BK590.out 2) | ((with_reducible refine gate_callee (f:=26) rfl ?_);refine goesL_ (some 23) rfl rfl Tryd.func26 (by kernel_rfl) rfl #[.slice Ao11 t582.length co11,.agg #[.int .i64 t585,.int .i64 t586,.slice Ao10 t587.length co10]] rfl (by (try simp only [List.map_toArray,List.map_cons,List.map_nil]);first | done | rfl | (simp only [List.length_drop,List.length_take];rfl)) ?_;(with_reducible refine (spec_SealMade.calls k _ _ t582 t585 t586 _ _ t587 t592 _ ?side1 ?side2 ?side3 ?side4 A5.out).mono ?_);(case side1=>repeat (first | exact (Kd.N_reads' HO584.out).2.2 | (with_reducible refine Kd.C_alloc ?_ _) | (with_reducible refine Kd.C_drewN ?_ _) | (with_reducible refine Kd.C_drew ?_)));(case side2=>exact (Kd.N_reads' HO584.out).2.1);(case side3=>repeat (first | exact (Kd.V_reads' HO589.out).2.2 | (with_reducible refine Kd.C_alloc ?_ _) | (with_reducible refine Kd.C_drewN ?_ _) | (with_reducible refine Kd.C_drew ?_)));(case side4=>exact (Kd.V_reads' HO589.out).2.1);rintro e w14 ⟨rfl,hb⟩;refine ⟨_,rfl,?_⟩;have n0_:=Aside0.mk (Kd.N_below (by (with_reducible repeat (first | apply Kd.N_alloc | apply Kd.N_drewN | apply Kd.N_drew));exact HO584.out) hb);have n1_:=Aside0.mk (Kd.V_below (by (with_reducible repeat (first | apply Kd.V_alloc | apply Kd.V_drewN | apply Kd.V_drew));exact HO589.out) hb);have n2_:=Aside0.mk (blk_below (g:=gb590) (o:=.cells #[.int .i64 t585,.int .i64 t586,.slice Ao10 t587.length co10] 25 (0,0)) (by (with_reducible repeat (first | refine blk_drewN ?_ _ | refine blk_drew ?_ | refine blk_alloc ?_ _));exact BK590.out) hb);have n3_:=Aside0.mk (below_step (by repeat (first | (with_reducible first | exact HB.out | apply below_alloc | apply pw_below_drewN | apply below_drew1 | refine below_set ?_ GE590.out) | exact HB.out)) hb);clear HO584;clear HO589;clear BK590;clear HB;have HO584:=n0_;have HO589:=n1_;have BK590:=n2_;have HB:=n3_;clear n0_ n1_ n2_ n3_;(try clear hb);(try clear hb2);(try clear hk);(try clear hi)))
   go_ret
   exact ⟨by first | rfl | (simp [errW_none,errW_some] <;> rfl) | (simp [*,errW_none,errW_some] <;> rfl),by repeat (first | (with_reducible first | exact HB.out | apply below_alloc | apply pw_below_drewN | apply below_drew1 | refine below_set ?_ GE590.out) | exact HB.out)⟩
  ·rw [if_neg c6] at H
   have c6b0:(t591 != t592) = false:=by simpa using c6
   (try (have c6b1:decide (t591 = t592) = true:=by simpa using c6))
   (try (have c6b2:(t591 == t592) = true:=by simpa using c6))
   clear c6
   have H':=Aside0.mk H
   clear H
   go_enter Tryd.func10,Tryd.ntmps10
   go_wp2_with (first | ((with_reducible refine gate_callee (f:=30) rfl ?_);refine goesL_ (some 15) rfl rfl Tryd.func30 (by kernel_rfl) rfl #[.slice A0 l0.length c0] rfl (by (try simp only [List.map_toArray,List.map_cons,List.map_nil]);first | done | rfl | (simp only [List.length_drop,List.length_take];rfl)) ?_;(with_reducible refine (spec_DrawSealMade.calls k _ _ l0 t582 t585 t586 t587 _ ?side1 ?side2 A3.out).mono ?_);(case side1=>repeat (first | exact HR0.out | (with_reducible refine Kd.C_alloc ?_ _) | (with_reducible refine Kd.C_drewN ?_ _) | (with_reducible refine Kd.C_drew ?_)));(case side2=>exact HC0.out);rintro e w15 ⟨v583,v588,rfl,ho0,ho1,hb⟩;refine ⟨_,rfl,?_⟩;have n0_:=Aside0.mk (Kd.N_lower (Kd.N_mono (ok':=fun k_=>True) ho0 (fun k_ hk_=>trivial)) (below_size (by repeat (first | (with_reducible first | exact HB.out | apply below_alloc | apply pw_below_drewN | apply below_drew1) | exact HB.out))));have n1_:=Aside0.mk (Kd.V_lower (Kd.V_mono (ok':=fun k_=>some k_ ≠ (v583:Value).ownBlock) ho1 (fun k_ hk_=>hk_.2)) (below_size (by repeat (first | (with_reducible first | exact HB.out | apply below_alloc | apply pw_below_drewN | apply below_drew1) | exact HB.out))));have n2_:=Aside0.mk (below_step (by repeat (first | (with_reducible first | exact HB.out | apply below_alloc | apply pw_below_drewN | apply below_drew1) | exact HB.out)) hb);clear HB;have HO584:=n0_;have HO589:=n1_;have HB:=n2_;clear n0_ n1_ n2_;(try clear hb);(try clear hb2);(try clear hk);(try clear hi);(try clear ho0);(try clear ho1)) | ((with_reducible refine gate_dst (N:=4) rfl ?_);(try (refine gate_guard (by rfl) ?_;dsimp only));refine box_event ?hg (N:=4) ?hd (cs:=#[.int .i64 0,.int .i64 0,.slice none 0 0]) (t:=25) ?hr ?_;(case hd=>rfl);(case hg=>rfl);(case hr=>first | (go_simp;done) | (go_simp;rfl));intro gb590 hg w16 hbox hb;have n0_:=Aside0.mk (Kd.N_below (Kd.N_elderB (by (with_reducible repeat (first | apply Kd.N_alloc | apply Kd.N_drewN | apply Kd.N_drew));exact HO584.out) gb590 (Nat.le_of_eq hg.symm)) hb);have n1_:=Aside0.mk (Kd.V_below (Kd.V_elderB (by (with_reducible repeat (first | apply Kd.V_alloc | apply Kd.V_drewN | apply Kd.V_drew));exact HO589.out) gb590 (Nat.le_of_eq hg.symm)) hb);have n2_:=Aside0.mk (below_step (by repeat (first | (with_reducible first | exact HB.out | apply below_alloc | apply pw_below_drewN | apply below_drew1) | exact HB.out)) hb);have n3_:=Aside0.mk (hbox);have n4_:=Aside0.mk ((by rw [hg];exact (below_size (by repeat (first | (with_reducible first | exact HB.out | apply below_alloc | apply pw_below_drewN | apply below_drew1) | exact HB.out))):w.heap.size ≤ gb590));have n5_:=Aside0.mk ((by rw [hg];exact (below_size (by repeat (first | (with_reducible first | exact HB.out | apply below_alloc | apply pw_below_drewN | apply below_drew1) | exact HB.out))):w.heap.size ≤ gb590));clear HO584;clear HO589;clear HB;have HO584:=n0_;have HO589:=n1_;have HB:=n2_;have BK590:=n3_;have GW590:=n4_;have GE590:=n5_;clear n0_ n1_ n2_ n3_ n4_ n5_;clear hb hbox hg;have hcz17_0:w16.cell? ⟨gb590,0,none⟩ = some (.int .i64 0):=(blk_cell BK590.out 0).trans rfl;have hcz17_1:w16.cell? ⟨gb590,1,none⟩ = some (.int .i64 0):=(blk_cell BK590.out 1).trans rfl;have hcz17_2:w16.cell? ⟨gb590,2,none⟩ = some (.slice none 0 0):=(blk_cell BK590.out 2).trans rfl;have hfz17_0:=blk_frozen BK590.out 0;have hfz17_1:=blk_frozen BK590.out 1;have hfz17_2:=blk_frozen BK590.out 2;obtain ⟨Ao18,co18,eo18⟩:=Kd.V_slice HO589.out;subst eo18;obtain ⟨Ao19,co19,eo19⟩:=Kd.N_slice HO584.out;subst eo19) | ((with_reducible refine gate_callee (f:=28) rfl ?_);refine goesL_ (some 20) rfl rfl Tryd.func28 (by kernel_rfl) rfl #[.slice Ao19 t582.length co19,.agg #[.int .i64 t585,.int .i64 t586,.slice Ao18 t587.length co18]] rfl (by (try simp only [List.map_toArray,List.map_cons,List.map_nil]);first | done | rfl | (simp only [List.length_drop,List.length_take];rfl)) ?_;(with_reducible refine (impl_SealMade.calls _ _ t582 t585 t586 _ _ t587 t591 _ ?side1 ?side2 ?side3 ?side4 A4.out).mono ?_);(case side1=>refine (Kd.N_reads' (e:=25) (base:=w.heap.size) (ok:=fun k_=>(True∧k_ ≠ gb590)) (n:=t582.length) (c:=co19) ?_).2.2;exact (by (with_reducible repeat (first | apply Kd.N_alloc | apply Kd.N_drewN | apply Kd.N_drew));exact (Kd.N_mono (Kd.N_far (p:=⟨gb590,2,none⟩) (Kd.N_far (p:=⟨gb590,1,none⟩) (Kd.N_far (p:=⟨gb590,0,none⟩) (Kd.N_mono HO584.out (fun k_ hk=>(⟨hk,hk.2⟩:_∧k_ ≠ gb590))) (fun _ hk=>hk.2) (.int .i64 t585)) (fun _ hk=>hk.2) (.int .i64 t586)) (fun _ hk=>hk.2) (.slice Ao18 t587.length co18)) (fun _ h_=>h_.1))));(case side2=>exact (Kd.N_reads' HO584.out).2.1);(case side3=>refine (Kd.V_reads' (e:=25) (base:=w.heap.size) (ok:=fun k_=>(some k_ ≠ (.slice Ao19 t582.length co19:Value).ownBlock∧k_ ≠ gb590)) (n:=t587.length) (c:=co18) ?_).2.2;exact (by (with_reducible repeat (first | apply Kd.V_alloc | apply Kd.V_drewN | apply Kd.V_drew));exact (Kd.V_mono (Kd.V_far (p:=⟨gb590,2,none⟩) (Kd.V_far (p:=⟨gb590,1,none⟩) (Kd.V_far (p:=⟨gb590,0,none⟩) (Kd.V_mono HO589.out (fun k_ hk=>(⟨hk,hk.2⟩:_∧k_ ≠ gb590))) (fun _ hk=>hk.2) (.int .i64 t585)) (fun _ hk=>hk.2) (.int .i64 t586)) (fun _ hk=>hk.2) (.slice Ao18 t587.length co18)) (fun _ h_=>h_.1))));(case side4=>exact (Kd.V_reads' HO589.out).2.1);rintro e w20 ⟨rfl,hb⟩;refine ⟨_,rfl,?_⟩;have n0_:=Aside0.mk (Kd.N_below (by (with_reducible repeat (first | apply Kd.N_alloc | apply Kd.N_drewN | apply Kd.N_drew));exact (Kd.N_mono (Kd.N_far (p:=⟨gb590,2,none⟩) (Kd.N_far (p:=⟨gb590,1,none⟩) (Kd.N_far (p:=⟨gb590,0,none⟩) (Kd.N_mono HO584.out (fun k_ hk=>(⟨hk,hk.2⟩:_∧k_ ≠ gb590))) (fun _ hk=>hk.2) (.int .i64 t585)) (fun _ hk=>hk.2) (.int .i64 t586)) (fun _ hk=>hk.2) (.slice Ao18 t587.length co18)) (fun _ h_=>h_.1))) hb);have n1_:=Aside0.mk (Kd.V_below (by (with_reducible repeat (first | apply Kd.V_alloc | apply Kd.V_drewN | apply Kd.V_drew));exact (Kd.V_mono (Kd.V_far (p:=⟨gb590,2,none⟩) (Kd.V_far (p:=⟨gb590,1,none⟩) (Kd.V_far (p:=⟨gb590,0,none⟩) (Kd.V_mono HO589.out (fun k_ hk=>(⟨hk,hk.2⟩:_∧k_ ≠ gb590))) (fun _ hk=>hk.2) (.int .i64 t585)) (fun _ hk=>hk.2) (.int .i64 t586)) (fun _ hk=>hk.2) (.slice Ao18 t587.length co18)) (fun _ h_=>h_.1))) hb);have n2_:=Aside0.mk (blk_below (g:=gb590) (o:=.cells #[.int .i64 t585,.int .i64 t586,.slice Ao18 t587.length co18] 25 (0,0)) (by (with_reducible repeat (first | refine blk_drewN ?_ _ | refine blk_drew ?_ | refine blk_alloc ?_ _));refine blk_put (cs:=#[.int .i64 t585,.int .i64 t586,.slice none 0 0]) ?_ 2 _ rfl;(with_reducible repeat (first | refine blk_drewN ?_ _ | refine blk_drew ?_ | refine blk_alloc ?_ _));refine blk_put (cs:=#[.int .i64 t585,.int .i64 0,.slice none 0 0]) ?_ 1 _ rfl;(with_reducible repeat (first | refine blk_drewN ?_ _ | refine blk_drew ?_ | refine blk_alloc ?_ _));refine blk_put (cs:=#[.int .i64 0,.int .i64 0,.slice none 0 0]) ?_ 0 _ rfl;(with_reducible repeat (first | refine blk_drewN ?_ _ | refine blk_drew ?_ | refine blk_alloc ?_ _));exact BK590.out) hb);have n3_:=Aside0.mk (below_step (by repeat (first | (with_reducible first | exact HB.out | apply below_alloc | apply pw_below_drewN | apply below_drew1 | refine below_set ?_ GE590.out) | exact HB.out)) hb);clear HO584;clear HO589;clear BK590;clear HB;have HO584:=n0_;have HO589:=n1_;have BK590:=n2_;have HB:=n3_;clear n0_ n1_ n2_ n3_;(try clear hb);(try clear hb2);(try clear hk);(try clear hi);have hcz21_0:w20.cell? ⟨gb590,0,none⟩ = some (.int .i64 t585):=(blk_cell BK590.out 0).trans rfl;have hcz21_1:w20.cell? ⟨gb590,1,none⟩ = some (.int .i64 t586):=(blk_cell BK590.out 1).trans rfl;have hcz21_2:w20.cell? ⟨gb590,2,none⟩ = some (.slice Ao18 t587.length co18):=(blk_cell BK590.out 2).trans rfl;have hfz21_0:=blk_frozen BK590.out 0;have hfz21_1:=blk_frozen BK590.out 1;have hfz21_2:=blk_frozen BK590.out 2) | ((with_reducible refine gate_callee (f:=26) rfl ?_);refine goesL_ (some 23) rfl rfl Tryd.func26 (by kernel_rfl) rfl #[.slice Ao19 t582.length co19,.agg #[.int .i64 t585,.int .i64 t586,.slice Ao18 t587.length co18]] rfl (by (try simp only [List.map_toArray,List.map_cons,List.map_nil]);first | done | rfl | (simp only [List.length_drop,List.length_take];rfl)) ?_;(with_reducible refine (spec_SealMade.calls k _ _ t582 t585 t586 _ _ t587 t592 _ ?side1 ?side2 ?side3 ?side4 A5.out).mono ?_);(case side1=>repeat (first | exact (Kd.N_reads' HO584.out).2.2 | (with_reducible refine Kd.C_alloc ?_ _) | (with_reducible refine Kd.C_drewN ?_ _) | (with_reducible refine Kd.C_drew ?_)));(case side2=>exact (Kd.N_reads' HO584.out).2.1);(case side3=>repeat (first | exact (Kd.V_reads' HO589.out).2.2 | (with_reducible refine Kd.C_alloc ?_ _) | (with_reducible refine Kd.C_drewN ?_ _) | (with_reducible refine Kd.C_drew ?_)));(case side4=>exact (Kd.V_reads' HO589.out).2.1);rintro e w22 ⟨rfl,hb⟩;refine ⟨_,rfl,?_⟩;have n0_:=Aside0.mk (Kd.N_below (by (with_reducible repeat (first | apply Kd.N_alloc | apply Kd.N_drewN | apply Kd.N_drew));exact HO584.out) hb);have n1_:=Aside0.mk (Kd.V_below (by (with_reducible repeat (first | apply Kd.V_alloc | apply Kd.V_drewN | apply Kd.V_drew));exact HO589.out) hb);have n2_:=Aside0.mk (blk_below (g:=gb590) (o:=.cells #[.int .i64 t585,.int .i64 t586,.slice Ao18 t587.length co18] 25 (0,0)) (by (with_reducible repeat (first | refine blk_drewN ?_ _ | refine blk_drew ?_ | refine blk_alloc ?_ _));exact BK590.out) hb);have n3_:=Aside0.mk (below_step (by repeat (first | (with_reducible first | exact HB.out | apply below_alloc | apply pw_below_drewN | apply below_drew1 | refine below_set ?_ GE590.out) | exact HB.out)) hb);clear HO584;clear HO589;clear BK590;clear HB;have HO584:=n0_;have HO589:=n1_;have BK590:=n2_;have HB:=n3_;clear n0_ n1_ n2_ n3_;(try clear hb);(try clear hb2);(try clear hk);(try clear hi)))
   go_loopg [7] k (fun kq v7 w'=>∃ (x7_1:Int),v7 = .int .i64 x7_1∧Aside0 (laws_FnSecretKept.l0 kq t582 x7_1 = some r)∧Aside0 (kq ≤ k)∧Aside0 (Kd.N k25 25 w' w.heap.size (fun k_=>k_ ≠ gb590) (.slice Ao19 t582.length co19) t582)∧Aside0 (Kd.V k25 25 w' w.heap.size (fun k_=>some k_ ≠ ((.slice Ao19 t582.length co19):Value).ownBlock∧k_ ≠ gb590) (.slice Ao18 t587.length co18) t587)∧Aside0 (w'.heap[gb590]? = some (.cells #[.int .i64 t585,.int .i64 t586,(.slice Ao18 t587.length co18)] 25 (0,0)))∧Aside0 (Below w.heap.size w w'))
   case atStart=>exact ⟨(0),(by first | rfl | (simp;done) | (simp [*];done)),H',⟨Nat.le_refl _⟩,⟨by (with_reducible repeat (first | apply Kd.N_alloc | apply Kd.N_drewN | apply Kd.N_drew));exact Kd.N_mono HO584.out (fun _ hk=>hk.2)⟩,⟨by (with_reducible repeat (first | apply Kd.V_alloc | apply Kd.V_drewN | apply Kd.V_drew));exact HO589.out⟩,⟨by (with_reducible repeat (first | refine blk_drewN ?_ _ | refine blk_drew ?_ | refine blk_alloc ?_ _));exact BK590.out⟩,⟨by repeat (first | (with_reducible first | exact HB.out | apply below_alloc | apply pw_below_drewN | apply below_drew1 | refine below_set ?_ GE590.out) | exact HB.out)⟩⟩
   case round =>
    clear H'
    try clear c1
    try clear c2
    try clear c2b0
    try clear c2b1
    try clear p2
    try clear c3
    try clear c6
    try clear c6b0
    try clear c6b1
    try clear c6b2
    try clear c10
    try clear hcz13_0
    try clear hcz13_1
    try clear hcz13_2
    try clear hcz17_0
    try clear hcz17_1
    try clear hcz17_2
    try clear hcz21_0
    try clear hcz21_1
    try clear hcz21_2
    try clear hcz9_0
    try clear hcz9_1
    try clear hcz9_2
    try clear hfz13_0
    try clear hfz13_1
    try clear hfz13_2
    try clear hfz17_0
    try clear hfz17_1
    try clear hfz17_2
    try clear hfz21_0
    try clear hfz21_1
    try clear hfz21_2
    try clear hfz9_0
    try clear hfz9_1
    try clear hfz9_2
    obtain ⟨x7_1,rfl,HA,HK1,HO_3,HO_591002,BK590,HB⟩:=hrel
    cases gk with
    | zero=>exact absurd HA.out (by simp [laws_FnSecretKept.l0])
    | succ k1 =>
     have H:=HA.out
     clear HA
     simp only [laws_FnSecretKept.l0] at H
     by_cases c23:x7_1 < (t582.length:Int)
     ·rw [if_pos c23] at H
      have c23b0:decide (x7_1 < (t582.length:Int)) = true:=decide_eq_true c23
      clear c23
      by_cases c24:0 ≤ x7_1
      ·rw [if_pos c24] at H
       have c24b0:decide (0 ≤ x7_1) = true:=decide_eq_true c24
       clear c24
       replace H:=Option.bind_eq_some_iff.mp H
       obtain ⟨t594,A250,H⟩:=H
       replace H:(if t594 = true then ((impl_SealUnder.f k1 0 8 ([]:List (S25)) ((rd_T25 t582 x7_1).f0) ((rd_T25 t582 x7_1).f1) ((rd_T25 t582 x7_1).f2)).bind fun t596=>(if t596 = true then (some true) else ((impl_SealUnder.f k1 0 9 ([]:List (S25)) ((rd_T25 t582 x7_1).f0) ((rd_T25 t582 x7_1).f1) ((rd_T25 t582 x7_1).f2)).bind fun t598=>(if t598 = true then (some true) else (laws_FnSecretKept.l0 k1 t582 (wrap64 (x7_1 + 1))))))) else (some true)) = some r:=H
       have A25:=Aside0.mk A250
       clear A250
       by_cases c26:t594 = true
       ·subst c26
        have H1:((impl_SealUnder.f k1 0 8 ([]:List (S25)) ((rd_T25 t582 x7_1).f0) ((rd_T25 t582 x7_1).f1) ((rd_T25 t582 x7_1).f2)).bind fun t596=>(if t596 = true then (some true) else ((impl_SealUnder.f k1 0 9 ([]:List (S25)) ((rd_T25 t582 x7_1).f0) ((rd_T25 t582 x7_1).f1) ((rd_T25 t582 x7_1).f2)).bind fun t598=>(if t598 = true then (some true) else (laws_FnSecretKept.l0 k1 t582 (wrap64 (x7_1 + 1))))))) = some r:=by rw [if_pos rfl] at H;exact H
        clear H
        have H:=H1
        clear H1
        replace H:=Option.bind_eq_some_iff.mp H
        obtain ⟨t596,A270,H⟩:=H
        replace H:(if t596 = true then (some true) else ((impl_SealUnder.f k1 0 9 ([]:List (S25)) ((rd_T25 t582 x7_1).f0) ((rd_T25 t582 x7_1).f1) ((rd_T25 t582 x7_1).f2)).bind fun t598=>(if t598 = true then (some true) else (laws_FnSecretKept.l0 k1 t582 (wrap64 (x7_1 + 1)))))) = some r:=H
        have A27:=Aside0.mk A270
        clear A270
        by_cases c28:t596 = true
        ·subst c28
         have H1:(some true) = some r:=by rw [if_pos rfl] at H;exact H
         clear H
         have H:=H1
         clear H1
         obtain rfl:=Option.some.inj H
         have p593:0 ≤ (x7_1:Int):=of_decide_eq_true (by first | (with_reducible assumption) | assumption)
         have q593:x7_1 < (t582.length:Int):=of_decide_eq_true (by first | (with_reducible assumption) | assumption)
         obtain ⟨ad593,A593_2,c593_2,e593,hx593_0,hx593_1,hx593_2,hl593_2,hi593_2⟩:=at_T25 (Kd.N_reads' HO_3.out).2.2 x7_1 p593 q593
         cases e593
         obtain ⟨ce593,hce593,hMe593,hcc593⟩:=Kd.N_get HO_3.out z25 x7_1 p593 (by first | exact q593 | exact of_decide_eq_true (by first | (with_reducible assumption) | assumption) | (have e_:=(Kd.N_reads' HO_3.out).1;omega))
         obtain ⟨ua593_2,uc593_2,rfl,ul593_2,ge593_2⟩:=k25_openF hMe593
         have hv593_2:=hcc593 2 _ rfl
         rw [add_field _ _ 2 (by omega)] at hv593_2
         replace hv593_2:=Option.some.inj (hv593_2.symm.trans hx593_2)
         injection hv593_2 with hva_ hvn_ hvc_
         rw [hva_] at ge593_2
         rw [hvc_] at ul593_2
         have HL593_2:=Aside0.mk (show Kd.V k25 25 _ w.heap.size _ _ ((rd_T25 t582 x7_1).f2) from Kd.V_mk ul593_2 ge593_2)
         clear hva_ hvn_ hvc_ ge593_2 ul593_2
         clear hcc593 hce593
         have HR593_2:=Aside0.mk hi593_2
         have HC593_2:=Aside0.mk hl593_2
         clear hi593_2 hl593_2
         replace p593:=eq_true p593
         replace q593:=eq_true q593
         go_wp2_with (first | ((with_reducible refine gate_callee (f:=14) rfl ?_);refine goesL_ (some 37) rfl rfl Tryd.func14 (by kernel_rfl) rfl #[.agg #[.int .i64 ((rd_T25 t582 x7_1).f0),.int .i64 ((rd_T25 t582 x7_1).f1),.slice A593_2 ((rd_T25 t582 x7_1).f2).length c593_2]] rfl (by (try simp only [List.map_toArray,List.map_cons,List.map_nil]);first | done | rfl | (simp only [List.length_drop,List.length_take];rfl)) ?_;(with_reducible refine (impl_SealOk.calls k1 ((rd_T25 t582 x7_1).f0) ((rd_T25 t582 x7_1).f1) _ _ ((rd_T25 t582 x7_1).f2) true _ ?side1 ?side2 A25.out).mono ?_);(case side1=>repeat (first | exact (by repeat (first | (with_reducible exact HR593_2.out) | (with_reducible refine Kd.C_alloc ?_ _) | (with_reducible refine Kd.C_drewN ?_ _) | (with_reducible refine Kd.C_drew ?_) | exact HR593_2.out)) | (with_reducible refine Kd.C_alloc ?_ _) | (with_reducible refine Kd.C_drewN ?_ _) | (with_reducible refine Kd.C_drew ?_)));(case side2=>exact HC593_2.out);rintro e w29 ⟨rfl,hb⟩;refine ⟨_,rfl,?_⟩;have n0_:=Aside0.mk (Kd.N_below (by (with_reducible repeat (first | apply Kd.N_alloc | apply Kd.N_drewN | apply Kd.N_drew));exact HO_3.out) hb);have n1_:=Aside0.mk (Kd.V_below (by (with_reducible repeat (first | apply Kd.V_alloc | apply Kd.V_drewN | apply Kd.V_drew));exact HO_591002.out) hb);have n2_:=Aside0.mk (Kd.V_below (by (with_reducible repeat (first | apply Kd.V_alloc | apply Kd.V_drewN | apply Kd.V_drew));exact HL593_2.out) hb);have n3_:=Aside0.mk (blk_below (g:=gb590) (o:=.cells #[.int .i64 t585,.int .i64 t586,.slice Ao18 t587.length co18] 25 (0,0)) (by (with_reducible repeat (first | refine blk_drewN ?_ _ | refine blk_drew ?_ | refine blk_alloc ?_ _));exact BK590.out) hb);have n4_:=Aside0.mk (Kd.C_below (by repeat (first | (with_reducible exact HR593_2.out) | (with_reducible refine Kd.C_alloc ?_ _) | (with_reducible refine Kd.C_drewN ?_ _) | (with_reducible refine Kd.C_drew ?_) | exact HR593_2.out)) hb);have n5_:=Aside0.mk (below_step (by repeat (first | (with_reducible first | exact HB.out | apply below_alloc | apply pw_below_drewN | apply below_drew1 | refine below_set ?_ GE590.out) | exact HB.out)) hb);clear HO_3;clear HO_591002;clear HL593_2;clear BK590;clear HR593_2;clear HB;have HO_3:=n0_;have HO_591002:=n1_;have HL593_2:=n2_;have BK590:=n3_;have HR593_2:=n4_;have HB:=n5_;clear n0_ n1_ n2_ n3_ n4_ n5_;(try clear hb);(try clear hb2);(try clear hk);(try clear hi);have p595:0 ≤ (x7_1:Int):=of_decide_eq_true (by first | (with_reducible assumption) | assumption);have q595:x7_1 < (t582.length:Int):=of_decide_eq_true (by first | (with_reducible assumption) | assumption);obtain ⟨ad595,A595_2,c595_2,e595,hx595_0,hx595_1,hx595_2,hl595_2,hi595_2⟩:=at_T25 (Kd.N_reads' HO_3.out).2.2 x7_1 p595 q595;obtain rfl:ad593 = ad595:=(by injection e595);obtain ⟨ce595,hce595,hMe595,hcc595⟩:=Kd.N_get HO_3.out z25 x7_1 p595 (by first | exact q595 | exact of_decide_eq_true (by first | (with_reducible assumption) | assumption) | (have e_:=(Kd.N_reads' HO_3.out).1;omega));obtain ⟨ua595_2,uc595_2,rfl,ul595_2,ge595_2⟩:=k25_openF hMe595;have hv595_2:=hcc595 2 _ rfl;rw [add_field _ _ 2 (by omega)] at hv595_2;replace hv595_2:=Option.some.inj (hv595_2.symm.trans hx595_2);injection hv595_2 with hva_ hvn_ hvc_;rw [hva_] at ge595_2;rw [hvc_] at ul595_2;have HL595_2:=Aside0.mk (show Kd.V k25 25 _ w.heap.size _ _ ((rd_T25 t582 x7_1).f2) from Kd.V_mk ul595_2 ge595_2);clear hva_ hvn_ hvc_ ge595_2 ul595_2;clear hcc595 hce595;have HR595_2:=Aside0.mk hi595_2;have HC595_2:=Aside0.mk hl595_2;clear hi595_2 hl595_2;replace p595:=eq_true p595;replace q595:=eq_true q595) | (go_at_call 17;(with_reducible show Calls _ _ #[.agg #[.int .i64 0,.int .i64 8,_],_] _ _);(refine (impl_SealUnder.calls k1 0 8 _ _ ([]:List (S25)) ((rd_T25 t582 x7_1).f0) ((rd_T25 t582 x7_1).f1) _ _ ((rd_T25 t582 x7_1).f2) true _ ?side1 ?side2 ?side3 ?side4 A27.out).mono ?_);(case side1=>exact Kd.C_nil _ _);(case side2=>exact Nat.le_refl _);(case side3=>repeat (first | exact (by repeat (first | (with_reducible exact HR595_2.out) | (with_reducible refine Kd.C_alloc ?_ _) | (with_reducible refine Kd.C_drewN ?_ _) | (with_reducible refine Kd.C_drew ?_) | exact HR595_2.out)) | (with_reducible refine Kd.C_alloc ?_ _) | (with_reducible refine Kd.C_drewN ?_ _) | (with_reducible refine Kd.C_drew ?_)));(case side4=>exact HC595_2.out);rintro e w30 ⟨rfl,hb⟩;have n0_:=Aside0.mk (Kd.N_below (by (with_reducible repeat (first | apply Kd.N_alloc | apply Kd.N_drewN | apply Kd.N_drew));exact HO_3.out) hb);have n1_:=Aside0.mk (Kd.V_below (by (with_reducible repeat (first | apply Kd.V_alloc | apply Kd.V_drewN | apply Kd.V_drew));exact HO_591002.out) hb);have n2_:=Aside0.mk (Kd.V_below (by (with_reducible repeat (first | apply Kd.V_alloc | apply Kd.V_drewN | apply Kd.V_drew));exact HL593_2.out) hb);have n3_:=Aside0.mk (Kd.V_below (by (with_reducible repeat (first | apply Kd.V_alloc | apply Kd.V_drewN | apply Kd.V_drew));exact HL595_2.out) hb);have n4_:=Aside0.mk (blk_below (g:=gb590) (o:=.cells #[.int .i64 t585,.int .i64 t586,.slice Ao18 t587.length co18] 25 (0,0)) (by (with_reducible repeat (first | refine blk_drewN ?_ _ | refine blk_drew ?_ | refine blk_alloc ?_ _));exact BK590.out) hb);have n5_:=Aside0.mk (Kd.C_below (by repeat (first | (with_reducible exact HR593_2.out) | (with_reducible refine Kd.C_alloc ?_ _) | (with_reducible refine Kd.C_drewN ?_ _) | (with_reducible refine Kd.C_drew ?_) | exact HR593_2.out)) hb);have n6_:=Aside0.mk (Kd.C_below (by repeat (first | (with_reducible exact HR595_2.out) | (with_reducible refine Kd.C_alloc ?_ _) | (with_reducible refine Kd.C_drewN ?_ _) | (with_reducible refine Kd.C_drew ?_) | exact HR595_2.out)) hb);have n7_:=Aside0.mk (below_step (by repeat (first | (with_reducible first | exact HB.out | apply below_alloc | apply pw_below_drewN | apply below_drew1 | refine below_set ?_ GE590.out) | exact HB.out)) hb);clear HO_3;clear HO_591002;clear HL593_2;clear HL595_2;clear BK590;clear HR593_2;clear HR595_2;clear HB;have HO_3:=n0_;have HO_591002:=n1_;have HL593_2:=n2_;have HL595_2:=n3_;have BK590:=n4_;have HR593_2:=n5_;have HR595_2:=n6_;have HB:=n7_;clear n0_ n1_ n2_ n3_ n4_ n5_ n6_ n7_;(try clear hb);(try clear hb2);(try clear hk);(try clear hi)))
         go_ret
         exact ⟨by first | rfl | (simp [errW_none,errW_some] <;> rfl) | (simp [*,errW_none,errW_some] <;> rfl),by repeat (first | (with_reducible first | exact HB.out | apply below_alloc | apply pw_below_drewN | apply below_drew1 | refine below_set ?_ GE590.out) | exact HB.out)⟩
        ·replace c28:=Bool.eq_false_iff.mpr c28
         subst c28
         have H1:((impl_SealUnder.f k1 0 9 ([]:List (S25)) ((rd_T25 t582 x7_1).f0) ((rd_T25 t582 x7_1).f1) ((rd_T25 t582 x7_1).f2)).bind fun t598=>(if t598 = true then (some true) else (laws_FnSecretKept.l0 k1 t582 (wrap64 (x7_1 + 1))))) = some r:=by rw [if_neg (show ¬ (false = true) by decide)] at H;exact H
         clear H
         have H:=H1
         clear H1
         replace H:=Option.bind_eq_some_iff.mp H
         obtain ⟨t598,A310,H⟩:=H
         replace H:(if t598 = true then (some true) else (laws_FnSecretKept.l0 k1 t582 (wrap64 (x7_1 + 1)))) = some r:=H
         have A31:=Aside0.mk A310
         clear A310
         by_cases c32:t598 = true
         ·subst c32
          have H1:(some true) = some r:=by rw [if_pos rfl] at H;exact H
          clear H
          have H:=H1
          clear H1
          obtain rfl:=Option.some.inj H
          have p593:0 ≤ (x7_1:Int):=of_decide_eq_true (by first | (with_reducible assumption) | assumption)
          have q593:x7_1 < (t582.length:Int):=of_decide_eq_true (by first | (with_reducible assumption) | assumption)
          obtain ⟨ad593,A593_2,c593_2,e593,hx593_0,hx593_1,hx593_2,hl593_2,hi593_2⟩:=at_T25 (Kd.N_reads' HO_3.out).2.2 x7_1 p593 q593
          cases e593
          obtain ⟨ce593,hce593,hMe593,hcc593⟩:=Kd.N_get HO_3.out z25 x7_1 p593 (by first | exact q593 | exact of_decide_eq_true (by first | (with_reducible assumption) | assumption) | (have e_:=(Kd.N_reads' HO_3.out).1;omega))
          obtain ⟨ua593_2,uc593_2,rfl,ul593_2,ge593_2⟩:=k25_openF hMe593
          have hv593_2:=hcc593 2 _ rfl
          rw [add_field _ _ 2 (by omega)] at hv593_2
          replace hv593_2:=Option.some.inj (hv593_2.symm.trans hx593_2)
          injection hv593_2 with hva_ hvn_ hvc_
          rw [hva_] at ge593_2
          rw [hvc_] at ul593_2
          have HL593_2:=Aside0.mk (show Kd.V k25 25 _ w.heap.size _ _ ((rd_T25 t582 x7_1).f2) from Kd.V_mk ul593_2 ge593_2)
          clear hva_ hvn_ hvc_ ge593_2 ul593_2
          clear hcc593 hce593
          have HR593_2:=Aside0.mk hi593_2
          have HC593_2:=Aside0.mk hl593_2
          clear hi593_2 hl593_2
          replace p593:=eq_true p593
          replace q593:=eq_true q593
          go_wp2_with (first | ((with_reducible refine gate_callee (f:=14) rfl ?_);refine goesL_ (some 37) rfl rfl Tryd.func14 (by kernel_rfl) rfl #[.agg #[.int .i64 ((rd_T25 t582 x7_1).f0),.int .i64 ((rd_T25 t582 x7_1).f1),.slice A593_2 ((rd_T25 t582 x7_1).f2).length c593_2]] rfl (by (try simp only [List.map_toArray,List.map_cons,List.map_nil]);first | done | rfl | (simp only [List.length_drop,List.length_take];rfl)) ?_;(with_reducible refine (impl_SealOk.calls k1 ((rd_T25 t582 x7_1).f0) ((rd_T25 t582 x7_1).f1) _ _ ((rd_T25 t582 x7_1).f2) true _ ?side1 ?side2 A25.out).mono ?_);(case side1=>repeat (first | exact (by repeat (first | (with_reducible exact HR593_2.out) | (with_reducible refine Kd.C_alloc ?_ _) | (with_reducible refine Kd.C_drewN ?_ _) | (with_reducible refine Kd.C_drew ?_) | exact HR593_2.out)) | (with_reducible refine Kd.C_alloc ?_ _) | (with_reducible refine Kd.C_drewN ?_ _) | (with_reducible refine Kd.C_drew ?_)));(case side2=>exact HC593_2.out);rintro e w33 ⟨rfl,hb⟩;refine ⟨_,rfl,?_⟩;have n0_:=Aside0.mk (Kd.N_below (by (with_reducible repeat (first | apply Kd.N_alloc | apply Kd.N_drewN | apply Kd.N_drew));exact HO_3.out) hb);have n1_:=Aside0.mk (Kd.V_below (by (with_reducible repeat (first | apply Kd.V_alloc | apply Kd.V_drewN | apply Kd.V_drew));exact HO_591002.out) hb);have n2_:=Aside0.mk (Kd.V_below (by (with_reducible repeat (first | apply Kd.V_alloc | apply Kd.V_drewN | apply Kd.V_drew));exact HL593_2.out) hb);have n3_:=Aside0.mk (blk_below (g:=gb590) (o:=.cells #[.int .i64 t585,.int .i64 t586,.slice Ao18 t587.length co18] 25 (0,0)) (by (with_reducible repeat (first | refine blk_drewN ?_ _ | refine blk_drew ?_ | refine blk_alloc ?_ _));exact BK590.out) hb);have n4_:=Aside0.mk (Kd.C_below (by repeat (first | (with_reducible exact HR593_2.out) | (with_reducible refine Kd.C_alloc ?_ _) | (with_reducible refine Kd.C_drewN ?_ _) | (with_reducible refine Kd.C_drew ?_) | exact HR593_2.out)) hb);have n5_:=Aside0.mk (below_step (by repeat (first | (with_reducible first | exact HB.out | apply below_alloc | apply pw_below_drewN | apply below_drew1 | refine below_set ?_ GE590.out) | exact HB.out)) hb);clear HO_3;clear HO_591002;clear HL593_2;clear BK590;clear HR593_2;clear HB;have HO_3:=n0_;have HO_591002:=n1_;have HL593_2:=n2_;have BK590:=n3_;have HR593_2:=n4_;have HB:=n5_;clear n0_ n1_ n2_ n3_ n4_ n5_;(try clear hb);(try clear hb2);(try clear hk);(try clear hi);have p595:0 ≤ (x7_1:Int):=of_decide_eq_true (by first | (with_reducible assumption) | assumption);have q595:x7_1 < (t582.length:Int):=of_decide_eq_true (by first | (with_reducible assumption) | assumption);obtain ⟨ad595,A595_2,c595_2,e595,hx595_0,hx595_1,hx595_2,hl595_2,hi595_2⟩:=at_T25 (Kd.N_reads' HO_3.out).2.2 x7_1 p595 q595;obtain rfl:ad593 = ad595:=(by injection e595);obtain ⟨ce595,hce595,hMe595,hcc595⟩:=Kd.N_get HO_3.out z25 x7_1 p595 (by first | exact q595 | exact of_decide_eq_true (by first | (with_reducible assumption) | assumption) | (have e_:=(Kd.N_reads' HO_3.out).1;omega));obtain ⟨ua595_2,uc595_2,rfl,ul595_2,ge595_2⟩:=k25_openF hMe595;have hv595_2:=hcc595 2 _ rfl;rw [add_field _ _ 2 (by omega)] at hv595_2;replace hv595_2:=Option.some.inj (hv595_2.symm.trans hx595_2);injection hv595_2 with hva_ hvn_ hvc_;rw [hva_] at ge595_2;rw [hvc_] at ul595_2;have HL595_2:=Aside0.mk (show Kd.V k25 25 _ w.heap.size _ _ ((rd_T25 t582 x7_1).f2) from Kd.V_mk ul595_2 ge595_2);clear hva_ hvn_ hvc_ ge595_2 ul595_2;clear hcc595 hce595;have HR595_2:=Aside0.mk hi595_2;have HC595_2:=Aside0.mk hl595_2;clear hi595_2 hl595_2;replace p595:=eq_true p595;replace q595:=eq_true q595) | (go_at_call 17;(with_reducible show Calls _ _ #[.agg #[.int .i64 0,.int .i64 8,_],_] _ _);(refine (impl_SealUnder.calls k1 0 8 _ _ ([]:List (S25)) ((rd_T25 t582 x7_1).f0) ((rd_T25 t582 x7_1).f1) _ _ ((rd_T25 t582 x7_1).f2) false _ ?side1 ?side2 ?side3 ?side4 A27.out).mono ?_);(case side1=>exact Kd.C_nil _ _);(case side2=>exact Nat.le_refl _);(case side3=>repeat (first | exact (by repeat (first | (with_reducible exact HR595_2.out) | (with_reducible refine Kd.C_alloc ?_ _) | (with_reducible refine Kd.C_drewN ?_ _) | (with_reducible refine Kd.C_drew ?_) | exact HR595_2.out)) | (with_reducible refine Kd.C_alloc ?_ _) | (with_reducible refine Kd.C_drewN ?_ _) | (with_reducible refine Kd.C_drew ?_)));(case side4=>exact HC595_2.out);rintro e w34 ⟨rfl,hb⟩;have n0_:=Aside0.mk (Kd.N_below (by (with_reducible repeat (first | apply Kd.N_alloc | apply Kd.N_drewN | apply Kd.N_drew));exact HO_3.out) hb);have n1_:=Aside0.mk (Kd.V_below (by (with_reducible repeat (first | apply Kd.V_alloc | apply Kd.V_drewN | apply Kd.V_drew));exact HO_591002.out) hb);have n2_:=Aside0.mk (Kd.V_below (by (with_reducible repeat (first | apply Kd.V_alloc | apply Kd.V_drewN | apply Kd.V_drew));exact HL593_2.out) hb);have n3_:=Aside0.mk (Kd.V_below (by (with_reducible repeat (first | apply Kd.V_alloc | apply Kd.V_drewN | apply Kd.V_drew));exact HL595_2.out) hb);have n4_:=Aside0.mk (blk_below (g:=gb590) (o:=.cells #[.int .i64 t585,.int .i64 t586,.slice Ao18 t587.length co18] 25 (0,0)) (by (with_reducible repeat (first | refine blk_drewN ?_ _ | refine blk_drew ?_ | refine blk_alloc ?_ _));exact BK590.out) hb);have n5_:=Aside0.mk (Kd.C_below (by repeat (first | (with_reducible exact HR593_2.out) | (with_reducible refine Kd.C_alloc ?_ _) | (with_reducible refine Kd.C_drewN ?_ _) | (with_reducible refine Kd.C_drew ?_) | exact HR593_2.out)) hb);have n6_:=Aside0.mk (Kd.C_below (by repeat (first | (with_reducible exact HR595_2.out) | (with_reducible refine Kd.C_alloc ?_ _) | (with_reducible refine Kd.C_drewN ?_ _) | (with_reducible refine Kd.C_drew ?_) | exact HR595_2.out)) hb);have n7_:=Aside0.mk (below_step (by repeat (first | (with_reducible first | exact HB.out | apply below_alloc | apply pw_below_drewN | apply below_drew1 | refine below_set ?_ GE590.out) | exact HB.out)) hb);clear HO_3;clear HO_591002;clear HL593_2;clear HL595_2;clear BK590;clear HR593_2;clear HR595_2;clear HB;have HO_3:=n0_;have HO_591002:=n1_;have HL593_2:=n2_;have HL595_2:=n3_;have BK590:=n4_;have HR593_2:=n5_;have HR595_2:=n6_;have HB:=n7_;clear n0_ n1_ n2_ n3_ n4_ n5_ n6_ n7_;(try clear hb);(try clear hb2);(try clear hk);(try clear hi);have p597:0 ≤ (x7_1:Int):=of_decide_eq_true (by first | (with_reducible assumption) | assumption);have q597:x7_1 < (t582.length:Int):=of_decide_eq_true (by first | (with_reducible assumption) | assumption);obtain ⟨ad597,A597_2,c597_2,e597,hx597_0,hx597_1,hx597_2,hl597_2,hi597_2⟩:=at_T25 (Kd.N_reads' HO_3.out).2.2 x7_1 p597 q597;obtain rfl:ad593 = ad597:=(by injection e597);obtain ⟨ce597,hce597,hMe597,hcc597⟩:=Kd.N_get HO_3.out z25 x7_1 p597 (by first | exact q597 | exact of_decide_eq_true (by first | (with_reducible assumption) | assumption) | (have e_:=(Kd.N_reads' HO_3.out).1;omega));obtain ⟨ua597_2,uc597_2,rfl,ul597_2,ge597_2⟩:=k25_openF hMe597;have hv597_2:=hcc597 2 _ rfl;rw [add_field _ _ 2 (by omega)] at hv597_2;replace hv597_2:=Option.some.inj (hv597_2.symm.trans hx597_2);injection hv597_2 with hva_ hvn_ hvc_;rw [hva_] at ge597_2;rw [hvc_] at ul597_2;have HL597_2:=Aside0.mk (show Kd.V k25 25 _ w.heap.size _ _ ((rd_T25 t582 x7_1).f2) from Kd.V_mk ul597_2 ge597_2);clear hva_ hvn_ hvc_ ge597_2 ul597_2;clear hcc597 hce597;have HR597_2:=Aside0.mk hi597_2;have HC597_2:=Aside0.mk hl597_2;clear hi597_2 hl597_2;replace p597:=eq_true p597;replace q597:=eq_true q597) | (go_at_call 17;(with_reducible show Calls _ _ #[.agg #[.int .i64 0,.int .i64 9,_],_] _ _);(refine (impl_SealUnder.calls k1 0 9 _ _ ([]:List (S25)) ((rd_T25 t582 x7_1).f0) ((rd_T25 t582 x7_1).f1) _ _ ((rd_T25 t582 x7_1).f2) true _ ?side1 ?side2 ?side3 ?side4 A31.out).mono ?_);(case side1=>exact Kd.C_nil _ _);(case side2=>exact Nat.le_refl _);(case side3=>repeat (first | exact (by repeat (first | (with_reducible exact HR597_2.out) | (with_reducible refine Kd.C_alloc ?_ _) | (with_reducible refine Kd.C_drewN ?_ _) | (with_reducible refine Kd.C_drew ?_) | exact HR597_2.out)) | (with_reducible refine Kd.C_alloc ?_ _) | (with_reducible refine Kd.C_drewN ?_ _) | (with_reducible refine Kd.C_drew ?_)));(case side4=>exact HC597_2.out);rintro e w35 ⟨rfl,hb⟩;have n0_:=Aside0.mk (Kd.N_below (by (with_reducible repeat (first | apply Kd.N_alloc | apply Kd.N_drewN | apply Kd.N_drew));exact HO_3.out) hb);have n1_:=Aside0.mk (Kd.V_below (by (with_reducible repeat (first | apply Kd.V_alloc | apply Kd.V_drewN | apply Kd.V_drew));exact HO_591002.out) hb);have n2_:=Aside0.mk (Kd.V_below (by (with_reducible repeat (first | apply Kd.V_alloc | apply Kd.V_drewN | apply Kd.V_drew));exact HL593_2.out) hb);have n3_:=Aside0.mk (Kd.V_below (by (with_reducible repeat (first | apply Kd.V_alloc | apply Kd.V_drewN | apply Kd.V_drew));exact HL595_2.out) hb);have n4_:=Aside0.mk (Kd.V_below (by (with_reducible repeat (first | apply Kd.V_alloc | apply Kd.V_drewN | apply Kd.V_drew));exact HL597_2.out) hb);have n5_:=Aside0.mk (blk_below (g:=gb590) (o:=.cells #[.int .i64 t585,.int .i64 t586,.slice Ao18 t587.length co18] 25 (0,0)) (by (with_reducible repeat (first | refine blk_drewN ?_ _ | refine blk_drew ?_ | refine blk_alloc ?_ _));exact BK590.out) hb);have n6_:=Aside0.mk (Kd.C_below (by repeat (first | (with_reducible exact HR593_2.out) | (with_reducible refine Kd.C_alloc ?_ _) | (with_reducible refine Kd.C_drewN ?_ _) | (with_reducible refine Kd.C_drew ?_) | exact HR593_2.out)) hb);have n7_:=Aside0.mk (Kd.C_below (by repeat (first | (with_reducible exact HR595_2.out) | (with_reducible refine Kd.C_alloc ?_ _) | (with_reducible refine Kd.C_drewN ?_ _) | (with_reducible refine Kd.C_drew ?_) | exact HR595_2.out)) hb);have n8_:=Aside0.mk (Kd.C_below (by repeat (first | (with_reducible exact HR597_2.out) | (with_reducible refine Kd.C_alloc ?_ _) | (with_reducible refine Kd.C_drewN ?_ _) | (with_reducible refine Kd.C_drew ?_) | exact HR597_2.out)) hb);have n9_:=Aside0.mk (below_step (by repeat (first | (with_reducible first | exact HB.out | apply below_alloc | apply pw_below_drewN | apply below_drew1 | refine below_set ?_ GE590.out) | exact HB.out)) hb);clear HO_3;clear HO_591002;clear HL593_2;clear HL595_2;clear HL597_2;clear BK590;clear HR593_2;clear HR595_2;clear HR597_2;clear HB;have HO_3:=n0_;have HO_591002:=n1_;have HL593_2:=n2_;have HL595_2:=n3_;have HL597_2:=n4_;have BK590:=n5_;have HR593_2:=n6_;have HR595_2:=n7_;have HR597_2:=n8_;have HB:=n9_;clear n0_ n1_ n2_ n3_ n4_ n5_ n6_ n7_ n8_ n9_;(try clear hb);(try clear hb2);(try clear hk);(try clear hi)))
          go_ret
          exact ⟨by first | rfl | (simp [errW_none,errW_some] <;> rfl) | (simp [*,errW_none,errW_some] <;> rfl),by repeat (first | (with_reducible first | exact HB.out | apply below_alloc | apply pw_below_drewN | apply below_drew1 | refine below_set ?_ GE590.out) | exact HB.out)⟩
         ·replace c32:=Bool.eq_false_iff.mpr c32
          subst c32
          have H1:(laws_FnSecretKept.l0 k1 t582 (wrap64 (x7_1 + 1))) = some r:=by rw [if_neg (show ¬ (false = true) by decide)] at H;exact H
          clear H
          have H:=H1
          clear H1
          have H':=Aside0.mk H
          clear H
          have p593:0 ≤ (x7_1:Int):=of_decide_eq_true (by first | (with_reducible assumption) | assumption)
          have q593:x7_1 < (t582.length:Int):=of_decide_eq_true (by first | (with_reducible assumption) | assumption)
          obtain ⟨ad593,A593_2,c593_2,e593,hx593_0,hx593_1,hx593_2,hl593_2,hi593_2⟩:=at_T25 (Kd.N_reads' HO_3.out).2.2 x7_1 p593 q593
          cases e593
          obtain ⟨ce593,hce593,hMe593,hcc593⟩:=Kd.N_get HO_3.out z25 x7_1 p593 (by first | exact q593 | exact of_decide_eq_true (by first | (with_reducible assumption) | assumption) | (have e_:=(Kd.N_reads' HO_3.out).1;omega))
          obtain ⟨ua593_2,uc593_2,rfl,ul593_2,ge593_2⟩:=k25_openF hMe593
          have hv593_2:=hcc593 2 _ rfl
          rw [add_field _ _ 2 (by omega)] at hv593_2
          replace hv593_2:=Option.some.inj (hv593_2.symm.trans hx593_2)
          injection hv593_2 with hva_ hvn_ hvc_
          rw [hva_] at ge593_2
          rw [hvc_] at ul593_2
          have HL593_2:=Aside0.mk (show Kd.V k25 25 _ w.heap.size _ _ ((rd_T25 t582 x7_1).f2) from Kd.V_mk ul593_2 ge593_2)
          clear hva_ hvn_ hvc_ ge593_2 ul593_2
          clear hcc593 hce593
          have HR593_2:=Aside0.mk hi593_2
          have HC593_2:=Aside0.mk hl593_2
          clear hi593_2 hl593_2
          replace p593:=eq_true p593
          replace q593:=eq_true q593
          go_wp2_with (first | ((with_reducible refine gate_callee (f:=14) rfl ?_);refine goesL_ (some 37) rfl rfl Tryd.func14 (by kernel_rfl) rfl #[.agg #[.int .i64 ((rd_T25 t582 x7_1).f0),.int .i64 ((rd_T25 t582 x7_1).f1),.slice A593_2 ((rd_T25 t582 x7_1).f2).length c593_2]] rfl (by (try simp only [List.map_toArray,List.map_cons,List.map_nil]);first | done | rfl | (simp only [List.length_drop,List.length_take];rfl)) ?_;(with_reducible refine (impl_SealOk.calls k1 ((rd_T25 t582 x7_1).f0) ((rd_T25 t582 x7_1).f1) _ _ ((rd_T25 t582 x7_1).f2) true _ ?side1 ?side2 A25.out).mono ?_);(case side1=>repeat (first | exact (by repeat (first | (with_reducible exact HR593_2.out) | (with_reducible refine Kd.C_alloc ?_ _) | (with_reducible refine Kd.C_drewN ?_ _) | (with_reducible refine Kd.C_drew ?_) | exact HR593_2.out)) | (with_reducible refine Kd.C_alloc ?_ _) | (with_reducible refine Kd.C_drewN ?_ _) | (with_reducible refine Kd.C_drew ?_)));(case side2=>exact HC593_2.out);rintro e w36 ⟨rfl,hb⟩;refine ⟨_,rfl,?_⟩;have n0_:=Aside0.mk (Kd.N_below (by (with_reducible repeat (first | apply Kd.N_alloc | apply Kd.N_drewN | apply Kd.N_drew));exact HO_3.out) hb);have n1_:=Aside0.mk (Kd.V_below (by (with_reducible repeat (first | apply Kd.V_alloc | apply Kd.V_drewN | apply Kd.V_drew));exact HO_591002.out) hb);have n2_:=Aside0.mk (Kd.V_below (by (with_reducible repeat (first | apply Kd.V_alloc | apply Kd.V_drewN | apply Kd.V_drew));exact HL593_2.out) hb);have n3_:=Aside0.mk (blk_below (g:=gb590) (o:=.cells #[.int .i64 t585,.int .i64 t586,.slice Ao18 t587.length co18] 25 (0,0)) (by (with_reducible repeat (first | refine blk_drewN ?_ _ | refine blk_drew ?_ | refine blk_alloc ?_ _));exact BK590.out) hb);have n4_:=Aside0.mk (Kd.C_below (by repeat (first | (with_reducible exact HR593_2.out) | (with_reducible refine Kd.C_alloc ?_ _) | (with_reducible refine Kd.C_drewN ?_ _) | (with_reducible refine Kd.C_drew ?_) | exact HR593_2.out)) hb);have n5_:=Aside0.mk (below_step (by repeat (first | (with_reducible first | exact HB.out | apply below_alloc | apply pw_below_drewN | apply below_drew1 | refine below_set ?_ GE590.out) | exact HB.out)) hb);clear HO_3;clear HO_591002;clear HL593_2;clear BK590;clear HR593_2;clear HB;have HO_3:=n0_;have HO_591002:=n1_;have HL593_2:=n2_;have BK590:=n3_;have HR593_2:=n4_;have HB:=n5_;clear n0_ n1_ n2_ n3_ n4_ n5_;(try clear hb);(try clear hb2);(try clear hk);(try clear hi);have p595:0 ≤ (x7_1:Int):=of_decide_eq_true (by first | (with_reducible assumption) | assumption);have q595:x7_1 < (t582.length:Int):=of_decide_eq_true (by first | (with_reducible assumption) | assumption);obtain ⟨ad595,A595_2,c595_2,e595,hx595_0,hx595_1,hx595_2,hl595_2,hi595_2⟩:=at_T25 (Kd.N_reads' HO_3.out).2.2 x7_1 p595 q595;obtain rfl:ad593 = ad595:=(by injection e595);obtain ⟨ce595,hce595,hMe595,hcc595⟩:=Kd.N_get HO_3.out z25 x7_1 p595 (by first | exact q595 | exact of_decide_eq_true (by first | (with_reducible assumption) | assumption) | (have e_:=(Kd.N_reads' HO_3.out).1;omega));obtain ⟨ua595_2,uc595_2,rfl,ul595_2,ge595_2⟩:=k25_openF hMe595;have hv595_2:=hcc595 2 _ rfl;rw [add_field _ _ 2 (by omega)] at hv595_2;replace hv595_2:=Option.some.inj (hv595_2.symm.trans hx595_2);injection hv595_2 with hva_ hvn_ hvc_;rw [hva_] at ge595_2;rw [hvc_] at ul595_2;have HL595_2:=Aside0.mk (show Kd.V k25 25 _ w.heap.size _ _ ((rd_T25 t582 x7_1).f2) from Kd.V_mk ul595_2 ge595_2);clear hva_ hvn_ hvc_ ge595_2 ul595_2;clear hcc595 hce595;have HR595_2:=Aside0.mk hi595_2;have HC595_2:=Aside0.mk hl595_2;clear hi595_2 hl595_2;replace p595:=eq_true p595;replace q595:=eq_true q595) | (go_at_call 17;(with_reducible show Calls _ _ #[.agg #[.int .i64 0,.int .i64 8,_],_] _ _);(refine (impl_SealUnder.calls k1 0 8 _ _ ([]:List (S25)) ((rd_T25 t582 x7_1).f0) ((rd_T25 t582 x7_1).f1) _ _ ((rd_T25 t582 x7_1).f2) false _ ?side1 ?side2 ?side3 ?side4 A27.out).mono ?_);(case side1=>exact Kd.C_nil _ _);(case side2=>exact Nat.le_refl _);(case side3=>repeat (first | exact (by repeat (first | (with_reducible exact HR595_2.out) | (with_reducible refine Kd.C_alloc ?_ _) | (with_reducible refine Kd.C_drewN ?_ _) | (with_reducible refine Kd.C_drew ?_) | exact HR595_2.out)) | (with_reducible refine Kd.C_alloc ?_ _) | (with_reducible refine Kd.C_drewN ?_ _) | (with_reducible refine Kd.C_drew ?_)));(case side4=>exact HC595_2.out);rintro e w37 ⟨rfl,hb⟩;have n0_:=Aside0.mk (Kd.N_below (by (with_reducible repeat (first | apply Kd.N_alloc | apply Kd.N_drewN | apply Kd.N_drew));exact HO_3.out) hb);have n1_:=Aside0.mk (Kd.V_below (by (with_reducible repeat (first | apply Kd.V_alloc | apply Kd.V_drewN | apply Kd.V_drew));exact HO_591002.out) hb);have n2_:=Aside0.mk (Kd.V_below (by (with_reducible repeat (first | apply Kd.V_alloc | apply Kd.V_drewN | apply Kd.V_drew));exact HL593_2.out) hb);have n3_:=Aside0.mk (Kd.V_below (by (with_reducible repeat (first | apply Kd.V_alloc | apply Kd.V_drewN | apply Kd.V_drew));exact HL595_2.out) hb);have n4_:=Aside0.mk (blk_below (g:=gb590) (o:=.cells #[.int .i64 t585,.int .i64 t586,.slice Ao18 t587.length co18] 25 (0,0)) (by (with_reducible repeat (first | refine blk_drewN ?_ _ | refine blk_drew ?_ | refine blk_alloc ?_ _));exact BK590.out) hb);have n5_:=Aside0.mk (Kd.C_below (by repeat (first | (with_reducible exact HR593_2.out) | (with_reducible refine Kd.C_alloc ?_ _) | (with_reducible refine Kd.C_drewN ?_ _) | (with_reducible refine Kd.C_drew ?_) | exact HR593_2.out)) hb);have n6_:=Aside0.mk (Kd.C_below (by repeat (first | (with_reducible exact HR595_2.out) | (with_reducible refine Kd.C_alloc ?_ _) | (with_reducible refine Kd.C_drewN ?_ _) | (with_reducible refine Kd.C_drew ?_) | exact HR595_2.out)) hb);have n7_:=Aside0.mk (below_step (by repeat (first | (with_reducible first | exact HB.out | apply below_alloc | apply pw_below_drewN | apply below_drew1 | refine below_set ?_ GE590.out) | exact HB.out)) hb);clear HO_3;clear HO_591002;clear HL593_2;clear HL595_2;clear BK590;clear HR593_2;clear HR595_2;clear HB;have HO_3:=n0_;have HO_591002:=n1_;have HL593_2:=n2_;have HL595_2:=n3_;have BK590:=n4_;have HR593_2:=n5_;have HR595_2:=n6_;have HB:=n7_;clear n0_ n1_ n2_ n3_ n4_ n5_ n6_ n7_;(try clear hb);(try clear hb2);(try clear hk);(try clear hi);have p597:0 ≤ (x7_1:Int):=of_decide_eq_true (by first | (with_reducible assumption) | assumption);have q597:x7_1 < (t582.length:Int):=of_decide_eq_true (by first | (with_reducible assumption) | assumption);obtain ⟨ad597,A597_2,c597_2,e597,hx597_0,hx597_1,hx597_2,hl597_2,hi597_2⟩:=at_T25 (Kd.N_reads' HO_3.out).2.2 x7_1 p597 q597;obtain rfl:ad593 = ad597:=(by injection e597);obtain ⟨ce597,hce597,hMe597,hcc597⟩:=Kd.N_get HO_3.out z25 x7_1 p597 (by first | exact q597 | exact of_decide_eq_true (by first | (with_reducible assumption) | assumption) | (have e_:=(Kd.N_reads' HO_3.out).1;omega));obtain ⟨ua597_2,uc597_2,rfl,ul597_2,ge597_2⟩:=k25_openF hMe597;have hv597_2:=hcc597 2 _ rfl;rw [add_field _ _ 2 (by omega)] at hv597_2;replace hv597_2:=Option.some.inj (hv597_2.symm.trans hx597_2);injection hv597_2 with hva_ hvn_ hvc_;rw [hva_] at ge597_2;rw [hvc_] at ul597_2;have HL597_2:=Aside0.mk (show Kd.V k25 25 _ w.heap.size _ _ ((rd_T25 t582 x7_1).f2) from Kd.V_mk ul597_2 ge597_2);clear hva_ hvn_ hvc_ ge597_2 ul597_2;clear hcc597 hce597;have HR597_2:=Aside0.mk hi597_2;have HC597_2:=Aside0.mk hl597_2;clear hi597_2 hl597_2;replace p597:=eq_true p597;replace q597:=eq_true q597) | (go_at_call 17;(with_reducible show Calls _ _ #[.agg #[.int .i64 0,.int .i64 9,_],_] _ _);(refine (impl_SealUnder.calls k1 0 9 _ _ ([]:List (S25)) ((rd_T25 t582 x7_1).f0) ((rd_T25 t582 x7_1).f1) _ _ ((rd_T25 t582 x7_1).f2) false _ ?side1 ?side2 ?side3 ?side4 A31.out).mono ?_);(case side1=>exact Kd.C_nil _ _);(case side2=>exact Nat.le_refl _);(case side3=>repeat (first | exact (by repeat (first | (with_reducible exact HR597_2.out) | (with_reducible refine Kd.C_alloc ?_ _) | (with_reducible refine Kd.C_drewN ?_ _) | (with_reducible refine Kd.C_drew ?_) | exact HR597_2.out)) | (with_reducible refine Kd.C_alloc ?_ _) | (with_reducible refine Kd.C_drewN ?_ _) | (with_reducible refine Kd.C_drew ?_)));(case side4=>exact HC597_2.out);rintro e w38 ⟨rfl,hb⟩;have n0_:=Aside0.mk (Kd.N_below (by (with_reducible repeat (first | apply Kd.N_alloc | apply Kd.N_drewN | apply Kd.N_drew));exact HO_3.out) hb);have n1_:=Aside0.mk (Kd.V_below (by (with_reducible repeat (first | apply Kd.V_alloc | apply Kd.V_drewN | apply Kd.V_drew));exact HO_591002.out) hb);have n2_:=Aside0.mk (Kd.V_below (by (with_reducible repeat (first | apply Kd.V_alloc | apply Kd.V_drewN | apply Kd.V_drew));exact HL593_2.out) hb);have n3_:=Aside0.mk (Kd.V_below (by (with_reducible repeat (first | apply Kd.V_alloc | apply Kd.V_drewN | apply Kd.V_drew));exact HL595_2.out) hb);have n4_:=Aside0.mk (Kd.V_below (by (with_reducible repeat (first | apply Kd.V_alloc | apply Kd.V_drewN | apply Kd.V_drew));exact HL597_2.out) hb);have n5_:=Aside0.mk (blk_below (g:=gb590) (o:=.cells #[.int .i64 t585,.int .i64 t586,.slice Ao18 t587.length co18] 25 (0,0)) (by (with_reducible repeat (first | refine blk_drewN ?_ _ | refine blk_drew ?_ | refine blk_alloc ?_ _));exact BK590.out) hb);have n6_:=Aside0.mk (Kd.C_below (by repeat (first | (with_reducible exact HR593_2.out) | (with_reducible refine Kd.C_alloc ?_ _) | (with_reducible refine Kd.C_drewN ?_ _) | (with_reducible refine Kd.C_drew ?_) | exact HR593_2.out)) hb);have n7_:=Aside0.mk (Kd.C_below (by repeat (first | (with_reducible exact HR595_2.out) | (with_reducible refine Kd.C_alloc ?_ _) | (with_reducible refine Kd.C_drewN ?_ _) | (with_reducible refine Kd.C_drew ?_) | exact HR595_2.out)) hb);have n8_:=Aside0.mk (Kd.C_below (by repeat (first | (with_reducible exact HR597_2.out) | (with_reducible refine Kd.C_alloc ?_ _) | (with_reducible refine Kd.C_drewN ?_ _) | (with_reducible refine Kd.C_drew ?_) | exact HR597_2.out)) hb);have n9_:=Aside0.mk (below_step (by repeat (first | (with_reducible first | exact HB.out | apply below_alloc | apply pw_below_drewN | apply below_drew1 | refine below_set ?_ GE590.out) | exact HB.out)) hb);clear HO_3;clear HO_591002;clear HL593_2;clear HL595_2;clear HL597_2;clear BK590;clear HR593_2;clear HR595_2;clear HR597_2;clear HB;have HO_3:=n0_;have HO_591002:=n1_;have HL593_2:=n2_;have HL595_2:=n3_;have HL597_2:=n4_;have BK590:=n5_;have HR593_2:=n6_;have HR595_2:=n7_;have HR597_2:=n8_;have HB:=n9_;clear n0_ n1_ n2_ n3_ n4_ n5_ n6_ n7_ n8_ n9_;(try clear hb);(try clear hb2);(try clear hk);(try clear hi)))
          go_roundg k1
          case measure=>have:=HK1.out;omega
          case rel=>exact ⟨(wrap64 (x7_1 + 1)),(by first | rfl | (simp;done) | (simp [*];done)),H',⟨by have:=HK1.out;omega⟩,⟨by (with_reducible repeat (first | apply Kd.N_alloc | apply Kd.N_drewN | apply Kd.N_drew));exact HO_3.out⟩,⟨by (with_reducible repeat (first | apply Kd.V_alloc | apply Kd.V_drewN | apply Kd.V_drew));exact HO_591002.out⟩,⟨by (with_reducible repeat (first | refine blk_drewN ?_ _ | refine blk_drew ?_ | refine blk_alloc ?_ _));exact BK590.out⟩,⟨by repeat (first | (with_reducible first | exact HB.out | apply below_alloc | apply pw_below_drewN | apply below_drew1 | refine below_set ?_ GE590.out) | exact HB.out)⟩⟩
       ·replace c26:=Bool.eq_false_iff.mpr c26
        subst c26
        have H1:(some true) = some r:=by rw [if_neg (show ¬ (false = true) by decide)] at H;exact H
        clear H
        have H:=H1
        clear H1
        obtain rfl:=Option.some.inj H
        have p593:0 ≤ (x7_1:Int):=of_decide_eq_true (by first | (with_reducible assumption) | assumption)
        have q593:x7_1 < (t582.length:Int):=of_decide_eq_true (by first | (with_reducible assumption) | assumption)
        obtain ⟨ad593,A593_2,c593_2,e593,hx593_0,hx593_1,hx593_2,hl593_2,hi593_2⟩:=at_T25 (Kd.N_reads' HO_3.out).2.2 x7_1 p593 q593
        cases e593
        obtain ⟨ce593,hce593,hMe593,hcc593⟩:=Kd.N_get HO_3.out z25 x7_1 p593 (by first | exact q593 | exact of_decide_eq_true (by first | (with_reducible assumption) | assumption) | (have e_:=(Kd.N_reads' HO_3.out).1;omega))
        obtain ⟨ua593_2,uc593_2,rfl,ul593_2,ge593_2⟩:=k25_openF hMe593
        have hv593_2:=hcc593 2 _ rfl
        rw [add_field _ _ 2 (by omega)] at hv593_2
        replace hv593_2:=Option.some.inj (hv593_2.symm.trans hx593_2)
        injection hv593_2 with hva_ hvn_ hvc_
        rw [hva_] at ge593_2
        rw [hvc_] at ul593_2
        have HL593_2:=Aside0.mk (show Kd.V k25 25 _ w.heap.size _ _ ((rd_T25 t582 x7_1).f2) from Kd.V_mk ul593_2 ge593_2)
        clear hva_ hvn_ hvc_ ge593_2 ul593_2
        clear hcc593 hce593
        have HR593_2:=Aside0.mk hi593_2
        have HC593_2:=Aside0.mk hl593_2
        clear hi593_2 hl593_2
        replace p593:=eq_true p593
        replace q593:=eq_true q593
        go_wp2_with (first | ((with_reducible refine gate_callee (f:=14) rfl ?_);refine goesL_ (some 37) rfl rfl Tryd.func14 (by kernel_rfl) rfl #[.agg #[.int .i64 ((rd_T25 t582 x7_1).f0),.int .i64 ((rd_T25 t582 x7_1).f1),.slice A593_2 ((rd_T25 t582 x7_1).f2).length c593_2]] rfl (by (try simp only [List.map_toArray,List.map_cons,List.map_nil]);first | done | rfl | (simp only [List.length_drop,List.length_take];rfl)) ?_;(with_reducible refine (impl_SealOk.calls k1 ((rd_T25 t582 x7_1).f0) ((rd_T25 t582 x7_1).f1) _ _ ((rd_T25 t582 x7_1).f2) false _ ?side1 ?side2 A25.out).mono ?_);(case side1=>repeat (first | exact (by repeat (first | (with_reducible exact HR593_2.out) | (with_reducible refine Kd.C_alloc ?_ _) | (with_reducible refine Kd.C_drewN ?_ _) | (with_reducible refine Kd.C_drew ?_) | exact HR593_2.out)) | (with_reducible refine Kd.C_alloc ?_ _) | (with_reducible refine Kd.C_drewN ?_ _) | (with_reducible refine Kd.C_drew ?_)));(case side2=>exact HC593_2.out);rintro e w39 ⟨rfl,hb⟩;refine ⟨_,rfl,?_⟩;have n0_:=Aside0.mk (Kd.N_below (by (with_reducible repeat (first | apply Kd.N_alloc | apply Kd.N_drewN | apply Kd.N_drew));exact HO_3.out) hb);have n1_:=Aside0.mk (Kd.V_below (by (with_reducible repeat (first | apply Kd.V_alloc | apply Kd.V_drewN | apply Kd.V_drew));exact HO_591002.out) hb);have n2_:=Aside0.mk (Kd.V_below (by (with_reducible repeat (first | apply Kd.V_alloc | apply Kd.V_drewN | apply Kd.V_drew));exact HL593_2.out) hb);have n3_:=Aside0.mk (blk_below (g:=gb590) (o:=.cells #[.int .i64 t585,.int .i64 t586,.slice Ao18 t587.length co18] 25 (0,0)) (by (with_reducible repeat (first | refine blk_drewN ?_ _ | refine blk_drew ?_ | refine blk_alloc ?_ _));exact BK590.out) hb);have n4_:=Aside0.mk (Kd.C_below (by repeat (first | (with_reducible exact HR593_2.out) | (with_reducible refine Kd.C_alloc ?_ _) | (with_reducible refine Kd.C_drewN ?_ _) | (with_reducible refine Kd.C_drew ?_) | exact HR593_2.out)) hb);have n5_:=Aside0.mk (below_step (by repeat (first | (with_reducible first | exact HB.out | apply below_alloc | apply pw_below_drewN | apply below_drew1 | refine below_set ?_ GE590.out) | exact HB.out)) hb);clear HO_3;clear HO_591002;clear HL593_2;clear BK590;clear HR593_2;clear HB;have HO_3:=n0_;have HO_591002:=n1_;have HL593_2:=n2_;have BK590:=n3_;have HR593_2:=n4_;have HB:=n5_;clear n0_ n1_ n2_ n3_ n4_ n5_;(try clear hb);(try clear hb2);(try clear hk);(try clear hi)))
        go_ret
        exact ⟨by first | rfl | (simp [errW_none,errW_some] <;> rfl) | (simp [*,errW_none,errW_some] <;> rfl),by repeat (first | (with_reducible first | exact HB.out | apply below_alloc | apply pw_below_drewN | apply below_drew1 | refine below_set ?_ GE590.out) | exact HB.out)⟩
      ·rw [if_neg c24] at H
       exact absurd H (by simp)
     ·rw [if_neg c23] at H
      have c23b0:decide (x7_1 < (t582.length:Int)) = false:=decide_eq_false c23
      clear c23
      by_cases c40:(wrap64 ((t582.length:Int) + 2)) > 6
      ·rw [if_pos c40] at H
       have c40b0:decide (6 < (wrap64 ((t582.length:Int) + 2))) = true:=decide_eq_true c40
       clear c40
       obtain rfl:=Option.some.inj H
       go_wp2
       go_ret
       exact ⟨by first | rfl | (simp [errW_none,errW_some] <;> rfl) | (simp [*,errW_none,errW_some] <;> rfl),by repeat (first | (with_reducible first | exact HB.out | apply below_alloc | apply pw_below_drewN | apply below_drew1 | refine below_set ?_ GE590.out) | exact HB.out)⟩
      ·rw [if_neg c40] at H
       have c40b0:decide (6 < (wrap64 ((t582.length:Int) + 2))) = false:=decide_eq_false c40
       clear c40
       obtain ⟨y599,hy599⟩:∃ y_:List (S25),y_ = (([]:List (S25))):=⟨_,rfl⟩
       replace H:(if y599.length + t582.length < 3518437208883 then ((some (y599 ++ t582:List (S25))).bind fun y602=>(if y602.length < 3518437208883 then (laws_FnSecretKept.l1 k1 t582 (y602 ++ [(⟨2,0,(([(⟨0,9,([]:List (S25))⟩:S25),(⟨0,8,([]:List (S25))⟩:S25)]:List (S25)))⟩:S25)]) 0) else (none))) else (none)) = some r:=by first | (rw [hy599];with_reducible exact H) | (have H2_:=(Option.bind_some _ _).symm.trans H;rw [hy599];with_reducible exact H2_) | (have H2_:=(Option.bind_some _ _).symm.trans H;with_reducible exact H2_) | with_reducible exact H | (rw [hy599];exact H) | exact H
       have Ny599:=Aside0.mk hy599
       clear hy599
       by_cases c41:y599.length + t582.length < 3518437208883
       ·rw [if_pos c41] at H
        have LMc41:=Aside0.mk c41
        clear c41
        obtain ⟨y602,hy602⟩:∃ y_:List (S25),y_ = (y599 ++ t582):=⟨_,rfl⟩
        replace H:(if y602.length < 3518437208883 then (laws_FnSecretKept.l1 k1 t582 (y602 ++ [(⟨2,0,(([(⟨0,9,([]:List (S25))⟩:S25),(⟨0,8,([]:List (S25))⟩:S25)]:List (S25)))⟩:S25)]) 0) else (none)) = some r:=by first | (rw [hy602];with_reducible exact H) | (have H2_:=(Option.bind_some _ _).symm.trans H;rw [hy602];with_reducible exact H2_) | (have H2_:=(Option.bind_some _ _).symm.trans H;with_reducible exact H2_) | with_reducible exact H | (rw [hy602];exact H) | exact H
        have Ny602:=Aside0.mk hy602
        clear hy602
        obtain ⟨y605,hy605⟩:∃ y_:List (S25),y_ = (([(⟨0,9,([]:List (S25))⟩:S25),(⟨0,8,([]:List (S25))⟩:S25)]:List (S25))):=⟨_,rfl⟩
        replace H:(if y602.length < 3518437208883 then (laws_FnSecretKept.l1 k1 t582 (y602 ++ [(⟨2,0,y605⟩:S25)]) 0) else (none)) = some r:=by first | (rw [hy605];with_reducible exact H) | (have H2_:=(Option.bind_some _ _).symm.trans H;rw [hy605];with_reducible exact H2_) | (have H2_:=(Option.bind_some _ _).symm.trans H;with_reducible exact H2_) | with_reducible exact H | (rw [hy605];exact H) | exact H
        have Ny605:=Aside0.mk hy605
        clear hy605
        by_cases c42:y602.length < 3518437208883
        ·rw [if_pos c42] at H
         have LMc42:=Aside0.mk c42
         clear c42
         obtain ⟨y608,hy608⟩:∃ y_:List (S25),y_ = (y602 ++ [(⟨2,0,y605⟩:S25)]):=⟨_,rfl⟩
         replace H:(laws_FnSecretKept.l1 k1 t582 y608 0) = some r:=by first | (rw [hy608];with_reducible exact H) | (have H2_:=(Option.bind_some _ _).symm.trans H;rw [hy608];with_reducible exact H2_) | (have H2_:=(Option.bind_some _ _).symm.trans H;with_reducible exact H2_) | with_reducible exact H | (rw [hy608];exact H) | exact H
         have Ny608:=Aside0.mk hy608
         clear hy608
         have H':=Aside0.mk H
         clear H
         go_wp2_with (first | ((with_reducible refine gate_dst (N:=59) rfl ?_);(try (refine gate_guard (by rfl) ?_;dsimp only));refine Kd.N_lit k25 _ 25 ?hg (N':=59) ?hd (xs:=([]:List (S25))) (inner:=[]) (ok:=(fun k_=>some k_ ≠ (.slice Ao19 t582.length co19:Value).ownBlock∧k_ ≠ gb590)) (okp:=(fun k_=>some k_ ≠ (.slice Ao19 t582.length co19:Value).ownBlock∧k_ ≠ gb590)) ?hr ?hp (fun _ hk=>hk) ((show ∀ k_,wr.heap.size ≤ k_ → (fun k_=>some k_ ≠ (.slice Ao19 t582.length co19:Value).ownBlock∧k_ ≠ gb590) k_ from fun k_ hk=>⟨Kd.fresh' (Kd.N_lt (by (with_reducible repeat (first | apply Kd.N_alloc | apply Kd.N_drewN | apply Kd.N_drew));exact HO_3.out)) k_ hk,Kd.freshB (g:=gb590) (o:=.cells #[.int .i64 t585,.int .i64 t586,.slice Ao18 t587.length co18] 25 (0,0)) (by (with_reducible repeat (first | refine blk_drewN ?_ _ | refine blk_drew ?_ | refine blk_alloc ?_ _));exact BK590.out) k_ hk⟩) _ (Nat.le_refl _)) (Below.refl _ _) (Nat.le_refl _) (by simp) ?_;(case hd=>rfl);(case hg=>rfl);(case hr=>first | (go_simp;done) | (go_simp;rfl));(case hp=>exact (Reps.none _ _));intro v600 w43 ho44 hb hg_ hnew_;clear hg_ hnew_;(first | rw [← Ny599.out] at ho44 | (simp only [Int.reduceToNat] at ho44;rw [← Ny599.out] at ho44));have n0_:=Aside0.mk (Kd.N_elder' (by (with_reducible repeat (first | apply Kd.N_alloc | apply Kd.N_drewN | apply Kd.N_drew));exact HO_3.out) (Kd.N_base ho44) hb);have n1_:=Aside0.mk (Kd.V_elder' (by (with_reducible repeat (first | apply Kd.V_alloc | apply Kd.V_drewN | apply Kd.V_drew));exact HO_591002.out) (Kd.N_base ho44) hb);have n2_:=Aside0.mk (Kd.N_lower ho44 (below_size (by repeat (first | (with_reducible first | exact HB.out | apply below_alloc | apply pw_below_drewN | apply below_drew1 | refine below_set ?_ GE590.out) | exact HB.out))));have n3_:=Aside0.mk (blk_below (g:=gb590) (o:=.cells #[.int .i64 t585,.int .i64 t586,.slice Ao18 t587.length co18] 25 (0,0)) (by (with_reducible repeat (first | refine blk_drewN ?_ _ | refine blk_drew ?_ | refine blk_alloc ?_ _));exact BK590.out) hb);have n4_:=Aside0.mk (below_step (by repeat (first | (with_reducible first | exact HB.out | apply below_alloc | apply pw_below_drewN | apply below_drew1 | refine below_set ?_ GE590.out) | exact HB.out)) hb);clear HO_3;clear HO_591002;clear BK590;clear HB;have HO_3:=n0_;have HO_591002:=n1_;have HO601:=n2_;have BK590:=n3_;have HB:=n4_;clear n0_ n1_ n2_ n3_ n4_;clear hb ho44) | ((with_reducible refine gate_builtin (b:=.append) (xs:=#[.tmp 59,.tmp 60]) rfl ?_);(try (refine gate_guard (by rfl) ?_;dsimp only));at_builtin;refine Kd.N_append_rows k25 (w0:=w) w.heap.size rfl (.tmp 59) (.tmp 60) 23 25 (.agg #[(.int .i64 0),(.int .i64 0),(.slice none 0 0)]) 40 rfl Tryd.underlying23 info25 rfl (by decide) (by omega) v600 y599 t582 _ _ _ (fun k_=>k_ ≠ gb590) (fun k_=>((fun k_=>k_ ≠ gb590)) k_∧some k_ ≠ (v600:Value).ownBlock) rfl rfl ?aO ?aR (fun _ hk=>hk) ?aF ?aB ?aS ?aL ?_;(case aR=>exact (by skip;exact Kd.N_F (Kd.N_mono (ok':=(fun k_=>((fun k_=>k_ ≠ gb590)) k_∧some k_ ≠ (v600:Value).ownBlock)) (HO_3.out) (fun k_ hk=>⟨hk.1,hk.2⟩))));(case aB=>exact (by repeat (first | (with_reducible first | exact HB.out | apply below_alloc | apply pw_below_drewN | apply below_drew1 | refine below_set ?_ GE590.out) | exact HB.out)));(case aF=>exact (fun k_ hk=>Kd.freshB (g:=gb590) (o:=.cells #[.int .i64 t585,.int .i64 t586,.slice Ao18 t587.length co18] 25 (0,0)) (by (with_reducible repeat (first | refine blk_drewN ?_ _ | refine blk_drew ?_ | refine blk_alloc ?_ _));exact BK590.out) k_ hk));(case aO=>exact (by (with_reducible repeat (first | apply Kd.N_alloc | apply Kd.N_drewN | apply Kd.N_drew));exact Kd.N_mono HO601.out (fun _ hk=>hk.2)));(case aS=>exact (below_size (by repeat (first | (with_reducible first | exact HB.out | apply below_alloc | apply pw_below_drewN | apply below_drew1 | refine below_set ?_ GE590.out) | exact HB.out))));(case aL=>have:=LMc41.out;omega);intro v603 w45 ho hb hg hat;rw [← Ny602.out] at ho;have n0_:=Aside0.mk (Kd.N_afterv (ok:=(fun k_=>k_ ≠ gb590)) (by (with_reducible repeat (first | apply Kd.N_alloc | apply Kd.N_drewN | apply Kd.N_drew));exact HO_3.out) hg hat);have n1_:=Aside0.mk (Kd.V_afterv (ok:=(fun k_=>some k_ ≠ (.slice Ao19 t582.length co19:Value).ownBlock∧k_ ≠ gb590)) (by (with_reducible repeat (first | apply Kd.V_alloc | apply Kd.V_drewN | apply Kd.V_drew));exact HO_591002.out) hg hat);have n2_:=Aside0.mk (blk_grown (g:=gb590) (o:=.cells #[.int .i64 t585,.int .i64 t586,.slice Ao18 t587.length co18] 25 (0,0)) (by (with_reducible repeat (first | refine blk_drewN ?_ _ | refine blk_drew ?_ | refine blk_alloc ?_ _));exact BK590.out) hg (Kd.N_away HO601.out (fun _ hk=>hk.2)));have n3_:=Aside0.mk (hb);have n4_:=Aside0.mk (ho);clear HO_3;clear HO_591002;clear BK590;clear HB;clear HO601;have HO_3:=n0_;have HO_591002:=n1_;have BK590:=n2_;have HB:=n3_;have HO604:=n4_;clear n0_ n1_ n2_ n3_ n4_;clear ho hb hg hat) | ((with_reducible refine gate_dst (N:=64) rfl ?_);(try (refine gate_guard (by rfl) ?_;dsimp only));refine Kd.N_lit k25 _ 25 ?hg (N':=64) ?hd (xs:=([(⟨0,9,([]:List (S25))⟩:S25),(⟨0,8,([]:List (S25))⟩:S25)]:List (S25))) (inner:=[.int .i64 0,.int .i64 9,.slice none 0 0,.int .i64 0,.int .i64 8,.slice none 0 0]) (ok:=(fun k_=>some k_ ≠ (.slice Ao19 t582.length co19:Value).ownBlock∧some k_ ≠ (v603:Value).ownBlock∧k_ ≠ gb590)) (okp:=(fun k_=>some k_ ≠ (.slice Ao19 t582.length co19:Value).ownBlock∧some k_ ≠ (v603:Value).ownBlock∧k_ ≠ gb590)) ?hr ?hp (fun _ hk=>hk) ((show ∀ k_,w45.heap.size ≤ k_ → (fun k_=>some k_ ≠ (.slice Ao19 t582.length co19:Value).ownBlock∧some k_ ≠ (v603:Value).ownBlock∧k_ ≠ gb590) k_ from fun k_ hk=>⟨Kd.fresh' (Kd.N_lt (by (with_reducible repeat (first | apply Kd.N_alloc | apply Kd.N_drewN | apply Kd.N_drew));exact HO_3.out)) k_ hk,Kd.fresh' (Kd.N_lt (by (with_reducible repeat (first | apply Kd.N_alloc | apply Kd.N_drewN | apply Kd.N_drew));exact HO604.out)) k_ hk,Kd.freshB (g:=gb590) (o:=.cells #[.int .i64 t585,.int .i64 t586,.slice Ao18 t587.length co18] 25 (0,0)) (by (with_reducible repeat (first | refine blk_drewN ?_ _ | refine blk_drew ?_ | refine blk_alloc ?_ _));exact BK590.out) k_ hk⟩) _ (Nat.le_refl _)) (Below.refl _ _) (Nat.le_refl _) (by simp) ?_;(case hd=>rfl);(case hg=>rfl);(case hr=>first | (go_simp;done) | (go_simp;rfl));(case hp=>exact (Reps.c3 (show Kd.FK k25 _ _ (⟨0,9,([]:List (S25))⟩:S25) [.int .i64 0,.int .i64 9,.slice none 0 0] from (k25_mkF _ _ (⟨0,9,([]:List (S25))⟩:S25) (Nat.le_refl _) (Kd.F_nil _ _ _))) (Reps.c3 (show Kd.FK k25 _ _ (⟨0,8,([]:List (S25))⟩:S25) [.int .i64 0,.int .i64 8,.slice none 0 0] from (k25_mkF _ _ (⟨0,8,([]:List (S25))⟩:S25) (Nat.le_refl _) (Kd.F_nil _ _ _))) (Reps.none _ _))));intro v606 w46 ho47 hb hg_ hnew_;clear hg_ hnew_;(first | rw [← Ny605.out] at ho47 | (simp only [Int.reduceToNat] at ho47;rw [← Ny605.out] at ho47));have n0_:=Aside0.mk (Kd.N_elder' (by (with_reducible repeat (first | apply Kd.N_alloc | apply Kd.N_drewN | apply Kd.N_drew));exact HO_3.out) (Kd.N_base ho47) hb);have n1_:=Aside0.mk (Kd.V_elder' (by (with_reducible repeat (first | apply Kd.V_alloc | apply Kd.V_drewN | apply Kd.V_drew));exact HO_591002.out) (Kd.N_base ho47) hb);have n2_:=Aside0.mk (Kd.N_elder' (by (with_reducible repeat (first | apply Kd.N_alloc | apply Kd.N_drewN | apply Kd.N_drew));exact HO604.out) (Kd.N_base ho47) hb);have n3_:=Aside0.mk (Kd.N_lower ho47 (below_size (by repeat (first | (with_reducible first | exact HB.out | apply below_alloc | apply pw_below_drewN | apply below_drew1 | refine below_set ?_ GE590.out) | exact HB.out))));have n4_:=Aside0.mk (blk_below (g:=gb590) (o:=.cells #[.int .i64 t585,.int .i64 t586,.slice Ao18 t587.length co18] 25 (0,0)) (by (with_reducible repeat (first | refine blk_drewN ?_ _ | refine blk_drew ?_ | refine blk_alloc ?_ _));exact BK590.out) hb);have n5_:=Aside0.mk (below_step (by repeat (first | (with_reducible first | exact HB.out | apply below_alloc | apply pw_below_drewN | apply below_drew1 | refine below_set ?_ GE590.out) | exact HB.out)) hb);clear HO_3;clear HO_591002;clear HO604;clear BK590;clear HB;have HO_3:=n0_;have HO_591002:=n1_;have HO604:=n2_;have HO607:=n3_;have BK590:=n4_;have HB:=n5_;clear n0_ n1_ n2_ n3_ n4_ n5_;clear hb ho47;obtain ⟨Ao48,co48,eo48⟩:=Kd.N_slice HO607.out;subst eo48) | ((with_reducible refine gate_builtin (b:=.append) (xs:=#[.tmp 61,.tmp 66]) rfl ?_);(try (refine gate_guard (by rfl) ?_;dsimp only));at_builtin;refine Kd.N_append k25 (w0:=w) w.heap.size rfl (.tmp 61) (.tmp 66) 23 25 (.agg #[(.int .i64 0),(.int .i64 0),(.slice none 0 0)]) 40 rfl Tryd.underlying23 info25 rfl (by decide) (by omega) v603 y602 (⟨2,0,y605⟩:S25) [.int .i64 2,.int .i64 0,.slice Ao48 y605.length co48] (fun k_=>k_ ≠ gb590) (fun k_=>((fun k_=>k_ ≠ gb590)) k_∧some k_ ≠ (v603:Value).ownBlock) rfl rfl ?aP (fun _ hk=>hk) ?aF ?aO ?aB ?aS ?aL ?_;(case aP=>exact (k25_mkF _ _ (⟨2,0,y605⟩:S25) (Kd.N_reads' (Kd.N_mono (ok':=(fun k_=>((fun k_=>k_ ≠ gb590)) k_∧some k_ ≠ (v603:Value).ownBlock)) (HO607.out) (fun k_ hk=>⟨hk.2.2,hk.2.1⟩))).2.1 (Kd.N_F (Kd.N_mono (ok':=(fun k_=>((fun k_=>k_ ≠ gb590)) k_∧some k_ ≠ (v603:Value).ownBlock)) (HO607.out) (fun k_ hk=>⟨hk.2.2,hk.2.1⟩)))));(case aB=>exact (by repeat (first | (with_reducible first | exact HB.out | apply below_alloc | apply pw_below_drewN | apply below_drew1 | refine below_set ?_ GE590.out) | exact HB.out)));(case aF=>exact (fun k_ hk=>Kd.freshB (g:=gb590) (o:=.cells #[.int .i64 t585,.int .i64 t586,.slice Ao18 t587.length co18] 25 (0,0)) (by (with_reducible repeat (first | refine blk_drewN ?_ _ | refine blk_drew ?_ | refine blk_alloc ?_ _));exact BK590.out) k_ hk));(case aO=>exact (by (with_reducible repeat (first | apply Kd.N_alloc | apply Kd.N_drewN | apply Kd.N_drew));exact Kd.N_mono HO604.out (fun _ hk=>hk.1)));(case aS=>exact (below_size (by repeat (first | (with_reducible first | exact HB.out | apply below_alloc | apply pw_below_drewN | apply below_drew1 | refine below_set ?_ GE590.out) | exact HB.out))));(case aL=>have:=LMc42.out;omega);intro v609 w49 ho hb hg hat;rw [← Ny608.out] at ho;have n0_:=Aside0.mk (Kd.N_afterv (ok:=(fun k_=>some k_ ≠ (.slice Ao48 y605.length co48:Value).ownBlock∧k_ ≠ gb590)) (by (with_reducible repeat (first | apply Kd.N_alloc | apply Kd.N_drewN | apply Kd.N_drew));exact Kd.N_mono HO_3.out (fun _ hk=>⟨⟨hk.2,hk.1.1⟩,hk.1.2⟩)) hg hat);have n1_:=Aside0.mk (Kd.V_afterv (ok:=(fun k_=>some k_ ≠ (.slice Ao19 t582.length co19:Value).ownBlock∧some k_ ≠ (.slice Ao48 y605.length co48:Value).ownBlock∧k_ ≠ gb590)) (by (with_reducible repeat (first | apply Kd.V_alloc | apply Kd.V_drewN | apply Kd.V_drew));exact Kd.V_mono HO_591002.out (fun _ hk=>⟨⟨hk.1.1.1,⟨hk.2,hk.1.1.2⟩⟩,hk.1.2⟩)) hg hat);have n2_:=Aside0.mk (blk_grown (g:=gb590) (o:=.cells #[.int .i64 t585,.int .i64 t586,.slice Ao18 t587.length co18] 25 (0,0)) (by (with_reducible repeat (first | refine blk_drewN ?_ _ | refine blk_drew ?_ | refine blk_alloc ?_ _));exact BK590.out) hg (Kd.N_away HO604.out (fun _ hk=>hk.1)));have n3_:=Aside0.mk (hb);have n4_:=Aside0.mk (ho);clear HO_3;clear HO_591002;clear BK590;clear HB;clear HO604;clear HO607;have HO_3:=n0_;have HO_591002:=n1_;have BK590:=n2_;have HB:=n3_;have HO610:=n4_;clear n0_ n1_ n2_ n3_ n4_;clear ho hb hg hat))
         go_loopg [9] k1 (fun kq v9 w'=>∃ (x9_2:Int),v9 = .int .i64 x9_2∧Aside0 (laws_FnSecretKept.l1 kq t582 y608 x9_2 = some r)∧Aside0 (kq ≤ k1)∧Aside0 (Kd.N k25 25 w' w.heap.size (fun k_=>some k_ ≠ (v609:Value).ownBlock∧k_ ≠ gb590) (.slice Ao19 t582.length co19) t582)∧Aside0 (Kd.N k25 25 w' w.heap.size (fun k_=>k_ ≠ gb590) v609 y608)∧Aside0 (Kd.V k25 25 w' w.heap.size (fun k_=>some k_ ≠ ((.slice Ao19 t582.length co19):Value).ownBlock∧some k_ ≠ (v609:Value).ownBlock∧k_ ≠ gb590) (.slice Ao18 t587.length co18) t587)∧Aside0 (w'.heap[gb590]? = some (.cells #[.int .i64 t585,.int .i64 t586,(.slice Ao18 t587.length co18)] 25 (0,0)))∧Aside0 (Below w.heap.size w w'))
         case atStart=>exact ⟨(0),(by first | rfl | (simp;done) | (simp [*];done)),H',⟨Nat.le_refl _⟩,⟨by (with_reducible repeat (first | apply Kd.N_alloc | apply Kd.N_drewN | apply Kd.N_drew));exact Kd.N_mono HO_3.out (fun _ hk=>⟨hk.2,hk.1.2⟩)⟩,⟨by (with_reducible repeat (first | apply Kd.N_alloc | apply Kd.N_drewN | apply Kd.N_drew));exact HO610.out⟩,⟨by (with_reducible repeat (first | apply Kd.V_alloc | apply Kd.V_drewN | apply Kd.V_drew));exact Kd.V_mono HO_591002.out (fun _ hk=>⟨hk.1.1,⟨hk.2,hk.1.2.2⟩⟩)⟩,⟨by (with_reducible repeat (first | refine blk_drewN ?_ _ | refine blk_drew ?_ | refine blk_alloc ?_ _));exact BK590.out⟩,⟨by repeat (first | (with_reducible first | exact HB.out | apply below_alloc | apply pw_below_drewN | apply below_drew1 | refine below_set ?_ GE590.out) | exact HB.out)⟩⟩
         case round =>
          clear H'
          try clear c1
          try clear c2
          try clear c2b0
          try clear c2b1
          try clear p2
          try clear c3
          try clear c4
          try clear c5
          try clear p5
          try clear q5
          try clear hx5
          try clear c6
          try clear c6b0
          try clear c6b1
          try clear c6b2
          try clear p6
          try clear c10
          try clear c14
          try clear c23
          try clear c23b0
          try clear c24
          try clear c24b0
          try clear c26
          try clear c28
          try clear c30
          try clear c32
          try clear c40
          try clear c40b0
          try clear c41
          try clear c42
          try clear hcz13_0
          try clear hcz13_1
          try clear hcz13_2
          try clear hcz17_0
          try clear hcz17_1
          try clear hcz17_2
          try clear hcz21_0
          try clear hcz21_1
          try clear hcz21_2
          try clear hcz9_0
          try clear hcz9_1
          try clear hcz9_2
          try clear hfz13_0
          try clear hfz13_1
          try clear hfz13_2
          try clear hfz17_0
          try clear hfz17_1
          try clear hfz17_2
          try clear hfz21_0
          try clear hfz21_1
          try clear hfz21_2
          try clear hfz9_0
          try clear hfz9_1
          try clear hfz9_2
          try clear hx593_0
          try clear hx593_1
          try clear hx593_2
          try clear hx595_0
          try clear hx595_1
          try clear hx595_2
          try clear hx597_0
          try clear hx597_1
          try clear hx597_2
          try clear p2
          try clear p593
          try clear p595
          try clear p597
          try clear q593
          try clear q595
          try clear q597
          obtain ⟨x9_2,rfl,HA,HK2,HO_3,HO_8,HO_591002,BK590,HB⟩:=hrel
          cases gk with
          | zero=>exact absurd HA.out (by simp [laws_FnSecretKept.l1])
          | succ k2 =>
           have H:=HA.out
           clear HA
           simp only [laws_FnSecretKept.l1] at H
           by_cases c50:x9_2 < 10
           ·rw [if_pos c50] at H
            have c50b0:decide (x9_2 < 10) = true:=decide_eq_true c50
            clear c50
            replace H:=Option.bind_eq_some_iff.mp H
            obtain ⟨t616,A510,H⟩:=H
            replace H:((impl_SealMade.f t582 0 x9_2 ([]:List (S25))).bind fun t617=>(if (t616 != t617) = true then (some false) else (laws_FnSecretKept.l1 k2 t582 y608 (wrap64 (x9_2 + 1))))) = some r:=H
            have A51:=Aside0.mk A510
            clear A510
            replace H:=Option.bind_eq_some_iff.mp H
            obtain ⟨t617,A520,H⟩:=H
            replace H:(if (t616 != t617) = true then (some false) else (laws_FnSecretKept.l1 k2 t582 y608 (wrap64 (x9_2 + 1)))) = some r:=H
            have A52:=Aside0.mk A520
            clear A520
            by_cases c53:(t616 != t617) = true
            ·rw [if_pos c53] at H
             have c53b0:(t616 != t617) = true:=c53
             (try (have c53b1:decide (t616 = t617) = false:=by simpa using c53))
             (try (have c53b2:(t616 == t617) = false:=by simpa using c53))
             (try (have c53b3:¬ (t616 = t617):=by simpa using c53))
             clear c53
             obtain rfl:=Option.some.inj H
             obtain ⟨Ao54,co54,eo54⟩:=Kd.N_slice HO_8.out
             subst eo54
             go_wp2_with (first | ((with_reducible refine gate_callee (f:=28) rfl ?_);refine goesL_ (some 75) rfl rfl Tryd.func28 (by kernel_rfl) rfl #[.slice Ao54 y608.length co54,.agg #[.int .i64 0,.int .i64 x9_2,.slice none 0 0]] rfl (by (try simp only [List.map_toArray,List.map_cons,List.map_nil]);first | done | rfl | (simp only [List.length_drop,List.length_take];rfl)) ?_;(refine (impl_SealMade.calls _ _ y608 0 x9_2 _ _ ([]:List (S25)) t616 _ ?side1 ?side2 ?side3 ?side4 A51.out).mono ?_);(case side1=>repeat (first | exact (Kd.N_reads' HO_8.out).2.2 | (with_reducible refine Kd.C_alloc ?_ _) | (with_reducible refine Kd.C_drewN ?_ _) | (with_reducible refine Kd.C_drew ?_)));(case side2=>exact (Kd.N_reads' HO_8.out).2.1);(case side3=>exact Kd.C_nil _ _);(case side4=>exact Nat.le_refl _);rintro e w55 ⟨rfl,hb⟩;refine ⟨_,rfl,?_⟩;have n0_:=Aside0.mk (Kd.N_below (by (with_reducible repeat (first | apply Kd.N_alloc | apply Kd.N_drewN | apply Kd.N_drew));exact HO_3.out) hb);have n1_:=Aside0.mk (Kd.N_below (by (with_reducible repeat (first | apply Kd.N_alloc | apply Kd.N_drewN | apply Kd.N_drew));exact HO_8.out) hb);have n2_:=Aside0.mk (Kd.V_below (by (with_reducible repeat (first | apply Kd.V_alloc | apply Kd.V_drewN | apply Kd.V_drew));exact HO_591002.out) hb);have n3_:=Aside0.mk (blk_below (g:=gb590) (o:=.cells #[.int .i64 t585,.int .i64 t586,.slice Ao18 t587.length co18] 25 (0,0)) (by (with_reducible repeat (first | refine blk_drewN ?_ _ | refine blk_drew ?_ | refine blk_alloc ?_ _));exact BK590.out) hb);have n4_:=Aside0.mk (below_step (by repeat (first | (with_reducible first | exact HB.out | apply below_alloc | apply pw_below_drewN | apply below_drew1 | refine below_set ?_ GE590.out) | exact HB.out)) hb);clear HO_3;clear HO_8;clear HO_591002;clear BK590;clear HB;have HO_3:=n0_;have HO_8:=n1_;have HO_591002:=n2_;have BK590:=n3_;have HB:=n4_;clear n0_ n1_ n2_ n3_ n4_;(try clear hb);(try clear hb2);(try clear hk);(try clear hi)) | ((with_reducible refine gate_callee (f:=28) rfl ?_);refine goesL_ (some 79) rfl rfl Tryd.func28 (by kernel_rfl) rfl #[.slice Ao19 t582.length co19,.agg #[.int .i64 0,.int .i64 x9_2,.slice none 0 0]] rfl (by (try simp only [List.map_toArray,List.map_cons,List.map_nil]);first | done | rfl | (simp only [List.length_drop,List.length_take];rfl)) ?_;(refine (impl_SealMade.calls _ _ t582 0 x9_2 _ _ ([]:List (S25)) t617 _ ?side1 ?side2 ?side3 ?side4 A52.out).mono ?_);(case side1=>repeat (first | exact (Kd.N_reads' HO_3.out).2.2 | (with_reducible refine Kd.C_alloc ?_ _) | (with_reducible refine Kd.C_drewN ?_ _) | (with_reducible refine Kd.C_drew ?_)));(case side2=>exact (Kd.N_reads' HO_3.out).2.1);(case side3=>exact Kd.C_nil _ _);(case side4=>exact Nat.le_refl _);rintro e w56 ⟨rfl,hb⟩;refine ⟨_,rfl,?_⟩;have n0_:=Aside0.mk (Kd.N_below (by (with_reducible repeat (first | apply Kd.N_alloc | apply Kd.N_drewN | apply Kd.N_drew));exact HO_3.out) hb);have n1_:=Aside0.mk (Kd.N_below (by (with_reducible repeat (first | apply Kd.N_alloc | apply Kd.N_drewN | apply Kd.N_drew));exact HO_8.out) hb);have n2_:=Aside0.mk (Kd.V_below (by (with_reducible repeat (first | apply Kd.V_alloc | apply Kd.V_drewN | apply Kd.V_drew));exact HO_591002.out) hb);have n3_:=Aside0.mk (blk_below (g:=gb590) (o:=.cells #[.int .i64 t585,.int .i64 t586,.slice Ao18 t587.length co18] 25 (0,0)) (by (with_reducible repeat (first | refine blk_drewN ?_ _ | refine blk_drew ?_ | refine blk_alloc ?_ _));exact BK590.out) hb);have n4_:=Aside0.mk (below_step (by repeat (first | (with_reducible first | exact HB.out | apply below_alloc | apply pw_below_drewN | apply below_drew1 | refine below_set ?_ GE590.out) | exact HB.out)) hb);clear HO_3;clear HO_8;clear HO_591002;clear BK590;clear HB;have HO_3:=n0_;have HO_8:=n1_;have HO_591002:=n2_;have BK590:=n3_;have HB:=n4_;clear n0_ n1_ n2_ n3_ n4_;(try clear hb);(try clear hb2);(try clear hk);(try clear hi)))
             go_ret
             exact ⟨by first | rfl | (simp [errW_none,errW_some] <;> rfl) | (simp [*,errW_none,errW_some] <;> rfl),by repeat (first | (with_reducible first | exact HB.out | apply below_alloc | apply pw_below_drewN | apply below_drew1 | refine below_set ?_ GE590.out) | exact HB.out)⟩
            ·rw [if_neg c53] at H
             have c53b0:(t616 != t617) = false:=by simpa using c53
             (try (have c53b1:decide (t616 = t617) = true:=by simpa using c53))
             (try (have c53b2:(t616 == t617) = true:=by simpa using c53))
             clear c53
             have H':=Aside0.mk H
             clear H
             obtain ⟨Ao57,co57,eo57⟩:=Kd.N_slice HO_8.out
             subst eo57
             go_wp2_with (first | ((with_reducible refine gate_callee (f:=28) rfl ?_);refine goesL_ (some 75) rfl rfl Tryd.func28 (by kernel_rfl) rfl #[.slice Ao57 y608.length co57,.agg #[.int .i64 0,.int .i64 x9_2,.slice none 0 0]] rfl (by (try simp only [List.map_toArray,List.map_cons,List.map_nil]);first | done | rfl | (simp only [List.length_drop,List.length_take];rfl)) ?_;(refine (impl_SealMade.calls _ _ y608 0 x9_2 _ _ ([]:List (S25)) t616 _ ?side1 ?side2 ?side3 ?side4 A51.out).mono ?_);(case side1=>repeat (first | exact (Kd.N_reads' HO_8.out).2.2 | (with_reducible refine Kd.C_alloc ?_ _) | (with_reducible refine Kd.C_drewN ?_ _) | (with_reducible refine Kd.C_drew ?_)));(case side2=>exact (Kd.N_reads' HO_8.out).2.1);(case side3=>exact Kd.C_nil _ _);(case side4=>exact Nat.le_refl _);rintro e w58 ⟨rfl,hb⟩;refine ⟨_,rfl,?_⟩;have n0_:=Aside0.mk (Kd.N_below (by (with_reducible repeat (first | apply Kd.N_alloc | apply Kd.N_drewN | apply Kd.N_drew));exact HO_3.out) hb);have n1_:=Aside0.mk (Kd.N_below (by (with_reducible repeat (first | apply Kd.N_alloc | apply Kd.N_drewN | apply Kd.N_drew));exact HO_8.out) hb);have n2_:=Aside0.mk (Kd.V_below (by (with_reducible repeat (first | apply Kd.V_alloc | apply Kd.V_drewN | apply Kd.V_drew));exact HO_591002.out) hb);have n3_:=Aside0.mk (blk_below (g:=gb590) (o:=.cells #[.int .i64 t585,.int .i64 t586,.slice Ao18 t587.length co18] 25 (0,0)) (by (with_reducible repeat (first | refine blk_drewN ?_ _ | refine blk_drew ?_ | refine blk_alloc ?_ _));exact BK590.out) hb);have n4_:=Aside0.mk (below_step (by repeat (first | (with_reducible first | exact HB.out | apply below_alloc | apply pw_below_drewN | apply below_drew1 | refine below_set ?_ GE590.out) | exact HB.out)) hb);clear HO_3;clear HO_8;clear HO_591002;clear BK590;clear HB;have HO_3:=n0_;have HO_8:=n1_;have HO_591002:=n2_;have BK590:=n3_;have HB:=n4_;clear n0_ n1_ n2_ n3_ n4_;(try clear hb);(try clear hb2);(try clear hk);(try clear hi)) | ((with_reducible refine gate_callee (f:=28) rfl ?_);refine goesL_ (some 79) rfl rfl Tryd.func28 (by kernel_rfl) rfl #[.slice Ao19 t582.length co19,.agg #[.int .i64 0,.int .i64 x9_2,.slice none 0 0]] rfl (by (try simp only [List.map_toArray,List.map_cons,List.map_nil]);first | done | rfl | (simp only [List.length_drop,List.length_take];rfl)) ?_;(refine (impl_SealMade.calls _ _ t582 0 x9_2 _ _ ([]:List (S25)) t617 _ ?side1 ?side2 ?side3 ?side4 A52.out).mono ?_);(case side1=>repeat (first | exact (Kd.N_reads' HO_3.out).2.2 | (with_reducible refine Kd.C_alloc ?_ _) | (with_reducible refine Kd.C_drewN ?_ _) | (with_reducible refine Kd.C_drew ?_)));(case side2=>exact (Kd.N_reads' HO_3.out).2.1);(case side3=>exact Kd.C_nil _ _);(case side4=>exact Nat.le_refl _);rintro e w59 ⟨rfl,hb⟩;refine ⟨_,rfl,?_⟩;have n0_:=Aside0.mk (Kd.N_below (by (with_reducible repeat (first | apply Kd.N_alloc | apply Kd.N_drewN | apply Kd.N_drew));exact HO_3.out) hb);have n1_:=Aside0.mk (Kd.N_below (by (with_reducible repeat (first | apply Kd.N_alloc | apply Kd.N_drewN | apply Kd.N_drew));exact HO_8.out) hb);have n2_:=Aside0.mk (Kd.V_below (by (with_reducible repeat (first | apply Kd.V_alloc | apply Kd.V_drewN | apply Kd.V_drew));exact HO_591002.out) hb);have n3_:=Aside0.mk (blk_below (g:=gb590) (o:=.cells #[.int .i64 t585,.int .i64 t586,.slice Ao18 t587.length co18] 25 (0,0)) (by (with_reducible repeat (first | refine blk_drewN ?_ _ | refine blk_drew ?_ | refine blk_alloc ?_ _));exact BK590.out) hb);have n4_:=Aside0.mk (below_step (by repeat (first | (with_reducible first | exact HB.out | apply below_alloc | apply pw_below_drewN | apply below_drew1 | refine below_set ?_ GE590.out) | exact HB.out)) hb);clear HO_3;clear HO_8;clear HO_591002;clear BK590;clear HB;have HO_3:=n0_;have HO_8:=n1_;have HO_591002:=n2_;have BK590:=n3_;have HB:=n4_;clear n0_ n1_ n2_ n3_ n4_;(try clear hb);(try clear hb2);(try clear hk);(try clear hi)))
             go_roundg k2
             case measure=>have:=HK1.out;have:=HK2.out;omega
             case rel=>exact ⟨(wrap64 (x9_2 + 1)),(by first | rfl | (simp;done) | (simp [*];done)),H',⟨by have:=HK1.out;have:=HK2.out;omega⟩,⟨by (with_reducible repeat (first | apply Kd.N_alloc | apply Kd.N_drewN | apply Kd.N_drew));exact HO_3.out⟩,⟨by (with_reducible repeat (first | apply Kd.N_alloc | apply Kd.N_drewN | apply Kd.N_drew));exact HO_8.out⟩,⟨by (with_reducible repeat (first | apply Kd.V_alloc | apply Kd.V_drewN | apply Kd.V_drew));exact HO_591002.out⟩,⟨by (with_reducible repeat (first | refine blk_drewN ?_ _ | refine blk_drew ?_ | refine blk_alloc ?_ _));exact BK590.out⟩,⟨by repeat (first | (with_reducible first | exact HB.out | apply below_alloc | apply pw_below_drewN | apply below_drew1 | refine below_set ?_ GE590.out) | exact HB.out)⟩⟩
           ·rw [if_neg c50] at H
            have c50b0:decide (x9_2 < 10) = false:=decide_eq_false c50
            clear c50
            replace H:=Option.bind_eq_some_iff.mp H
            obtain ⟨t611,A600,H⟩:=H
            replace H:(if t611 = true then (some false) else (if y608.length < 3518437208883 then ((impl_SealMade.f (y608 ++ [(⟨0,9,([]:List (S25))⟩:S25)]) 0 8 ([]:List (S25))).bind fun t615=>(some t615)) else (none))) = some r:=H
            have A60:=Aside0.mk A600
            clear A600
            by_cases c61:t611 = true
            ·subst c61
             have H1:(some false) = some r:=by rw [if_pos rfl] at H;exact H
             clear H
             have H:=H1
             clear H1
             obtain rfl:=Option.some.inj H
             obtain ⟨Ao62,co62,eo62⟩:=Kd.N_slice HO_8.out
             subst eo62
             go_wp2_with (first | ((with_reducible refine gate_callee (f:=28) rfl ?_);refine goesL_ (some 83) rfl rfl Tryd.func28 (by kernel_rfl) rfl #[.slice Ao62 y608.length co62,.agg #[.int .i64 0,.int .i64 8,.slice none 0 0]] rfl (by (try simp only [List.map_toArray,List.map_cons,List.map_nil]);first | done | rfl | (simp only [List.length_drop,List.length_take];rfl)) ?_;(refine (impl_SealMade.calls _ _ y608 0 8 _ _ ([]:List (S25)) true _ ?side1 ?side2 ?side3 ?side4 A60.out).mono ?_);(case side1=>repeat (first | exact (Kd.N_reads' HO_8.out).2.2 | (with_reducible refine Kd.C_alloc ?_ _) | (with_reducible refine Kd.C_drewN ?_ _) | (with_reducible refine Kd.C_drew ?_)));(case side2=>exact (Kd.N_reads' HO_8.out).2.1);(case side3=>exact Kd.C_nil _ _);(case side4=>exact Nat.le_refl _);rintro e w63 ⟨rfl,hb⟩;refine ⟨_,rfl,?_⟩;have n0_:=Aside0.mk (Kd.N_below (by (with_reducible repeat (first | apply Kd.N_alloc | apply Kd.N_drewN | apply Kd.N_drew));exact HO_3.out) hb);have n1_:=Aside0.mk (Kd.N_below (by (with_reducible repeat (first | apply Kd.N_alloc | apply Kd.N_drewN | apply Kd.N_drew));exact HO_8.out) hb);have n2_:=Aside0.mk (Kd.V_below (by (with_reducible repeat (first | apply Kd.V_alloc | apply Kd.V_drewN | apply Kd.V_drew));exact HO_591002.out) hb);have n3_:=Aside0.mk (blk_below (g:=gb590) (o:=.cells #[.int .i64 t585,.int .i64 t586,.slice Ao18 t587.length co18] 25 (0,0)) (by (with_reducible repeat (first | refine blk_drewN ?_ _ | refine blk_drew ?_ | refine blk_alloc ?_ _));exact BK590.out) hb);have n4_:=Aside0.mk (below_step (by repeat (first | (with_reducible first | exact HB.out | apply below_alloc | apply pw_below_drewN | apply below_drew1 | refine below_set ?_ GE590.out) | exact HB.out)) hb);clear HO_3;clear HO_8;clear HO_591002;clear BK590;clear HB;have HO_3:=n0_;have HO_8:=n1_;have HO_591002:=n2_;have BK590:=n3_;have HB:=n4_;clear n0_ n1_ n2_ n3_ n4_;(try clear hb);(try clear hb2);(try clear hk);(try clear hi)))
             go_ret
             exact ⟨by first | rfl | (simp [errW_none,errW_some] <;> rfl) | (simp [*,errW_none,errW_some] <;> rfl),by repeat (first | (with_reducible first | exact HB.out | apply below_alloc | apply pw_below_drewN | apply below_drew1 | refine below_set ?_ GE590.out) | exact HB.out)⟩
            ·replace c61:=Bool.eq_false_iff.mpr c61
             subst c61
             have H1:(if y608.length < 3518437208883 then ((impl_SealMade.f (y608 ++ [(⟨0,9,([]:List (S25))⟩:S25)]) 0 8 ([]:List (S25))).bind fun t615=>(some t615)) else (none)) = some r:=by rw [if_neg (show ¬ (false = true) by decide)] at H;exact H
             clear H
             have H:=H1
             clear H1
             by_cases c64:y608.length < 3518437208883
             ·rw [if_pos c64] at H
              have LMc64:=Aside0.mk c64
              clear c64
              obtain ⟨y612,hy612⟩:∃ y_:List (S25),y_ = (y608 ++ [(⟨0,9,([]:List (S25))⟩:S25)]):=⟨_,rfl⟩
              replace H:((impl_SealMade.f y612 0 8 ([]:List (S25))).bind fun t615=>(some t615)) = some r:=by first | (rw [hy612];with_reducible exact H) | (have H2_:=(Option.bind_some _ _).symm.trans H;rw [hy612];with_reducible exact H2_) | (have H2_:=(Option.bind_some _ _).symm.trans H;with_reducible exact H2_) | with_reducible exact H | (rw [hy612];exact H) | exact H
              have Ny612:=Aside0.mk hy612
              clear hy612
              replace H:=Option.bind_eq_some_iff.mp H
              obtain ⟨t615,A650,H⟩:=H
              replace H:(some t615) = some r:=H
              have A65:=Aside0.mk A650
              clear A650
              obtain rfl:=Option.some.inj H
              obtain ⟨Ao66,co66,eo66⟩:=Kd.N_slice HO_8.out
              subst eo66
              go_wp2_with (first | ((with_reducible refine gate_callee (f:=28) rfl ?_);refine goesL_ (some 83) rfl rfl Tryd.func28 (by kernel_rfl) rfl #[.slice Ao66 y608.length co66,.agg #[.int .i64 0,.int .i64 8,.slice none 0 0]] rfl (by (try simp only [List.map_toArray,List.map_cons,List.map_nil]);first | done | rfl | (simp only [List.length_drop,List.length_take];rfl)) ?_;(refine (impl_SealMade.calls _ _ y608 0 8 _ _ ([]:List (S25)) false _ ?side1 ?side2 ?side3 ?side4 A60.out).mono ?_);(case side1=>repeat (first | exact (Kd.N_reads' HO_8.out).2.2 | (with_reducible refine Kd.C_alloc ?_ _) | (with_reducible refine Kd.C_drewN ?_ _) | (with_reducible refine Kd.C_drew ?_)));(case side2=>exact (Kd.N_reads' HO_8.out).2.1);(case side3=>exact Kd.C_nil _ _);(case side4=>exact Nat.le_refl _);rintro e w67 ⟨rfl,hb⟩;refine ⟨_,rfl,?_⟩;have n0_:=Aside0.mk (Kd.N_below (by (with_reducible repeat (first | apply Kd.N_alloc | apply Kd.N_drewN | apply Kd.N_drew));exact HO_3.out) hb);have n1_:=Aside0.mk (Kd.N_below (by (with_reducible repeat (first | apply Kd.N_alloc | apply Kd.N_drewN | apply Kd.N_drew));exact HO_8.out) hb);have n2_:=Aside0.mk (Kd.V_below (by (with_reducible repeat (first | apply Kd.V_alloc | apply Kd.V_drewN | apply Kd.V_drew));exact HO_591002.out) hb);have n3_:=Aside0.mk (blk_below (g:=gb590) (o:=.cells #[.int .i64 t585,.int .i64 t586,.slice Ao18 t587.length co18] 25 (0,0)) (by (with_reducible repeat (first | refine blk_drewN ?_ _ | refine blk_drew ?_ | refine blk_alloc ?_ _));exact BK590.out) hb);have n4_:=Aside0.mk (below_step (by repeat (first | (with_reducible first | exact HB.out | apply below_alloc | apply pw_below_drewN | apply below_drew1 | refine below_set ?_ GE590.out) | exact HB.out)) hb);clear HO_3;clear HO_8;clear HO_591002;clear BK590;clear HB;have HO_3:=n0_;have HO_8:=n1_;have HO_591002:=n2_;have BK590:=n3_;have HB:=n4_;clear n0_ n1_ n2_ n3_ n4_;(try clear hb);(try clear hb2);(try clear hk);(try clear hi)) | ((with_reducible refine gate_builtin (b:=.append) (xs:=#[.tmp 86,.tmp 88]) rfl ?_);(try (refine gate_guard (by rfl) ?_;dsimp only));at_builtin;refine Kd.N_append k25 (w0:=w) w.heap.size rfl (.tmp 86) (.tmp 88) 23 25 (.agg #[(.int .i64 0),(.int .i64 0),(.slice none 0 0)]) 40 rfl Tryd.underlying23 info25 rfl (by decide) (by omega) (.slice Ao66 y608.length co66) y608 (⟨0,9,([]:List (S25))⟩:S25) [.int .i64 0,.int .i64 9,.slice none 0 0] (fun k_=>k_ ≠ gb590) (fun k_=>((fun k_=>k_ ≠ gb590)) k_∧some k_ ≠ (.slice Ao66 y608.length co66:Value).ownBlock) rfl rfl ?aP (fun _ hk=>hk) ?aF ?aO ?aB ?aS ?aL ?_;(case aP=>exact (k25_mkF _ _ (⟨0,9,([]:List (S25))⟩:S25) (Nat.le_refl _) (Kd.F_nil _ _ _)));(case aB=>exact (by repeat (first | (with_reducible first | exact HB.out | apply below_alloc | apply pw_below_drewN | apply below_drew1 | refine below_set ?_ GE590.out) | exact HB.out)));(case aF=>exact (fun k_ hk=>Kd.freshB (g:=gb590) (o:=.cells #[.int .i64 t585,.int .i64 t586,.slice Ao18 t587.length co18] 25 (0,0)) (by (with_reducible repeat (first | refine blk_drewN ?_ _ | refine blk_drew ?_ | refine blk_alloc ?_ _));exact BK590.out) k_ hk));(case aO=>exact (by (with_reducible repeat (first | apply Kd.N_alloc | apply Kd.N_drewN | apply Kd.N_drew));exact HO_8.out));(case aS=>exact (below_size (by repeat (first | (with_reducible first | exact HB.out | apply below_alloc | apply pw_below_drewN | apply below_drew1 | refine below_set ?_ GE590.out) | exact HB.out))));(case aL=>have:=LMc64.out;omega);intro v613 w68 ho hb hg hat;rw [← Ny612.out] at ho;have n0_:=Aside0.mk (Kd.N_afterv (ok:=(fun k_=>k_ ≠ gb590)) (by (with_reducible repeat (first | apply Kd.N_alloc | apply Kd.N_drewN | apply Kd.N_drew));exact Kd.N_mono HO_3.out (fun _ hk=>⟨hk.2,hk.1⟩)) hg hat);have n1_:=Aside0.mk (Kd.V_afterv (ok:=(fun k_=>some k_ ≠ (.slice Ao19 t582.length co19:Value).ownBlock∧k_ ≠ gb590)) (by (with_reducible repeat (first | apply Kd.V_alloc | apply Kd.V_drewN | apply Kd.V_drew));exact Kd.V_mono HO_591002.out (fun _ hk=>⟨⟨hk.1,hk.2.2⟩,hk.2.1⟩)) hg hat);have n2_:=Aside0.mk (blk_grown (g:=gb590) (o:=.cells #[.int .i64 t585,.int .i64 t586,.slice Ao18 t587.length co18] 25 (0,0)) (by (with_reducible repeat (first | refine blk_drewN ?_ _ | refine blk_drew ?_ | refine blk_alloc ?_ _));exact BK590.out) hg (Kd.N_away HO_8.out (fun _ hk=>hk)));have n3_:=Aside0.mk (hb);have n4_:=Aside0.mk (ho);clear HO_3;clear HO_591002;clear BK590;clear HB;clear HO_8;have HO_3:=n0_;have HO_591002:=n1_;have BK590:=n2_;have HB:=n3_;have HO614:=n4_;clear n0_ n1_ n2_ n3_ n4_;clear ho hb hg hat;obtain ⟨Ao69,co69,eo69⟩:=Kd.N_slice HO614.out;subst eo69) | (go_at_call 28;(refine (impl_SealMade.calls _ _ y612 0 8 _ _ ([]:List (S25)) t615 _ ?side1 ?side2 ?side3 ?side4 A65.out).mono ?_);(case side1=>repeat (first | exact (Kd.N_reads' HO614.out).2.2 | (with_reducible refine Kd.C_alloc ?_ _) | (with_reducible refine Kd.C_drewN ?_ _) | (with_reducible refine Kd.C_drew ?_)));(case side2=>exact (Kd.N_reads' HO614.out).2.1);(case side3=>exact Kd.C_nil _ _);(case side4=>exact Nat.le_refl _);rintro e w70 ⟨rfl,hb⟩;have n0_:=Aside0.mk (Kd.N_below (by (with_reducible repeat (first | apply Kd.N_alloc | apply Kd.N_drewN | apply Kd.N_drew));exact HO_3.out) hb);have n1_:=Aside0.mk (Kd.V_below (by (with_reducible repeat (first | apply Kd.V_alloc | apply Kd.V_drewN | apply Kd.V_drew));exact HO_591002.out) hb);have n2_:=Aside0.mk (Kd.N_below (by (with_reducible repeat (first | apply Kd.N_alloc | apply Kd.N_drewN | apply Kd.N_drew));exact HO614.out) hb);have n3_:=Aside0.mk (blk_below (g:=gb590) (o:=.cells #[.int .i64 t585,.int .i64 t586,.slice Ao18 t587.length co18] 25 (0,0)) (by (with_reducible repeat (first | refine blk_drewN ?_ _ | refine blk_drew ?_ | refine blk_alloc ?_ _));exact BK590.out) hb);have n4_:=Aside0.mk (below_step (by repeat (first | (with_reducible first | exact HB.out | apply below_alloc | apply pw_below_drewN | apply below_drew1 | refine below_set ?_ GE590.out) | exact HB.out)) hb);clear HO_3;clear HO_591002;clear HO614;clear BK590;clear HB;have HO_3:=n0_;have HO_591002:=n1_;have HO614:=n2_;have BK590:=n3_;have HB:=n4_;clear n0_ n1_ n2_ n3_ n4_;(try clear hb);(try clear hb2);(try clear hk);(try clear hi)))
              go_ret
              exact ⟨by first | rfl | (simp [errW_none,errW_some] <;> rfl) | (simp [*,errW_none,errW_some] <;> rfl),by repeat (first | (with_reducible first | exact HB.out | apply below_alloc | apply pw_below_drewN | apply below_drew1 | refine below_set ?_ GE590.out) | exact HB.out)⟩
             ·rw [if_neg c64] at H
              exact absurd H (by simp)
        ·rw [if_neg c42] at H
         exact absurd H (by simp)
       ·rw [if_neg c41] at H
        exact absurd H (by simp)
def laws_FnSecretKept.Pure:Prop:=∀ (l0:List Int),l0.length ≤ maxLen → l0.length * 1 ≤ 140737488351232 → (∀ x ∈ l0,(Lit.int .u8 x).wf = true) → ∃ k,laws_FnSecretKept.f k l0 = some true
theorem laws_FnSecretKept.walk (P:laws_FnSecretKept.Pure) (a0:Option Addr) (len0 cap0:Nat) (z0:List Int) (w:World) (w0:(a0 = none∧len0 = 0∧cap0 = 0∧z0 = []) ∨ ∃ x,a0 = some x∧len0 ≤ cap0∧cap0 ≤ maxLen∧z0.length = cap0∧(∀ i,i < z0.length → w.cell? (x.add i) = some (.int .u8 (z0.getD i 0)))∧∀ n ∈ z0,(Lit.int .u8 n).wf = true) (y0:len0 * 1 ≤ 140737488351232) :
  Calls Tryd.prog 10 #[.slice a0 len0 cap0] w fun e w'=>e = .returned (.bool true)∧Below w.heap.size w w':=by
 obtain ⟨l0,rfl,hr0,hm0,hw0,hc0⟩:=ReadsInt.ofRowC w0
 obtain ⟨k,h⟩:=P l0 hm0 y0 hw0
 refine (laws_FnSecretKept.calls k _ _ l0 true w (Kd.C_of_reads (d:=(0:Int)) (h1:=fun _=>rfl) hr0) hc0 h).mono ?_
 rintro e w' ⟨rfl,hd⟩
 exact ⟨rfl,hd⟩
end Go.Proofs.YtbcjpdahdecehaaDoor.P
