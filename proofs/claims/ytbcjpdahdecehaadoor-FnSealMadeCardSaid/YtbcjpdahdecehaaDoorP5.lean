/- What the Go functions that the laws reach compute, and that their calls come to just that: told by a program of this session (aprint.py). No condition. -/
import Derived.Test.YtbcjpdahdecehaaDoorP0
import Derived.Test.YtbcjpdahdecehaaDoorP1
import Derived.Test.YtbcjpdahdecehaaDoorP3
import Derived.Test.YtbcjpdahdecehaaDoorHMade
noncomputable section
namespace Go.Proofs.YtbcjpdahdecehaaDoor.P
open Go.RowKit Go.Proofs.YtbcjpdahdecehaaDoorW.PrintWords Go.Proofs.YtbcjpdahdecehaaDoorW.PrintLast Go.Proofs.YtbcjpdahdecehaaDoorW.PrintMore
attribute [local go_sem] max2_int min2_int max_two min_two max_three min_three max_four min_four
set_option linter.unusedVariables false
set_option linter.unusedSimpArgs false
mutual
def laws_FnSealMade.j0:Nat → List (S25) → Bool → Int → Int → List (S25) → Option (Bool)
 | 0,_,_,_,_,_=>none
 | k + 1,x3,x33,x553000,x553001,x553002=>if x33 = true then (some true) else ((some (([]:List (S25)):List (S25))).bind fun y555=>(if y555.length + x3.length < 3518437208883 then ((some (y555 ++ x3:List (S25))).bind fun y558=>((some (([(⟨0,7,([]:List (S25))⟩:S25)]:List (S25)):List (S25))).bind fun y561=>(if y558.length + y561.length < 3518437208883 then ((some (([]:List (S25)):List (S25))).bind fun y567=>(if y567.length + x3.length < 3518437208883 then ((some (y567 ++ x3:List (S25))).bind fun y570=>((some (([(⟨x553000,x553001,x553002⟩:S25)]:List (S25)):List (S25))).bind fun y573=>(if y570.length + y573.length < 3518437208883 then (laws_FnSealMade.l0 k x3 (y558 ++ y561) (y570 ++ y573) 0 x553000 x553001 x553002) else (none)))) else (none))) else (none)))) else (none)))
def laws_FnSealMade.l0:Nat → List (S25) → List (S25) → List (S25) → Int → Int → Int → List (S25) → Option (Bool)
 | 0,_,_,_,_,_,_,_=>none
 | k + 1,x3,x7,x8,x9,x553000,x553001,x553002=>if x9 < 10 then ((impl_SealMade.f x3 0 x9 ([]:List (S25))).bind fun t580=>((impl_SealMade.f x8 0 x9 ([]:List (S25))).bind fun t581=>(if (t580 != t581) = true then (some false) else (laws_FnSealMade.l0 k x3 x7 x8 (wrap64 (x9 + 1)) x553000 x553001 x553002)))) else ((impl_SealMade.f x7 x553000 x553001 x553002).bind fun t579=>(some t579))
end
def laws_FnSealMade.f (k:Nat) (l0:List Int):Option (Bool):=if (l0.length:Int) > 1048576 then (some true) else ((spec_DrawSealMade.f k l0).bind fun bt544=>((impl_SealMade.f bt544.1 bt544.2.1 bt544.2.2.1 bt544.2.2.2).bind fun t553=>((spec_SealMade.f k bt544.1 bt544.2.1 bt544.2.2.1 bt544.2.2.2).bind fun t554=>(if (t553 != t554) = true then (some false) else (if t553 = true then (laws_FnSealMade.j0 k bt544.1 ((bt544.1.length:Int) == 6) bt544.2.1 bt544.2.2.1 bt544.2.2.2) else (laws_FnSealMade.j0 k bt544.1 true bt544.2.1 bt544.2.2.1 bt544.2.2.2))))))
theorem laws_FnSealMade.mono_l:∀ k,(∀ y0 y1 y2 y3 y4,LeO (laws_FnSealMade.j0 k y0 y1 y2 y3 y4) (laws_FnSealMade.j0 (k + 1) y0 y1 y2 y3 y4))∧(∀ y0 y1 y2 y3 y4 y5 y6,LeO (laws_FnSealMade.l0 k y0 y1 y2 y3 y4 y5 y6) (laws_FnSealMade.l0 (k + 1) y0 y1 y2 y3 y4 y5 y6))
 | 0=>⟨fun _ _ _ _ _ r h=>by simp [laws_FnSealMade.j0] at h,fun _ _ _ _ _ _ _ r h=>by simp [laws_FnSealMade.l0] at h⟩
 | k + 1=>by
  obtain ⟨ih0,ih1⟩:=laws_FnSealMade.mono_l k
  refine ⟨?_,?_⟩
  ·intro y0 y1 y2 y3 y4
   unfold laws_FnSealMade.j0
   repeat' first
   | (with_reducible exact ih0 _ _ _ _ _)
   | (with_reducible exact ih1 _ _ _ _ _ _ _)
   | (with_reducible exact spec_DrawSealMade.mono _ _)
   | (with_reducible exact spec_SealMade.mono _ _ _ _ _)
   | (with_reducible exact LeO.refl _)
   | (with_reducible exact LeO.none _)
   | (with_reducible refine LeO.ite ?_ ?_)
   | (with_reducible refine LeO.bind ?_ (fun _=>?_))
   | exact ih0 _ _ _ _ _
   | exact ih1 _ _ _ _ _ _ _
   | exact spec_DrawSealMade.mono _ _
   | exact spec_SealMade.mono _ _ _ _ _
   | exact LeO.none _
   | refine LeO.ite ?_ ?_
   | refine LeO.bind ?_ (fun _=>?_)
  ·intro y0 y1 y2 y3 y4 y5 y6
   unfold laws_FnSealMade.l0
   repeat' first
   | (with_reducible exact ih0 _ _ _ _ _)
   | (with_reducible exact ih1 _ _ _ _ _ _ _)
   | (with_reducible exact spec_DrawSealMade.mono _ _)
   | (with_reducible exact spec_SealMade.mono _ _ _ _ _)
   | (with_reducible exact LeO.refl _)
   | (with_reducible exact LeO.none _)
   | (with_reducible refine LeO.ite ?_ ?_)
   | (with_reducible refine LeO.bind ?_ (fun _=>?_))
   | exact ih0 _ _ _ _ _
   | exact ih1 _ _ _ _ _ _ _
   | exact spec_DrawSealMade.mono _ _
   | exact spec_SealMade.mono _ _ _ _ _
   | exact LeO.none _
   | refine LeO.ite ?_ ?_
   | refine LeO.bind ?_ (fun _=>?_)
theorem laws_FnSealMade.mono:∀ a0 k,LeO (laws_FnSealMade.f k a0) (laws_FnSealMade.f (k + 1) a0):=by
 intro a0 k
 obtain ⟨ih0,ih1⟩:=laws_FnSealMade.mono_l k
 unfold laws_FnSealMade.f
 repeat' first
   | (with_reducible exact ih0 _ _ _ _ _)
   | (with_reducible exact ih1 _ _ _ _ _ _ _)
   | (with_reducible exact spec_DrawSealMade.mono _ _)
   | (with_reducible exact spec_SealMade.mono _ _ _ _ _)
   | (with_reducible exact LeO.refl _)
   | (with_reducible exact LeO.none _)
   | (with_reducible refine LeO.ite ?_ ?_)
   | (with_reducible refine LeO.bind ?_ (fun _=>?_))
   | exact ih0 _ _ _ _ _
   | exact ih1 _ _ _ _ _ _ _
   | exact spec_DrawSealMade.mono _ _
   | exact spec_SealMade.mono _ _ _ _ _
   | exact LeO.none _
   | refine LeO.ite ?_ ?_
   | refine LeO.bind ?_ (fun _=>?_)
set_option maxHeartbeats 8000000 in
set_option maxRecDepth 100000 in
theorem laws_FnSealMade.calls (k:Nat) (A0:Option Addr) (c0:Nat) (l0:List Int) (r:Bool) (w:World) (hr0:Kd.C (Kd.int .u8) w A0 l0.length l0) (hc0:l0.length ≤ c0) (h:laws_FnSealMade.f k l0 = some r) :
  Calls Tryd.prog 9 #[.slice A0 l0.length c0] w fun e w'=>e = .returned (.bool r)∧Below w.heap.size w w':=by
 have hu25:=Tryd.underlying25
 have HR0:=Aside0.mk hr0
 have HC0:=Aside0.mk hc0
 clear hr0 hc0
 have HB:=Aside0.mk (Below.refl w.heap.size w)
 have H:(if (l0.length:Int) > 1048576 then (some true) else ((spec_DrawSealMade.f k l0).bind fun bt544=>((impl_SealMade.f bt544.1 bt544.2.1 bt544.2.2.1 bt544.2.2.2).bind fun t553=>((spec_SealMade.f k bt544.1 bt544.2.1 bt544.2.2.1 bt544.2.2.2).bind fun t554=>(if (t553 != t554) = true then (some false) else (if t553 = true then (laws_FnSealMade.j0 k bt544.1 ((bt544.1.length:Int) == 6) bt544.2.1 bt544.2.2.1 bt544.2.2.2) else (laws_FnSealMade.j0 k bt544.1 true bt544.2.1 bt544.2.2.1 bt544.2.2.2))))))) = some r:=h
 clear h
 by_cases c2:(l0.length:Int) > 1048576
 ·rw [if_pos c2] at H
  have c2b0:decide (1048576 < (l0.length:Int)) = true:=decide_eq_true c2
  have c2b1:decide (1048576 < l0.length) = true:=decide_eq_true (by omega)
  clear c2
  obtain rfl:=Option.some.inj H
  go_enter Tryd.func9,Tryd.ntmps9
  go_wp2
  go_ret
  exact ⟨by first | rfl | (simp [errW_none,errW_some] <;> rfl) | (simp [*,errW_none,errW_some] <;> rfl),by repeat (first | (with_reducible first | exact HB.out | apply below_alloc | apply pw_below_drewN | apply below_drew1) | exact HB.out)⟩
 ·rw [if_neg c2] at H
  have c2b0:decide (1048576 < (l0.length:Int)) = false:=decide_eq_false c2
  have c2b1:decide (1048576 < l0.length) = false:=decide_eq_false (by omega)
  clear c2
  replace H:=Option.bind_eq_some_iff.mp H
  obtain ⟨⟨t544,t547,t548,t549⟩,A30,H⟩:=H
  replace H:((impl_SealMade.f t544 t547 t548 t549).bind fun t553=>((spec_SealMade.f k t544 t547 t548 t549).bind fun t554=>(if (t553 != t554) = true then (some false) else (if t553 = true then (laws_FnSealMade.j0 k t544 ((t544.length:Int) == 6) t547 t548 t549) else (laws_FnSealMade.j0 k t544 true t547 t548 t549))))) = some r:=H
  have A3:=Aside0.mk A30
  clear A30
  replace H:=Option.bind_eq_some_iff.mp H
  obtain ⟨t553,A40,H⟩:=H
  replace H:((spec_SealMade.f k t544 t547 t548 t549).bind fun t554=>(if (t553 != t554) = true then (some false) else (if t553 = true then (laws_FnSealMade.j0 k t544 ((t544.length:Int) == 6) t547 t548 t549) else (laws_FnSealMade.j0 k t544 true t547 t548 t549)))) = some r:=H
  have A4:=Aside0.mk A40
  clear A40
  replace H:=Option.bind_eq_some_iff.mp H
  obtain ⟨t554,A50,H⟩:=H
  replace H:(if (t553 != t554) = true then (some false) else (if t553 = true then (laws_FnSealMade.j0 k t544 ((t544.length:Int) == 6) t547 t548 t549) else (laws_FnSealMade.j0 k t544 true t547 t548 t549))) = some r:=H
  have A5:=Aside0.mk A50
  clear A50
  by_cases c6:(t553 != t554) = true
  ·rw [if_pos c6] at H
   have c6b0:(t553 != t554) = true:=c6
   (try (have c6b1:decide (t553 = t554) = false:=by simpa using c6))
   (try (have c6b2:(t553 == t554) = false:=by simpa using c6))
   (try (have c6b3:¬ (t553 = t554):=by simpa using c6))
   clear c6
   obtain rfl:=Option.some.inj H
   go_enter Tryd.func9,Tryd.ntmps9
   go_wp2_with (first | ((with_reducible refine gate_callee (f:=30) rfl ?_);refine goesL_ (some 15) rfl rfl Tryd.func30 (by kernel_rfl) rfl #[.slice A0 l0.length c0] rfl (by (try simp only [List.map_toArray,List.map_cons,List.map_nil]);first | done | rfl | (simp only [List.length_drop,List.length_take];rfl)) ?_;(with_reducible refine (spec_DrawSealMade.calls k _ _ l0 t544 t547 t548 t549 _ ?side1 ?side2 A3.out).mono ?_);(case side1=>repeat (first | exact HR0.out | (with_reducible refine Kd.C_alloc ?_ _) | (with_reducible refine Kd.C_drewN ?_ _) | (with_reducible refine Kd.C_drew ?_)));(case side2=>exact HC0.out);rintro e w7 ⟨v545,v550,rfl,ho0,ho1,hb⟩;refine ⟨_,rfl,?_⟩;have n0_:=Aside0.mk (Kd.N_lower (Kd.N_mono (ok':=fun k_=>True) ho0 (fun k_ hk_=>trivial)) (below_size (by repeat (first | (with_reducible first | exact HB.out | apply below_alloc | apply pw_below_drewN | apply below_drew1) | exact HB.out))));have n1_:=Aside0.mk (Kd.V_lower (Kd.V_mono (ok':=fun k_=>some k_ ≠ (v545:Value).ownBlock) ho1 (fun k_ hk_=>hk_.2)) (below_size (by repeat (first | (with_reducible first | exact HB.out | apply below_alloc | apply pw_below_drewN | apply below_drew1) | exact HB.out))));have n2_:=Aside0.mk (below_step (by repeat (first | (with_reducible first | exact HB.out | apply below_alloc | apply pw_below_drewN | apply below_drew1) | exact HB.out)) hb);clear HB;have HO546:=n0_;have HO551:=n1_;have HB:=n2_;clear n0_ n1_ n2_;(try clear hb);(try clear hb2);(try clear hk);(try clear hi);(try clear ho0);(try clear ho1)) | ((with_reducible refine gate_dst (N:=4) rfl ?_);(try (refine gate_guard (by rfl) ?_;dsimp only));refine box_event ?hg (N:=4) ?hd (cs:=#[.int .i64 0,.int .i64 0,.slice none 0 0]) (t:=25) ?hr ?_;(case hd=>rfl);(case hg=>rfl);(case hr=>first | (go_simp;done) | (go_simp;rfl));intro gb552 hg w8 hbox hb;have n0_:=Aside0.mk (Kd.N_below (Kd.N_elderB (by (with_reducible repeat (first | apply Kd.N_alloc | apply Kd.N_drewN | apply Kd.N_drew));exact HO546.out) gb552 (Nat.le_of_eq hg.symm)) hb);have n1_:=Aside0.mk (Kd.V_below (Kd.V_elderB (by (with_reducible repeat (first | apply Kd.V_alloc | apply Kd.V_drewN | apply Kd.V_drew));exact HO551.out) gb552 (Nat.le_of_eq hg.symm)) hb);have n2_:=Aside0.mk (below_step (by repeat (first | (with_reducible first | exact HB.out | apply below_alloc | apply pw_below_drewN | apply below_drew1) | exact HB.out)) hb);have n3_:=Aside0.mk (hbox);have n4_:=Aside0.mk ((by rw [hg];exact (below_size (by repeat (first | (with_reducible first | exact HB.out | apply below_alloc | apply pw_below_drewN | apply below_drew1) | exact HB.out))):w.heap.size ≤ gb552));have n5_:=Aside0.mk ((by rw [hg];exact (below_size (by repeat (first | (with_reducible first | exact HB.out | apply below_alloc | apply pw_below_drewN | apply below_drew1) | exact HB.out))):w.heap.size ≤ gb552));clear HO546;clear HO551;clear HB;have HO546:=n0_;have HO551:=n1_;have HB:=n2_;have BK552:=n3_;have GW552:=n4_;have GE552:=n5_;clear n0_ n1_ n2_ n3_ n4_ n5_;clear hb hbox hg;have hcz9_0:w8.cell? ⟨gb552,0,none⟩ = some (.int .i64 0):=(blk_cell BK552.out 0).trans rfl;have hcz9_1:w8.cell? ⟨gb552,1,none⟩ = some (.int .i64 0):=(blk_cell BK552.out 1).trans rfl;have hcz9_2:w8.cell? ⟨gb552,2,none⟩ = some (.slice none 0 0):=(blk_cell BK552.out 2).trans rfl;have hfz9_0:=blk_frozen BK552.out 0;have hfz9_1:=blk_frozen BK552.out 1;have hfz9_2:=blk_frozen BK552.out 2;obtain ⟨Ao10,co10,eo10⟩:=Kd.V_slice HO551.out;subst eo10;obtain ⟨Ao11,co11,eo11⟩:=Kd.N_slice HO546.out;subst eo11) | ((with_reducible refine gate_callee (f:=28) rfl ?_);refine goesL_ (some 20) rfl rfl Tryd.func28 (by kernel_rfl) rfl #[.slice Ao11 t544.length co11,.agg #[.int .i64 t547,.int .i64 t548,.slice Ao10 t549.length co10]] rfl (by (try simp only [List.map_toArray,List.map_cons,List.map_nil]);first | done | rfl | (simp only [List.length_drop,List.length_take];rfl)) ?_;(with_reducible refine (impl_SealMade.calls _ _ t544 t547 t548 _ _ t549 t553 _ ?side1 ?side2 ?side3 ?side4 A4.out).mono ?_);(case side1=>refine (Kd.N_reads' (e:=25) (base:=w.heap.size) (ok:=fun k_=>(True∧k_ ≠ gb552)) (n:=t544.length) (c:=co11) ?_).2.2;exact (by (with_reducible repeat (first | apply Kd.N_alloc | apply Kd.N_drewN | apply Kd.N_drew));exact (Kd.N_mono (Kd.N_far (p:=⟨gb552,2,none⟩) (Kd.N_far (p:=⟨gb552,1,none⟩) (Kd.N_far (p:=⟨gb552,0,none⟩) (Kd.N_mono HO546.out (fun k_ hk=>(⟨hk,hk.2⟩:_∧k_ ≠ gb552))) (fun _ hk=>hk.2) (.int .i64 t547)) (fun _ hk=>hk.2) (.int .i64 t548)) (fun _ hk=>hk.2) (.slice Ao10 t549.length co10)) (fun _ h_=>h_.1))));(case side2=>exact (Kd.N_reads' HO546.out).2.1);(case side3=>refine (Kd.V_reads' (e:=25) (base:=w.heap.size) (ok:=fun k_=>(some k_ ≠ (.slice Ao11 t544.length co11:Value).ownBlock∧k_ ≠ gb552)) (n:=t549.length) (c:=co10) ?_).2.2;exact (by (with_reducible repeat (first | apply Kd.V_alloc | apply Kd.V_drewN | apply Kd.V_drew));exact (Kd.V_mono (Kd.V_far (p:=⟨gb552,2,none⟩) (Kd.V_far (p:=⟨gb552,1,none⟩) (Kd.V_far (p:=⟨gb552,0,none⟩) (Kd.V_mono HO551.out (fun k_ hk=>(⟨hk,hk.2⟩:_∧k_ ≠ gb552))) (fun _ hk=>hk.2) (.int .i64 t547)) (fun _ hk=>hk.2) (.int .i64 t548)) (fun _ hk=>hk.2) (.slice Ao10 t549.length co10)) (fun _ h_=>h_.1))));(case side4=>exact (Kd.V_reads' HO551.out).2.1);rintro e w12 ⟨rfl,hb⟩;refine ⟨_,rfl,?_⟩;have n0_:=Aside0.mk (Kd.N_below (by (with_reducible repeat (first | apply Kd.N_alloc | apply Kd.N_drewN | apply Kd.N_drew));exact (Kd.N_mono (Kd.N_far (p:=⟨gb552,2,none⟩) (Kd.N_far (p:=⟨gb552,1,none⟩) (Kd.N_far (p:=⟨gb552,0,none⟩) (Kd.N_mono HO546.out (fun k_ hk=>(⟨hk,hk.2⟩:_∧k_ ≠ gb552))) (fun _ hk=>hk.2) (.int .i64 t547)) (fun _ hk=>hk.2) (.int .i64 t548)) (fun _ hk=>hk.2) (.slice Ao10 t549.length co10)) (fun _ h_=>h_.1))) hb);have n1_:=Aside0.mk (Kd.V_below (by (with_reducible repeat (first | apply Kd.V_alloc | apply Kd.V_drewN | apply Kd.V_drew));exact (Kd.V_mono (Kd.V_far (p:=⟨gb552,2,none⟩) (Kd.V_far (p:=⟨gb552,1,none⟩) (Kd.V_far (p:=⟨gb552,0,none⟩) (Kd.V_mono HO551.out (fun k_ hk=>(⟨hk,hk.2⟩:_∧k_ ≠ gb552))) (fun _ hk=>hk.2) (.int .i64 t547)) (fun _ hk=>hk.2) (.int .i64 t548)) (fun _ hk=>hk.2) (.slice Ao10 t549.length co10)) (fun _ h_=>h_.1))) hb);have n2_:=Aside0.mk (blk_below (g:=gb552) (o:=.cells #[.int .i64 t547,.int .i64 t548,.slice Ao10 t549.length co10] 25 (0,0)) (by (with_reducible repeat (first | refine blk_drewN ?_ _ | refine blk_drew ?_ | refine blk_alloc ?_ _));refine blk_put (cs:=#[.int .i64 t547,.int .i64 t548,.slice none 0 0]) ?_ 2 _ rfl;(with_reducible repeat (first | refine blk_drewN ?_ _ | refine blk_drew ?_ | refine blk_alloc ?_ _));refine blk_put (cs:=#[.int .i64 t547,.int .i64 0,.slice none 0 0]) ?_ 1 _ rfl;(with_reducible repeat (first | refine blk_drewN ?_ _ | refine blk_drew ?_ | refine blk_alloc ?_ _));refine blk_put (cs:=#[.int .i64 0,.int .i64 0,.slice none 0 0]) ?_ 0 _ rfl;(with_reducible repeat (first | refine blk_drewN ?_ _ | refine blk_drew ?_ | refine blk_alloc ?_ _));exact BK552.out) hb);have n3_:=Aside0.mk (below_step (by repeat (first | (with_reducible first | exact HB.out | apply below_alloc | apply pw_below_drewN | apply below_drew1 | refine below_set ?_ GE552.out) | exact HB.out)) hb);clear HO546;clear HO551;clear BK552;clear HB;have HO546:=n0_;have HO551:=n1_;have BK552:=n2_;have HB:=n3_;clear n0_ n1_ n2_ n3_;(try clear hb);(try clear hb2);(try clear hk);(try clear hi);have hcz13_0:w12.cell? ⟨gb552,0,none⟩ = some (.int .i64 t547):=(blk_cell BK552.out 0).trans rfl;have hcz13_1:w12.cell? ⟨gb552,1,none⟩ = some (.int .i64 t548):=(blk_cell BK552.out 1).trans rfl;have hcz13_2:w12.cell? ⟨gb552,2,none⟩ = some (.slice Ao10 t549.length co10):=(blk_cell BK552.out 2).trans rfl;have hfz13_0:=blk_frozen BK552.out 0;have hfz13_1:=blk_frozen BK552.out 1;have hfz13_2:=blk_frozen BK552.out 2) | ((with_reducible refine gate_callee (f:=26) rfl ?_);refine goesL_ (some 23) rfl rfl Tryd.func26 (by kernel_rfl) rfl #[.slice Ao11 t544.length co11,.agg #[.int .i64 t547,.int .i64 t548,.slice Ao10 t549.length co10]] rfl (by (try simp only [List.map_toArray,List.map_cons,List.map_nil]);first | done | rfl | (simp only [List.length_drop,List.length_take];rfl)) ?_;(with_reducible refine (spec_SealMade.calls k _ _ t544 t547 t548 _ _ t549 t554 _ ?side1 ?side2 ?side3 ?side4 A5.out).mono ?_);(case side1=>repeat (first | exact (Kd.N_reads' HO546.out).2.2 | (with_reducible refine Kd.C_alloc ?_ _) | (with_reducible refine Kd.C_drewN ?_ _) | (with_reducible refine Kd.C_drew ?_)));(case side2=>exact (Kd.N_reads' HO546.out).2.1);(case side3=>repeat (first | exact (Kd.V_reads' HO551.out).2.2 | (with_reducible refine Kd.C_alloc ?_ _) | (with_reducible refine Kd.C_drewN ?_ _) | (with_reducible refine Kd.C_drew ?_)));(case side4=>exact (Kd.V_reads' HO551.out).2.1);rintro e w14 ⟨rfl,hb⟩;refine ⟨_,rfl,?_⟩;have n0_:=Aside0.mk (Kd.N_below (by (with_reducible repeat (first | apply Kd.N_alloc | apply Kd.N_drewN | apply Kd.N_drew));exact HO546.out) hb);have n1_:=Aside0.mk (Kd.V_below (by (with_reducible repeat (first | apply Kd.V_alloc | apply Kd.V_drewN | apply Kd.V_drew));exact HO551.out) hb);have n2_:=Aside0.mk (blk_below (g:=gb552) (o:=.cells #[.int .i64 t547,.int .i64 t548,.slice Ao10 t549.length co10] 25 (0,0)) (by (with_reducible repeat (first | refine blk_drewN ?_ _ | refine blk_drew ?_ | refine blk_alloc ?_ _));exact BK552.out) hb);have n3_:=Aside0.mk (below_step (by repeat (first | (with_reducible first | exact HB.out | apply below_alloc | apply pw_below_drewN | apply below_drew1 | refine below_set ?_ GE552.out) | exact HB.out)) hb);clear HO546;clear HO551;clear BK552;clear HB;have HO546:=n0_;have HO551:=n1_;have BK552:=n2_;have HB:=n3_;clear n0_ n1_ n2_ n3_;(try clear hb);(try clear hb2);(try clear hk);(try clear hi)))
   go_ret
   exact ⟨by first | rfl | (simp [errW_none,errW_some] <;> rfl) | (simp [*,errW_none,errW_some] <;> rfl),by repeat (first | (with_reducible first | exact HB.out | apply below_alloc | apply pw_below_drewN | apply below_drew1 | refine below_set ?_ GE552.out) | exact HB.out)⟩
  ·rw [if_neg c6] at H
   have c6b0:(t553 != t554) = false:=by simpa using c6
   (try (have c6b1:decide (t553 = t554) = true:=by simpa using c6))
   (try (have c6b2:(t553 == t554) = true:=by simpa using c6))
   clear c6
   have HC15:=Aside0.mk H
   clear H
   go_enter Tryd.func9,Tryd.ntmps9
   go_upto_region 8 with (first | ((with_reducible refine gate_callee (f:=30) rfl ?_);refine goesL_ (some 15) rfl rfl Tryd.func30 (by kernel_rfl) rfl #[.slice A0 l0.length c0] rfl (by (try simp only [List.map_toArray,List.map_cons,List.map_nil]);first | done | rfl | (simp only [List.length_drop,List.length_take];rfl)) ?_;(with_reducible refine (spec_DrawSealMade.calls k _ _ l0 t544 t547 t548 t549 _ ?side1 ?side2 A3.out).mono ?_);(case side1=>repeat (first | exact HR0.out | (with_reducible refine Kd.C_alloc ?_ _) | (with_reducible refine Kd.C_drewN ?_ _) | (with_reducible refine Kd.C_drew ?_)));(case side2=>exact HC0.out);rintro e w16 ⟨v545,v550,rfl,ho0,ho1,hb⟩;refine ⟨_,rfl,?_⟩;have n0_:=Aside0.mk (Kd.N_lower (Kd.N_mono (ok':=fun k_=>True) ho0 (fun k_ hk_=>trivial)) (below_size (by repeat (first | (with_reducible first | exact HB.out | apply below_alloc | apply pw_below_drewN | apply below_drew1) | exact HB.out))));have n1_:=Aside0.mk (Kd.V_lower (Kd.V_mono (ok':=fun k_=>some k_ ≠ (v545:Value).ownBlock) ho1 (fun k_ hk_=>hk_.2)) (below_size (by repeat (first | (with_reducible first | exact HB.out | apply below_alloc | apply pw_below_drewN | apply below_drew1) | exact HB.out))));have n2_:=Aside0.mk (below_step (by repeat (first | (with_reducible first | exact HB.out | apply below_alloc | apply pw_below_drewN | apply below_drew1) | exact HB.out)) hb);clear HB;have HO546:=n0_;have HO551:=n1_;have HB:=n2_;clear n0_ n1_ n2_;(try clear hb);(try clear hb2);(try clear hk);(try clear hi);(try clear ho0);(try clear ho1)) | ((with_reducible refine gate_dst (N:=4) rfl ?_);(try (refine gate_guard (by rfl) ?_;dsimp only));refine box_event ?hg (N:=4) ?hd (cs:=#[.int .i64 0,.int .i64 0,.slice none 0 0]) (t:=25) ?hr ?_;(case hd=>rfl);(case hg=>rfl);(case hr=>first | (go_simp;done) | (go_simp;rfl));intro gb552 hg w17 hbox hb;have n0_:=Aside0.mk (Kd.N_below (Kd.N_elderB (by (with_reducible repeat (first | apply Kd.N_alloc | apply Kd.N_drewN | apply Kd.N_drew));exact HO546.out) gb552 (Nat.le_of_eq hg.symm)) hb);have n1_:=Aside0.mk (Kd.V_below (Kd.V_elderB (by (with_reducible repeat (first | apply Kd.V_alloc | apply Kd.V_drewN | apply Kd.V_drew));exact HO551.out) gb552 (Nat.le_of_eq hg.symm)) hb);have n2_:=Aside0.mk (below_step (by repeat (first | (with_reducible first | exact HB.out | apply below_alloc | apply pw_below_drewN | apply below_drew1) | exact HB.out)) hb);have n3_:=Aside0.mk (hbox);have n4_:=Aside0.mk ((by rw [hg];exact (below_size (by repeat (first | (with_reducible first | exact HB.out | apply below_alloc | apply pw_below_drewN | apply below_drew1) | exact HB.out))):w.heap.size ≤ gb552));have n5_:=Aside0.mk ((by rw [hg];exact (below_size (by repeat (first | (with_reducible first | exact HB.out | apply below_alloc | apply pw_below_drewN | apply below_drew1) | exact HB.out))):w.heap.size ≤ gb552));clear HO546;clear HO551;clear HB;have HO546:=n0_;have HO551:=n1_;have HB:=n2_;have BK552:=n3_;have GW552:=n4_;have GE552:=n5_;clear n0_ n1_ n2_ n3_ n4_ n5_;clear hb hbox hg;have hcz18_0:w17.cell? ⟨gb552,0,none⟩ = some (.int .i64 0):=(blk_cell BK552.out 0).trans rfl;have hcz18_1:w17.cell? ⟨gb552,1,none⟩ = some (.int .i64 0):=(blk_cell BK552.out 1).trans rfl;have hcz18_2:w17.cell? ⟨gb552,2,none⟩ = some (.slice none 0 0):=(blk_cell BK552.out 2).trans rfl;have hfz18_0:=blk_frozen BK552.out 0;have hfz18_1:=blk_frozen BK552.out 1;have hfz18_2:=blk_frozen BK552.out 2;obtain ⟨Ao19,co19,eo19⟩:=Kd.V_slice HO551.out;subst eo19;obtain ⟨Ao20,co20,eo20⟩:=Kd.N_slice HO546.out;subst eo20) | ((with_reducible refine gate_callee (f:=28) rfl ?_);refine goesL_ (some 20) rfl rfl Tryd.func28 (by kernel_rfl) rfl #[.slice Ao20 t544.length co20,.agg #[.int .i64 t547,.int .i64 t548,.slice Ao19 t549.length co19]] rfl (by (try simp only [List.map_toArray,List.map_cons,List.map_nil]);first | done | rfl | (simp only [List.length_drop,List.length_take];rfl)) ?_;(with_reducible refine (impl_SealMade.calls _ _ t544 t547 t548 _ _ t549 t553 _ ?side1 ?side2 ?side3 ?side4 A4.out).mono ?_);(case side1=>refine (Kd.N_reads' (e:=25) (base:=w.heap.size) (ok:=fun k_=>(True∧k_ ≠ gb552)) (n:=t544.length) (c:=co20) ?_).2.2;exact (by (with_reducible repeat (first | apply Kd.N_alloc | apply Kd.N_drewN | apply Kd.N_drew));exact (Kd.N_mono (Kd.N_far (p:=⟨gb552,2,none⟩) (Kd.N_far (p:=⟨gb552,1,none⟩) (Kd.N_far (p:=⟨gb552,0,none⟩) (Kd.N_mono HO546.out (fun k_ hk=>(⟨hk,hk.2⟩:_∧k_ ≠ gb552))) (fun _ hk=>hk.2) (.int .i64 t547)) (fun _ hk=>hk.2) (.int .i64 t548)) (fun _ hk=>hk.2) (.slice Ao19 t549.length co19)) (fun _ h_=>h_.1))));(case side2=>exact (Kd.N_reads' HO546.out).2.1);(case side3=>refine (Kd.V_reads' (e:=25) (base:=w.heap.size) (ok:=fun k_=>(some k_ ≠ (.slice Ao20 t544.length co20:Value).ownBlock∧k_ ≠ gb552)) (n:=t549.length) (c:=co19) ?_).2.2;exact (by (with_reducible repeat (first | apply Kd.V_alloc | apply Kd.V_drewN | apply Kd.V_drew));exact (Kd.V_mono (Kd.V_far (p:=⟨gb552,2,none⟩) (Kd.V_far (p:=⟨gb552,1,none⟩) (Kd.V_far (p:=⟨gb552,0,none⟩) (Kd.V_mono HO551.out (fun k_ hk=>(⟨hk,hk.2⟩:_∧k_ ≠ gb552))) (fun _ hk=>hk.2) (.int .i64 t547)) (fun _ hk=>hk.2) (.int .i64 t548)) (fun _ hk=>hk.2) (.slice Ao19 t549.length co19)) (fun _ h_=>h_.1))));(case side4=>exact (Kd.V_reads' HO551.out).2.1);rintro e w21 ⟨rfl,hb⟩;refine ⟨_,rfl,?_⟩;have n0_:=Aside0.mk (Kd.N_below (by (with_reducible repeat (first | apply Kd.N_alloc | apply Kd.N_drewN | apply Kd.N_drew));exact (Kd.N_mono (Kd.N_far (p:=⟨gb552,2,none⟩) (Kd.N_far (p:=⟨gb552,1,none⟩) (Kd.N_far (p:=⟨gb552,0,none⟩) (Kd.N_mono HO546.out (fun k_ hk=>(⟨hk,hk.2⟩:_∧k_ ≠ gb552))) (fun _ hk=>hk.2) (.int .i64 t547)) (fun _ hk=>hk.2) (.int .i64 t548)) (fun _ hk=>hk.2) (.slice Ao19 t549.length co19)) (fun _ h_=>h_.1))) hb);have n1_:=Aside0.mk (Kd.V_below (by (with_reducible repeat (first | apply Kd.V_alloc | apply Kd.V_drewN | apply Kd.V_drew));exact (Kd.V_mono (Kd.V_far (p:=⟨gb552,2,none⟩) (Kd.V_far (p:=⟨gb552,1,none⟩) (Kd.V_far (p:=⟨gb552,0,none⟩) (Kd.V_mono HO551.out (fun k_ hk=>(⟨hk,hk.2⟩:_∧k_ ≠ gb552))) (fun _ hk=>hk.2) (.int .i64 t547)) (fun _ hk=>hk.2) (.int .i64 t548)) (fun _ hk=>hk.2) (.slice Ao19 t549.length co19)) (fun _ h_=>h_.1))) hb);have n2_:=Aside0.mk (blk_below (g:=gb552) (o:=.cells #[.int .i64 t547,.int .i64 t548,.slice Ao19 t549.length co19] 25 (0,0)) (by (with_reducible repeat (first | refine blk_drewN ?_ _ | refine blk_drew ?_ | refine blk_alloc ?_ _));refine blk_put (cs:=#[.int .i64 t547,.int .i64 t548,.slice none 0 0]) ?_ 2 _ rfl;(with_reducible repeat (first | refine blk_drewN ?_ _ | refine blk_drew ?_ | refine blk_alloc ?_ _));refine blk_put (cs:=#[.int .i64 t547,.int .i64 0,.slice none 0 0]) ?_ 1 _ rfl;(with_reducible repeat (first | refine blk_drewN ?_ _ | refine blk_drew ?_ | refine blk_alloc ?_ _));refine blk_put (cs:=#[.int .i64 0,.int .i64 0,.slice none 0 0]) ?_ 0 _ rfl;(with_reducible repeat (first | refine blk_drewN ?_ _ | refine blk_drew ?_ | refine blk_alloc ?_ _));exact BK552.out) hb);have n3_:=Aside0.mk (below_step (by repeat (first | (with_reducible first | exact HB.out | apply below_alloc | apply pw_below_drewN | apply below_drew1 | refine below_set ?_ GE552.out) | exact HB.out)) hb);clear HO546;clear HO551;clear BK552;clear HB;have HO546:=n0_;have HO551:=n1_;have BK552:=n2_;have HB:=n3_;clear n0_ n1_ n2_ n3_;(try clear hb);(try clear hb2);(try clear hk);(try clear hi);have hcz22_0:w21.cell? ⟨gb552,0,none⟩ = some (.int .i64 t547):=(blk_cell BK552.out 0).trans rfl;have hcz22_1:w21.cell? ⟨gb552,1,none⟩ = some (.int .i64 t548):=(blk_cell BK552.out 1).trans rfl;have hcz22_2:w21.cell? ⟨gb552,2,none⟩ = some (.slice Ao19 t549.length co19):=(blk_cell BK552.out 2).trans rfl;have hfz22_0:=blk_frozen BK552.out 0;have hfz22_1:=blk_frozen BK552.out 1;have hfz22_2:=blk_frozen BK552.out 2) | ((with_reducible refine gate_callee (f:=26) rfl ?_);refine goesL_ (some 23) rfl rfl Tryd.func26 (by kernel_rfl) rfl #[.slice Ao20 t544.length co20,.agg #[.int .i64 t547,.int .i64 t548,.slice Ao19 t549.length co19]] rfl (by (try simp only [List.map_toArray,List.map_cons,List.map_nil]);first | done | rfl | (simp only [List.length_drop,List.length_take];rfl)) ?_;(with_reducible refine (spec_SealMade.calls k _ _ t544 t547 t548 _ _ t549 t554 _ ?side1 ?side2 ?side3 ?side4 A5.out).mono ?_);(case side1=>repeat (first | exact (Kd.N_reads' HO546.out).2.2 | (with_reducible refine Kd.C_alloc ?_ _) | (with_reducible refine Kd.C_drewN ?_ _) | (with_reducible refine Kd.C_drew ?_)));(case side2=>exact (Kd.N_reads' HO546.out).2.1);(case side3=>repeat (first | exact (Kd.V_reads' HO551.out).2.2 | (with_reducible refine Kd.C_alloc ?_ _) | (with_reducible refine Kd.C_drewN ?_ _) | (with_reducible refine Kd.C_drew ?_)));(case side4=>exact (Kd.V_reads' HO551.out).2.1);rintro e w23 ⟨rfl,hb⟩;refine ⟨_,rfl,?_⟩;have n0_:=Aside0.mk (Kd.N_below (by (with_reducible repeat (first | apply Kd.N_alloc | apply Kd.N_drewN | apply Kd.N_drew));exact HO546.out) hb);have n1_:=Aside0.mk (Kd.V_below (by (with_reducible repeat (first | apply Kd.V_alloc | apply Kd.V_drewN | apply Kd.V_drew));exact HO551.out) hb);have n2_:=Aside0.mk (blk_below (g:=gb552) (o:=.cells #[.int .i64 t547,.int .i64 t548,.slice Ao19 t549.length co19] 25 (0,0)) (by (with_reducible repeat (first | refine blk_drewN ?_ _ | refine blk_drew ?_ | refine blk_alloc ?_ _));exact BK552.out) hb);have n3_:=Aside0.mk (below_step (by repeat (first | (with_reducible first | exact HB.out | apply below_alloc | apply pw_below_drewN | apply below_drew1 | refine below_set ?_ GE552.out) | exact HB.out)) hb);clear HO546;clear HO551;clear BK552;clear HB;have HO546:=n0_;have HO551:=n1_;have BK552:=n2_;have HB:=n3_;clear n0_ n1_ n2_ n3_;(try clear hb);(try clear hb2);(try clear hk);(try clear hi)))
   (try simp only [Act.put,List.setIfInBounds_toArray,List.set_cons_zero,List.set_cons_succ])
   go_cut [33] (fun v33 wc=>∃ (kq:Nat) (x33_14:Bool),v33 = .bool x33_14∧Aside0 (laws_FnSealMade.j0 kq t544 x33_14 t547 t548 t549 = some r)∧Aside0 (kq ≤ k)∧Aside0 (Kd.N k25 25 wc w.heap.size (fun k_=>k_ ≠ gb552) (.slice Ao20 t544.length co20) t544)∧Aside0 (Kd.V k25 25 wc w.heap.size (fun k_=>some k_ ≠ ((.slice Ao20 t544.length co20):Value).ownBlock∧k_ ≠ gb552) (.slice Ao19 t549.length co19) t549)∧Aside0 (wc.heap[gb552]? = some (.cells #[.int .i64 t547,.int .i64 t548,(.slice Ao19 t549.length co19)] 25 (0,0)))∧Aside0 (Below w.heap.size w wc))
   case first =>
    have H:=HC15.out
    clear HC15
    by_cases c24:t553 = true
    ·subst c24
     have H1:(laws_FnSealMade.j0 k t544 ((t544.length:Int) == 6) t547 t548 t549) = some r:=by rw [if_pos rfl] at H;exact H
     clear H
     have H:=H1
     clear H1
     have H':=Aside0.mk H
     clear H
     go_wp2
     go_meet
     case rel=>exact ⟨_,(((t544.length:Int) == 6)),(by first | rfl | (simp;done) | (simp [*];done)),H',⟨by first | omega | exact Nat.le_refl _⟩,⟨by (with_reducible repeat (first | apply Kd.N_alloc | apply Kd.N_drewN | apply Kd.N_drew));exact Kd.N_mono HO546.out (fun _ hk=>hk.2)⟩,⟨by (with_reducible repeat (first | apply Kd.V_alloc | apply Kd.V_drewN | apply Kd.V_drew));exact HO551.out⟩,⟨by (with_reducible repeat (first | refine blk_drewN ?_ _ | refine blk_drew ?_ | refine blk_alloc ?_ _));exact BK552.out⟩,⟨by repeat (first | (with_reducible first | exact HB.out | apply below_alloc | apply pw_below_drewN | apply below_drew1 | refine below_set ?_ GE552.out) | exact HB.out)⟩⟩
    ·replace c24:=Bool.eq_false_iff.mpr c24
     subst c24
     have H1:(laws_FnSealMade.j0 k t544 true t547 t548 t549) = some r:=by rw [if_neg (show ¬ (false = true) by decide)] at H;exact H
     clear H
     have H:=H1
     clear H1
     have H':=Aside0.mk H
     clear H
     go_wp2
     go_meet
     case rel=>exact ⟨_,(true),(by first | rfl | (simp;done) | (simp [*];done)),H',⟨by first | omega | exact Nat.le_refl _⟩,⟨by (with_reducible repeat (first | apply Kd.N_alloc | apply Kd.N_drewN | apply Kd.N_drew));exact Kd.N_mono HO546.out (fun _ hk=>hk.2)⟩,⟨by (with_reducible repeat (first | apply Kd.V_alloc | apply Kd.V_drewN | apply Kd.V_drew));exact HO551.out⟩,⟨by (with_reducible repeat (first | refine blk_drewN ?_ _ | refine blk_drew ?_ | refine blk_alloc ?_ _));exact BK552.out⟩,⟨by repeat (first | (with_reducible first | exact HB.out | apply below_alloc | apply pw_below_drewN | apply below_drew1 | refine below_set ?_ GE552.out) | exact HB.out)⟩⟩
   case rest =>
    clear HC15
    try clear c2
    try clear c2b0
    try clear c2b1
    try clear p2
    try clear c3
    try clear c6
    try clear c6b0
    try clear c6b1
    try clear c6b2
    try clear c9
    try clear c24
    try clear hcz13_0
    try clear hcz13_1
    try clear hcz13_2
    try clear hcz18_0
    try clear hcz18_1
    try clear hcz18_2
    try clear hcz22_0
    try clear hcz22_1
    try clear hcz22_2
    try clear hcz9_0
    try clear hcz9_1
    try clear hcz9_2
    try clear hfz13_0
    try clear hfz13_1
    try clear hfz13_2
    try clear hfz18_0
    try clear hfz18_1
    try clear hfz18_2
    try clear hfz22_0
    try clear hfz22_1
    try clear hfz22_2
    try clear hfz9_0
    try clear hfz9_1
    try clear hfz9_2
    obtain ⟨kq,x33_14,rfl,HA,HJ14,HO_3,HO_553002,BK552,HB⟩:=hcut
    cases kq with
    | zero=>exact absurd HA.out (by simp [laws_FnSealMade.j0])
    | succ kj14 =>
     have H:=HA.out
     clear HA
     simp only [laws_FnSealMade.j0] at H
     by_cases c25:x33_14 = true
     ·subst c25
      have H1:(some true) = some r:=by rw [if_pos rfl] at H;exact H
      clear H
      have H:=H1
      clear H1
      obtain rfl:=Option.some.inj H
      go_wp2
      go_ret
      exact ⟨by first | rfl | (simp [errW_none,errW_some] <;> rfl) | (simp [*,errW_none,errW_some] <;> rfl),by repeat (first | (with_reducible first | exact HB.out | apply below_alloc | apply pw_below_drewN | apply below_drew1 | refine below_set ?_ GE552.out) | exact HB.out)⟩
     ·replace c25:=Bool.eq_false_iff.mpr c25
      subst c25
      have H1:((some (([]:List (S25)):List (S25))).bind fun y555=>(if y555.length + t544.length < 3518437208883 then ((some (y555 ++ t544:List (S25))).bind fun y558=>((some (([(⟨0,7,([]:List (S25))⟩:S25)]:List (S25)):List (S25))).bind fun y561=>(if y558.length + y561.length < 3518437208883 then ((some (([]:List (S25)):List (S25))).bind fun y567=>(if y567.length + t544.length < 3518437208883 then ((some (y567 ++ t544:List (S25))).bind fun y570=>((some (([(⟨t547,t548,t549⟩:S25)]:List (S25)):List (S25))).bind fun y573=>(if y570.length + y573.length < 3518437208883 then (laws_FnSealMade.l0 kj14 t544 (y558 ++ y561) (y570 ++ y573) 0 t547 t548 t549) else (none)))) else (none))) else (none)))) else (none))) = some r:=by rw [if_neg (show ¬ (false = true) by decide)] at H;exact H
      clear H
      have H:=H1
      clear H1
      obtain ⟨y555,hy555⟩:∃ y_:List (S25),y_ = (([]:List (S25))):=⟨_,rfl⟩
      replace H:(if y555.length + t544.length < 3518437208883 then ((some (y555 ++ t544:List (S25))).bind fun y558=>((some (([(⟨0,7,([]:List (S25))⟩:S25)]:List (S25)):List (S25))).bind fun y561=>(if y558.length + y561.length < 3518437208883 then ((some (([]:List (S25)):List (S25))).bind fun y567=>(if y567.length + t544.length < 3518437208883 then ((some (y567 ++ t544:List (S25))).bind fun y570=>((some (([(⟨t547,t548,t549⟩:S25)]:List (S25)):List (S25))).bind fun y573=>(if y570.length + y573.length < 3518437208883 then (laws_FnSealMade.l0 kj14 t544 (y558 ++ y561) (y570 ++ y573) 0 t547 t548 t549) else (none)))) else (none))) else (none)))) else (none)) = some r:=by first | (rw [hy555];with_reducible exact H) | (have H2_:=(Option.bind_some _ _).symm.trans H;rw [hy555];with_reducible exact H2_) | (have H2_:=(Option.bind_some _ _).symm.trans H;with_reducible exact H2_) | with_reducible exact H | (rw [hy555];exact H) | exact H
      have Ny555:=Aside0.mk hy555
      clear hy555
      by_cases c26:y555.length + t544.length < 3518437208883
      ·rw [if_pos c26] at H
       have LMc26:=Aside0.mk c26
       clear c26
       obtain ⟨y558,hy558⟩:∃ y_:List (S25),y_ = (y555 ++ t544):=⟨_,rfl⟩
       replace H:((some (([(⟨0,7,([]:List (S25))⟩:S25)]:List (S25)):List (S25))).bind fun y561=>(if y558.length + y561.length < 3518437208883 then ((some (([]:List (S25)):List (S25))).bind fun y567=>(if y567.length + t544.length < 3518437208883 then ((some (y567 ++ t544:List (S25))).bind fun y570=>((some (([(⟨t547,t548,t549⟩:S25)]:List (S25)):List (S25))).bind fun y573=>(if y570.length + y573.length < 3518437208883 then (laws_FnSealMade.l0 kj14 t544 (y558 ++ y561) (y570 ++ y573) 0 t547 t548 t549) else (none)))) else (none))) else (none))) = some r:=by first | (rw [hy558];with_reducible exact H) | (have H2_:=(Option.bind_some _ _).symm.trans H;rw [hy558];with_reducible exact H2_) | (have H2_:=(Option.bind_some _ _).symm.trans H;with_reducible exact H2_) | with_reducible exact H | (rw [hy558];exact H) | exact H
       have Ny558:=Aside0.mk hy558
       clear hy558
       obtain ⟨y561,hy561⟩:∃ y_:List (S25),y_ = (([(⟨0,7,([]:List (S25))⟩:S25)]:List (S25))):=⟨_,rfl⟩
       replace H:(if y558.length + y561.length < 3518437208883 then ((some (([]:List (S25)):List (S25))).bind fun y567=>(if y567.length + t544.length < 3518437208883 then ((some (y567 ++ t544:List (S25))).bind fun y570=>((some (([(⟨t547,t548,t549⟩:S25)]:List (S25)):List (S25))).bind fun y573=>(if y570.length + y573.length < 3518437208883 then (laws_FnSealMade.l0 kj14 t544 (y558 ++ y561) (y570 ++ y573) 0 t547 t548 t549) else (none)))) else (none))) else (none)) = some r:=by first | (rw [hy561];with_reducible exact H) | (have H2_:=(Option.bind_some _ _).symm.trans H;rw [hy561];with_reducible exact H2_) | (have H2_:=(Option.bind_some _ _).symm.trans H;with_reducible exact H2_) | with_reducible exact H | (rw [hy561];exact H) | exact H
       have Ny561:=Aside0.mk hy561
       clear hy561
       by_cases c27:y558.length + y561.length < 3518437208883
       ·rw [if_pos c27] at H
        have LMc27:=Aside0.mk c27
        clear c27
        obtain ⟨y564,hy564⟩:∃ y_:List (S25),y_ = (y558 ++ y561):=⟨_,rfl⟩
        replace H:((some (([]:List (S25)):List (S25))).bind fun y567=>(if y567.length + t544.length < 3518437208883 then ((some (y567 ++ t544:List (S25))).bind fun y570=>((some (([(⟨t547,t548,t549⟩:S25)]:List (S25)):List (S25))).bind fun y573=>(if y570.length + y573.length < 3518437208883 then (laws_FnSealMade.l0 kj14 t544 y564 (y570 ++ y573) 0 t547 t548 t549) else (none)))) else (none))) = some r:=by first | (rw [hy564];with_reducible exact H) | (have H2_:=(Option.bind_some _ _).symm.trans H;rw [hy564];with_reducible exact H2_) | (have H2_:=(Option.bind_some _ _).symm.trans H;with_reducible exact H2_) | with_reducible exact H | (rw [hy564];exact H) | exact H
        have Ny564:=Aside0.mk hy564
        clear hy564
        obtain ⟨y567,hy567⟩:∃ y_:List (S25),y_ = (([]:List (S25))):=⟨_,rfl⟩
        replace H:(if y567.length + t544.length < 3518437208883 then ((some (y567 ++ t544:List (S25))).bind fun y570=>((some (([(⟨t547,t548,t549⟩:S25)]:List (S25)):List (S25))).bind fun y573=>(if y570.length + y573.length < 3518437208883 then (laws_FnSealMade.l0 kj14 t544 y564 (y570 ++ y573) 0 t547 t548 t549) else (none)))) else (none)) = some r:=by first | (rw [hy567];with_reducible exact H) | (have H2_:=(Option.bind_some _ _).symm.trans H;rw [hy567];with_reducible exact H2_) | (have H2_:=(Option.bind_some _ _).symm.trans H;with_reducible exact H2_) | with_reducible exact H | (rw [hy567];exact H) | exact H
        have Ny567:=Aside0.mk hy567
        clear hy567
        by_cases c28:y567.length + t544.length < 3518437208883
        ·rw [if_pos c28] at H
         have LMc28:=Aside0.mk c28
         clear c28
         obtain ⟨y570,hy570⟩:∃ y_:List (S25),y_ = (y567 ++ t544):=⟨_,rfl⟩
         replace H:((some (([(⟨t547,t548,t549⟩:S25)]:List (S25)):List (S25))).bind fun y573=>(if y570.length + y573.length < 3518437208883 then (laws_FnSealMade.l0 kj14 t544 y564 (y570 ++ y573) 0 t547 t548 t549) else (none))) = some r:=by first | (rw [hy570];with_reducible exact H) | (have H2_:=(Option.bind_some _ _).symm.trans H;rw [hy570];with_reducible exact H2_) | (have H2_:=(Option.bind_some _ _).symm.trans H;with_reducible exact H2_) | with_reducible exact H | (rw [hy570];exact H) | exact H
         have Ny570:=Aside0.mk hy570
         clear hy570
         obtain ⟨y573,hy573⟩:∃ y_:List (S25),y_ = (([(⟨t547,t548,t549⟩:S25)]:List (S25))):=⟨_,rfl⟩
         replace H:(if y570.length + y573.length < 3518437208883 then (laws_FnSealMade.l0 kj14 t544 y564 (y570 ++ y573) 0 t547 t548 t549) else (none)) = some r:=by first | (rw [hy573];with_reducible exact H) | (have H2_:=(Option.bind_some _ _).symm.trans H;rw [hy573];with_reducible exact H2_) | (have H2_:=(Option.bind_some _ _).symm.trans H;with_reducible exact H2_) | with_reducible exact H | (rw [hy573];exact H) | exact H
         have Ny573:=Aside0.mk hy573
         clear hy573
         by_cases c29:y570.length + y573.length < 3518437208883
         ·rw [if_pos c29] at H
          have LMc29:=Aside0.mk c29
          clear c29
          obtain ⟨y576,hy576⟩:∃ y_:List (S25),y_ = (y570 ++ y573):=⟨_,rfl⟩
          replace H:(laws_FnSealMade.l0 kj14 t544 y564 y576 0 t547 t548 t549) = some r:=by first | (rw [hy576];with_reducible exact H) | (have H2_:=(Option.bind_some _ _).symm.trans H;rw [hy576];with_reducible exact H2_) | (have H2_:=(Option.bind_some _ _).symm.trans H;with_reducible exact H2_) | with_reducible exact H | (rw [hy576];exact H) | exact H
          have Ny576:=Aside0.mk hy576
          clear hy576
          have H':=Aside0.mk H
          clear H
          try go_wp2_with (first | ((with_reducible refine gate_dst (N:=34) rfl ?_);(try (refine gate_guard (by rfl) ?_;dsimp only));refine Kd.N_lit k25 _ 25 ?hg (N':=34) ?hd (xs:=([]:List (S25))) (inner:=[]) (ok:=(fun k_=>some k_ ≠ (.slice Ao20 t544.length co20:Value).ownBlock∧k_ ≠ gb552)) (okp:=(fun k_=>some k_ ≠ (.slice Ao20 t544.length co20:Value).ownBlock∧k_ ≠ gb552)) ?hr ?hp (fun _ hk=>hk) ((show ∀ k_,wc.heap.size ≤ k_ → (fun k_=>some k_ ≠ (.slice Ao20 t544.length co20:Value).ownBlock∧k_ ≠ gb552) k_ from fun k_ hk=>⟨Kd.fresh' (Kd.N_lt (by (with_reducible repeat (first | apply Kd.N_alloc | apply Kd.N_drewN | apply Kd.N_drew));exact HO_3.out)) k_ hk,Kd.freshB (g:=gb552) (o:=.cells #[.int .i64 t547,.int .i64 t548,.slice Ao19 t549.length co19] 25 (0,0)) (by (with_reducible repeat (first | refine blk_drewN ?_ _ | refine blk_drew ?_ | refine blk_alloc ?_ _));exact BK552.out) k_ hk⟩) _ (Nat.le_refl _)) (Below.refl _ _) (Nat.le_refl _) (by simp) ?_;(case hd=>rfl);(case hg=>rfl);(case hr=>first | (go_simp;done) | (go_simp;rfl));(case hp=>exact (Reps.none _ _));intro v556 w30 ho31 hb hg_ hnew_;clear hg_ hnew_;(first | rw [← Ny555.out] at ho31 | (simp only [Int.reduceToNat] at ho31;rw [← Ny555.out] at ho31));have n0_:=Aside0.mk (Kd.N_elder' (by (with_reducible repeat (first | apply Kd.N_alloc | apply Kd.N_drewN | apply Kd.N_drew));exact HO_3.out) (Kd.N_base ho31) hb);have n1_:=Aside0.mk (Kd.V_elder' (by (with_reducible repeat (first | apply Kd.V_alloc | apply Kd.V_drewN | apply Kd.V_drew));exact HO_553002.out) (Kd.N_base ho31) hb);have n2_:=Aside0.mk (Kd.N_lower ho31 (below_size (by repeat (first | (with_reducible first | exact HB.out | apply below_alloc | apply pw_below_drewN | apply below_drew1 | refine below_set ?_ GE552.out) | exact HB.out))));have n3_:=Aside0.mk (blk_below (g:=gb552) (o:=.cells #[.int .i64 t547,.int .i64 t548,.slice Ao19 t549.length co19] 25 (0,0)) (by (with_reducible repeat (first | refine blk_drewN ?_ _ | refine blk_drew ?_ | refine blk_alloc ?_ _));exact BK552.out) hb);have n4_:=Aside0.mk (below_step (by repeat (first | (with_reducible first | exact HB.out | apply below_alloc | apply pw_below_drewN | apply below_drew1 | refine below_set ?_ GE552.out) | exact HB.out)) hb);clear HO_3;clear HO_553002;clear BK552;clear HB;have HO_3:=n0_;have HO_553002:=n1_;have HO557:=n2_;have BK552:=n3_;have HB:=n4_;clear n0_ n1_ n2_ n3_ n4_;clear hb ho31) | ((with_reducible refine gate_builtin (b:=.append) (xs:=#[.tmp 34,.tmp 35]) rfl ?_);(try (refine gate_guard (by rfl) ?_;dsimp only));at_builtin;refine Kd.N_append_rows k25 (w0:=w) w.heap.size rfl (.tmp 34) (.tmp 35) 23 25 (.agg #[(.int .i64 0),(.int .i64 0),(.slice none 0 0)]) 40 rfl Tryd.underlying23 info25 rfl (by decide) (by omega) v556 y555 t544 _ _ _ (fun k_=>k_ ≠ gb552) (fun k_=>((fun k_=>k_ ≠ gb552)) k_∧some k_ ≠ (v556:Value).ownBlock) rfl rfl ?aO ?aR (fun _ hk=>hk) ?aF ?aB ?aS ?aL ?_;(case aR=>exact (by skip;exact Kd.N_F (Kd.N_mono (ok':=(fun k_=>((fun k_=>k_ ≠ gb552)) k_∧some k_ ≠ (v556:Value).ownBlock)) (HO_3.out) (fun k_ hk=>⟨hk.1,hk.2⟩))));(case aB=>exact (by repeat (first | (with_reducible first | exact HB.out | apply below_alloc | apply pw_below_drewN | apply below_drew1 | refine below_set ?_ GE552.out) | exact HB.out)));(case aF=>exact (fun k_ hk=>Kd.freshB (g:=gb552) (o:=.cells #[.int .i64 t547,.int .i64 t548,.slice Ao19 t549.length co19] 25 (0,0)) (by (with_reducible repeat (first | refine blk_drewN ?_ _ | refine blk_drew ?_ | refine blk_alloc ?_ _));exact BK552.out) k_ hk));(case aO=>exact (by (with_reducible repeat (first | apply Kd.N_alloc | apply Kd.N_drewN | apply Kd.N_drew));exact Kd.N_mono HO557.out (fun _ hk=>hk.2)));(case aS=>exact (below_size (by repeat (first | (with_reducible first | exact HB.out | apply below_alloc | apply pw_below_drewN | apply below_drew1 | refine below_set ?_ GE552.out) | exact HB.out))));(case aL=>have:=LMc26.out;omega);intro v559 w32 ho hb hg hat;rw [← Ny558.out] at ho;have n0_:=Aside0.mk (Kd.N_afterv (ok:=(fun k_=>k_ ≠ gb552)) (by (with_reducible repeat (first | apply Kd.N_alloc | apply Kd.N_drewN | apply Kd.N_drew));exact HO_3.out) hg hat);have n1_:=Aside0.mk (Kd.V_afterv (ok:=(fun k_=>some k_ ≠ (.slice Ao20 t544.length co20:Value).ownBlock∧k_ ≠ gb552)) (by (with_reducible repeat (first | apply Kd.V_alloc | apply Kd.V_drewN | apply Kd.V_drew));exact HO_553002.out) hg hat);have n2_:=Aside0.mk (blk_grown (g:=gb552) (o:=.cells #[.int .i64 t547,.int .i64 t548,.slice Ao19 t549.length co19] 25 (0,0)) (by (with_reducible repeat (first | refine blk_drewN ?_ _ | refine blk_drew ?_ | refine blk_alloc ?_ _));exact BK552.out) hg (Kd.N_away HO557.out (fun _ hk=>hk.2)));have n3_:=Aside0.mk (hb);have n4_:=Aside0.mk (ho);clear HO_3;clear HO_553002;clear BK552;clear HB;clear HO557;have HO_3:=n0_;have HO_553002:=n1_;have BK552:=n2_;have HB:=n3_;have HO560:=n4_;clear n0_ n1_ n2_ n3_ n4_;clear ho hb hg hat) | ((with_reducible refine gate_dst (N:=38) rfl ?_);(try (refine gate_guard (by rfl) ?_;dsimp only));refine Kd.N_lit k25 _ 25 ?hg (N':=38) ?hd (xs:=([(⟨0,7,([]:List (S25))⟩:S25)]:List (S25))) (inner:=[.int .i64 0,.int .i64 7,.slice none 0 0]) (ok:=(fun k_=>some k_ ≠ (.slice Ao20 t544.length co20:Value).ownBlock∧some k_ ≠ (v559:Value).ownBlock∧k_ ≠ gb552)) (okp:=(fun k_=>some k_ ≠ (.slice Ao20 t544.length co20:Value).ownBlock∧some k_ ≠ (v559:Value).ownBlock∧k_ ≠ gb552)) ?hr ?hp (fun _ hk=>hk) ((show ∀ k_,w32.heap.size ≤ k_ → (fun k_=>some k_ ≠ (.slice Ao20 t544.length co20:Value).ownBlock∧some k_ ≠ (v559:Value).ownBlock∧k_ ≠ gb552) k_ from fun k_ hk=>⟨Kd.fresh' (Kd.N_lt (by (with_reducible repeat (first | apply Kd.N_alloc | apply Kd.N_drewN | apply Kd.N_drew));exact HO_3.out)) k_ hk,Kd.fresh' (Kd.N_lt (by (with_reducible repeat (first | apply Kd.N_alloc | apply Kd.N_drewN | apply Kd.N_drew));exact HO560.out)) k_ hk,Kd.freshB (g:=gb552) (o:=.cells #[.int .i64 t547,.int .i64 t548,.slice Ao19 t549.length co19] 25 (0,0)) (by (with_reducible repeat (first | refine blk_drewN ?_ _ | refine blk_drew ?_ | refine blk_alloc ?_ _));exact BK552.out) k_ hk⟩) _ (Nat.le_refl _)) (Below.refl _ _) (Nat.le_refl _) (by simp) ?_;(case hd=>rfl);(case hg=>rfl);(case hr=>first | (go_simp;done) | (go_simp;rfl));(case hp=>exact (Reps.c3 (show Kd.FK k25 _ _ (⟨0,7,([]:List (S25))⟩:S25) [.int .i64 0,.int .i64 7,.slice none 0 0] from (k25_mkF _ _ (⟨0,7,([]:List (S25))⟩:S25) (Nat.le_refl _) (Kd.F_nil _ _ _))) (Reps.none _ _)));intro v562 w33 ho34 hb hg_ hnew_;clear hg_ hnew_;(first | rw [← Ny561.out] at ho34 | (simp only [Int.reduceToNat] at ho34;rw [← Ny561.out] at ho34));have n0_:=Aside0.mk (Kd.N_elder' (by (with_reducible repeat (first | apply Kd.N_alloc | apply Kd.N_drewN | apply Kd.N_drew));exact HO_3.out) (Kd.N_base ho34) hb);have n1_:=Aside0.mk (Kd.V_elder' (by (with_reducible repeat (first | apply Kd.V_alloc | apply Kd.V_drewN | apply Kd.V_drew));exact HO_553002.out) (Kd.N_base ho34) hb);have n2_:=Aside0.mk (Kd.N_elder' (by (with_reducible repeat (first | apply Kd.N_alloc | apply Kd.N_drewN | apply Kd.N_drew));exact HO560.out) (Kd.N_base ho34) hb);have n3_:=Aside0.mk (Kd.N_lower ho34 (below_size (by repeat (first | (with_reducible first | exact HB.out | apply below_alloc | apply pw_below_drewN | apply below_drew1 | refine below_set ?_ GE552.out) | exact HB.out))));have n4_:=Aside0.mk (blk_below (g:=gb552) (o:=.cells #[.int .i64 t547,.int .i64 t548,.slice Ao19 t549.length co19] 25 (0,0)) (by (with_reducible repeat (first | refine blk_drewN ?_ _ | refine blk_drew ?_ | refine blk_alloc ?_ _));exact BK552.out) hb);have n5_:=Aside0.mk (below_step (by repeat (first | (with_reducible first | exact HB.out | apply below_alloc | apply pw_below_drewN | apply below_drew1 | refine below_set ?_ GE552.out) | exact HB.out)) hb);clear HO_3;clear HO_553002;clear HO560;clear BK552;clear HB;have HO_3:=n0_;have HO_553002:=n1_;have HO560:=n2_;have HO563:=n3_;have BK552:=n4_;have HB:=n5_;clear n0_ n1_ n2_ n3_ n4_ n5_;clear hb ho34;obtain ⟨Ao36,co36,eo36⟩:=Kd.N_slice HO563.out;subst eo36) | ((with_reducible refine gate_builtin (b:=.append) (xs:=#[.tmp 36,.tmp 38]) rfl ?_);(try (refine gate_guard (by rfl) ?_;dsimp only));at_builtin;refine Kd.N_append_rows k25 (w0:=w) w.heap.size rfl (.tmp 36) (.tmp 38) 23 25 (.agg #[(.int .i64 0),(.int .i64 0),(.slice none 0 0)]) 40 rfl Tryd.underlying23 info25 rfl (by decide) (by omega) v559 y558 y561 _ _ _ (fun k_=>k_ ≠ gb552) (fun k_=>((fun k_=>k_ ≠ gb552)) k_∧some k_ ≠ (v559:Value).ownBlock) rfl rfl ?aO ?aR (fun _ hk=>hk) ?aF ?aB ?aS ?aL ?_;(case aR=>exact (by skip;exact Kd.N_F (Kd.N_mono (ok':=(fun k_=>((fun k_=>k_ ≠ gb552)) k_∧some k_ ≠ (v559:Value).ownBlock)) (HO563.out) (fun k_ hk=>⟨hk.2.2,hk.2.1⟩))));(case aB=>exact (by repeat (first | (with_reducible first | exact HB.out | apply below_alloc | apply pw_below_drewN | apply below_drew1 | refine below_set ?_ GE552.out) | exact HB.out)));(case aF=>exact (fun k_ hk=>Kd.freshB (g:=gb552) (o:=.cells #[.int .i64 t547,.int .i64 t548,.slice Ao19 t549.length co19] 25 (0,0)) (by (with_reducible repeat (first | refine blk_drewN ?_ _ | refine blk_drew ?_ | refine blk_alloc ?_ _));exact BK552.out) k_ hk));(case aO=>exact (by (with_reducible repeat (first | apply Kd.N_alloc | apply Kd.N_drewN | apply Kd.N_drew));exact Kd.N_mono HO560.out (fun _ hk=>hk.1)));(case aS=>exact (below_size (by repeat (first | (with_reducible first | exact HB.out | apply below_alloc | apply pw_below_drewN | apply below_drew1 | refine below_set ?_ GE552.out) | exact HB.out))));(case aL=>have:=LMc27.out;omega);intro v565 w35 ho hb hg hat;rw [← Ny564.out] at ho;have n0_:=Aside0.mk (Kd.N_afterv (ok:=(fun k_=>some k_ ≠ (.slice Ao36 y561.length co36:Value).ownBlock∧k_ ≠ gb552)) (by (with_reducible repeat (first | apply Kd.N_alloc | apply Kd.N_drewN | apply Kd.N_drew));exact Kd.N_mono HO_3.out (fun _ hk=>⟨⟨hk.2,hk.1.1⟩,hk.1.2⟩)) hg hat);have n1_:=Aside0.mk (Kd.V_afterv (ok:=(fun k_=>some k_ ≠ (.slice Ao20 t544.length co20:Value).ownBlock∧some k_ ≠ (.slice Ao36 y561.length co36:Value).ownBlock∧k_ ≠ gb552)) (by (with_reducible repeat (first | apply Kd.V_alloc | apply Kd.V_drewN | apply Kd.V_drew));exact Kd.V_mono HO_553002.out (fun _ hk=>⟨⟨hk.1.1.1,⟨hk.2,hk.1.1.2⟩⟩,hk.1.2⟩)) hg hat);have n2_:=Aside0.mk (blk_grown (g:=gb552) (o:=.cells #[.int .i64 t547,.int .i64 t548,.slice Ao19 t549.length co19] 25 (0,0)) (by (with_reducible repeat (first | refine blk_drewN ?_ _ | refine blk_drew ?_ | refine blk_alloc ?_ _));exact BK552.out) hg (Kd.N_away HO560.out (fun _ hk=>hk.1)));have n3_:=Aside0.mk (Kd.N_afterv (ok:=(fun k_=>some k_ ≠ (.slice Ao20 t544.length co20:Value).ownBlock∧k_ ≠ gb552)) (by (with_reducible repeat (first | apply Kd.N_alloc | apply Kd.N_drewN | apply Kd.N_drew));exact Kd.N_mono HO563.out (fun _ hk=>⟨⟨hk.1,hk.2.2⟩,hk.2.1⟩)) hg hat);have n4_:=Aside0.mk (hb);have n5_:=Aside0.mk (ho);clear HO_3;clear HO_553002;clear BK552;clear HO563;clear HB;clear HO560;have HO_3:=n0_;have HO_553002:=n1_;have BK552:=n2_;have HO563:=n3_;have HB:=n4_;have HO566:=n5_;clear n0_ n1_ n2_ n3_ n4_ n5_;clear ho hb hg hat))
          have n0_:=Aside0.mk (Kd.N_drew HO_3.out)
          have n1_:=Aside0.mk (Kd.V_drew HO_553002.out)
          have n2_:=Aside0.mk (Kd.N_drew HO563.out)
          have n3_:=Aside0.mk (Kd.N_drew HO566.out)
          have n4_:=Aside0.mk (blk_drew BK552.out)
          have n5_:=Aside0.mk (below_drew1 HB.out)
          clear HO_3
          clear HO_553002
          clear HO563
          clear HO566
          clear BK552
          clear HB
          have HO_3:=n0_
          have HO_553002:=n1_
          have HO563:=n2_
          have HO566:=n3_
          have BK552:=n4_
          have HB:=n5_
          clear n0_ n1_ n2_ n3_ n4_ n5_
          refine start_ (n:=7) (S:=fun w'=>w'.cell? ⟨gb552,0,none⟩ = some (.int .i64 t547)∧w'.cell? ⟨gb552,1,none⟩ = some (.int .i64 t548)∧w'.cell? ⟨gb552,2,none⟩ = some (.slice Ao19 t549.length co19)) (ds:=[]) #[false,false,false,false,false,false,false] (by kernel_rfl) rfl rfl ⟨(blk_cell BK552.out 0).trans rfl,(blk_cell BK552.out 1).trans rfl,(blk_cell BK552.out 2).trans rfl⟩ (fun hHeld=>?_)
          generalize w35.drew = w37 at HO_3 HO_553002 HO563 HO566 BK552 HB hHeld ⊢
          refine pure_ (i:=1) (N:=some 41) (v:=?_) (a':=?_) #[false,true,false,false,false,false,false] rfl rfl (by kernel_rfl) (fun _ _ _ h=>h) (Or.inl ⟨by rfl,?_⟩) ?_ ?_
          rotate_left;·intro w';go_simp;with_reducible rfl
          rotate_left;·simp only [Act.put,List.setIfInBounds_toArray,List.set_cons_zero,List.set_cons_succ,i64_w,i32_w];rfl
          refine take_ (i:=3) (N:=some 43) (v:=?_) (a':=?_) #[false,true,false,true,false,false,false] rfl rfl (by kernel_rfl) (fun _ _ _ h=>h) (Or.inl ⟨by rfl,?_⟩) hHeld ?_ ?_
          rotate_left;·rintro w' ⟨s0,s1,s2⟩;go_simp;with_reducible rfl
          rotate_left;·simp only [Act.put,List.setIfInBounds_toArray,List.set_cons_zero,List.set_cons_succ,i64_w,i32_w];rfl
          refine join_ (σ:=Value × Value × Value) 2 #[true,true,true,true,true,false,false] (fun s_=>[(40,s_.1),(42,s_.2.1),(44,s_.2.2)]) (fun s_ w'=>(w'.cell? ⟨gb552,0,none⟩ = some (.int .i64 t547)∧w'.cell? ⟨gb552,1,none⟩ = some (.int .i64 t548)∧w'.cell? ⟨gb552,2,none⟩ = some (.slice Ao19 t549.length co19))∧(Kd.N k25 25 w' w.heap.size (fun k_=>some k_ ≠ (v565:Value).ownBlock∧some k_ ≠ (s_.2.1:Value).ownBlock∧some k_ ≠ (s_.2.2:Value).ownBlock∧some k_ ≠ (.slice Ao20 t544.length co20:Value).ownBlock∧k_ ≠ gb552) (.slice Ao36 y561.length co36) y561)∧(Kd.N k25 25 w' w.heap.size (fun k_=>some k_ ≠ (s_.2.1:Value).ownBlock∧some k_ ≠ (s_.2.2:Value).ownBlock∧k_ ≠ gb552) v565 y564)∧(Kd.N k25 25 w' w.heap.size (fun k_=>some k_ ≠ (.slice Ao36 y561.length co36:Value).ownBlock∧some k_ ≠ (v565:Value).ownBlock∧some k_ ≠ (s_.2.2:Value).ownBlock∧k_ ≠ gb552) s_.2.1 y570)∧(Kd.N k25 25 w' w.heap.size (fun k_=>some k_ ≠ (.slice Ao36 y561.length co36:Value).ownBlock∧some k_ ≠ (v565:Value).ownBlock∧some k_ ≠ (s_.2.1:Value).ownBlock∧some k_ ≠ (.slice Ao20 t544.length co20:Value).ownBlock∧k_ ≠ gb552) s_.2.2 y573)∧(Kd.N k25 25 w' w.heap.size (fun k_=>some k_ ≠ (.slice Ao36 y561.length co36:Value).ownBlock∧some k_ ≠ (v565:Value).ownBlock∧some k_ ≠ (s_.2.1:Value).ownBlock∧some k_ ≠ (s_.2.2:Value).ownBlock∧k_ ≠ gb552) (.slice Ao20 t544.length co20) t544)∧(Kd.V k25 25 w' w.heap.size (fun k_=>some k_ ≠ (.slice Ao36 y561.length co36:Value).ownBlock∧some k_ ≠ (v565:Value).ownBlock∧some k_ ≠ (s_.2.1:Value).ownBlock∧some k_ ≠ (s_.2.2:Value).ownBlock∧some k_ ≠ (.slice Ao20 t544.length co20:Value).ownBlock∧k_ ≠ gb552) (.slice Ao19 t549.length co19) t549)∧(w'.heap[gb552]? = some (.cells #[.int .i64 t547,.int .i64 t548,.slice Ao19 t549.length co19] 25 (0,0)))∧(Below w.heap.size w w')) ?_ ?_
          rotate_left
          ·intro hCont
           refine two_ (i:=0) (j:=4) (Ni:=some 40) (Nj:=some 44) #[true,true,false,true,false,false,false] #[false,true,false,true,true,false,false] rfl rfl rfl rfl (by kernel_rfl) (by decide) (by decide) (fun K hK=>?_) (fun K hK=>?_)
           ·skip
            refine Kd.N_lit_step k25 _ 25 ?hg (N':=40) ?hd (xs:=([]:List (S25))) (inner:=[]) (ok:=(fun k_=>some k_ ≠ (.slice Ao20 t544.length co20:Value).ownBlock∧some k_ ≠ (.slice Ao36 y561.length co36:Value).ownBlock∧some k_ ≠ (v565:Value).ownBlock∧k_ ≠ gb552)) (okp:=(fun k_=>some k_ ≠ (.slice Ao20 t544.length co20:Value).ownBlock∧some k_ ≠ (.slice Ao36 y561.length co36:Value).ownBlock∧some k_ ≠ (v565:Value).ownBlock∧k_ ≠ gb552)) ?hr ?hp (fun _ hk=>hk) ((show ∀ k_,w37.heap.size ≤ k_ → (fun k_=>some k_ ≠ (.slice Ao20 t544.length co20:Value).ownBlock∧some k_ ≠ (.slice Ao36 y561.length co36:Value).ownBlock∧some k_ ≠ (v565:Value).ownBlock∧k_ ≠ gb552) k_ from fun k_ hk=>⟨Kd.fresh' (Kd.N_lt (by (with_reducible repeat (first | apply Kd.N_alloc | apply Kd.N_drewN | apply Kd.N_drew));exact HO_3.out)) k_ hk,Kd.fresh' (Kd.N_lt (by (with_reducible repeat (first | apply Kd.N_alloc | apply Kd.N_drewN | apply Kd.N_drew));exact HO563.out)) k_ hk,Kd.fresh' (Kd.N_lt (by (with_reducible repeat (first | apply Kd.N_alloc | apply Kd.N_drewN | apply Kd.N_drew));exact HO566.out)) k_ hk,Kd.freshB (g:=gb552) (o:=.cells #[.int .i64 t547,.int .i64 t548,.slice Ao19 t549.length co19] 25 (0,0)) (by (with_reducible repeat (first | refine blk_drewN ?_ _ | refine blk_drew ?_ | refine blk_alloc ?_ _));exact BK552.out) k_ hk⟩) _ (Nat.le_refl _)) (Below.refl _ _) (Nat.le_refl _) (by simp) ?_;(case hd=>rfl);(case hg=>rfl);(case hr=>first | (go_simp;done) | (go_simp;rfl));(case hp=>exact (Reps.none _ _))
            intro v568 w38 ho39 hb hg_ hnew_
            clear hg_ hnew_
            (first | rw [← Ny567.out] at ho39 | (simp only [Int.reduceToNat] at ho39;rw [← Ny567.out] at ho39))
            have n0_:=Aside0.mk (Kd.N_elder' (by (with_reducible repeat (first | apply Kd.N_alloc | apply Kd.N_drewN | apply Kd.N_drew));exact HO_3.out) (Kd.N_base ho39) hb)
            have n1_:=Aside0.mk (Kd.V_elder' (by (with_reducible repeat (first | apply Kd.V_alloc | apply Kd.V_drewN | apply Kd.V_drew));exact HO_553002.out) (Kd.N_base ho39) hb)
            have n2_:=Aside0.mk (Kd.N_elder' (by (with_reducible repeat (first | apply Kd.N_alloc | apply Kd.N_drewN | apply Kd.N_drew));exact HO563.out) (Kd.N_base ho39) hb)
            have n3_:=Aside0.mk (Kd.N_elder' (by (with_reducible repeat (first | apply Kd.N_alloc | apply Kd.N_drewN | apply Kd.N_drew));exact HO566.out) (Kd.N_base ho39) hb)
            have n4_:=Aside0.mk (Kd.N_lower ho39 (below_size (by repeat (first | (with_reducible first | exact HB.out | apply below_alloc | apply pw_below_drewN | apply below_drew1 | refine below_set ?_ GE552.out) | exact HB.out))))
            have n5_:=Aside0.mk (blk_below (g:=gb552) (o:=.cells #[.int .i64 t547,.int .i64 t548,.slice Ao19 t549.length co19] 25 (0,0)) (by (with_reducible repeat (first | refine blk_drewN ?_ _ | refine blk_drew ?_ | refine blk_alloc ?_ _));exact BK552.out) hb)
            have n6_:=Aside0.mk (below_step (by repeat (first | (with_reducible first | exact HB.out | apply below_alloc | apply pw_below_drewN | apply below_drew1 | refine below_set ?_ GE552.out) | exact HB.out)) hb)
            clear HO_3
            clear HO_553002
            clear HO563
            clear HO566
            clear BK552
            clear HB
            have HO_3:=n0_
            have HO_553002:=n1_
            have HO563:=n2_
            have HO566:=n3_
            have HO569:=n4_
            have BK552:=n5_
            have HB:=n6_
            clear n0_ n1_ n2_ n3_ n4_ n5_ n6_
            clear hb ho39
            refine hK.out _ _ ⟨(blk_cell BK552.out 0).trans rfl,(blk_cell BK552.out 1).trans rfl,(blk_cell BK552.out 2).trans rfl⟩ (fun hHeld=>?_)
            clear hK K
            refine norm_ (a':=?_) ?_ ?_
            rotate_left
            ·show Act.put _ (some 40) _ = _
             simp only [Act.put,List.setIfInBounds_toArray,List.set_cons_zero,List.set_cons_succ,i64_w,i32_w]
             rfl
            refine two_ (i:=2) (j:=4) (Ni:=some 42) (Nj:=some 44) #[true,true,true,true,false,false,false] #[true,true,false,true,true,false,false] rfl rfl rfl rfl (by kernel_rfl) (by decide) (by decide) (fun K hK=>?_) (fun K hK=>?_)
            ·skip
             refine Kd.N_append_rows_step k25 (w0:=w) w.heap.size (by rfl) (.tmp 40) (.tmp 41) 23 25 (.agg #[(.int .i64 0),(.int .i64 0),(.slice none 0 0)]) 40 rfl Tryd.underlying23 info25 rfl (by decide) (by omega) v568 y567 t544 _ _ _ (fun k_=>some k_ ≠ (.slice Ao36 y561.length co36:Value).ownBlock∧some k_ ≠ (v565:Value).ownBlock∧k_ ≠ gb552) (fun k_=>((fun k_=>some k_ ≠ (.slice Ao36 y561.length co36:Value).ownBlock∧some k_ ≠ (v565:Value).ownBlock∧k_ ≠ gb552)) k_∧some k_ ≠ (v568:Value).ownBlock) rfl rfl ?aO ?aR (fun _ hk=>hk) ?aF ?aB ?aS ?aL ?_
             (case aR=>exact (by skip;exact Kd.N_F (Kd.N_mono (ok':=(fun k_=>((fun k_=>some k_ ≠ (.slice Ao36 y561.length co36:Value).ownBlock∧some k_ ≠ (v565:Value).ownBlock∧k_ ≠ gb552)) k_∧some k_ ≠ (v568:Value).ownBlock)) (HO_3.out) (fun k_ hk=>⟨⟨hk.1.1.1,⟨hk.1.2,hk.1.1.2⟩⟩,hk.2⟩))))
             (case aB=>exact (by repeat (first | (with_reducible first | exact HB.out | apply below_alloc | apply pw_below_drewN | apply below_drew1 | refine below_set ?_ GE552.out) | exact HB.out)))
             (case aF=>exact (fun k_ hk=>⟨Kd.fresh' (Kd.N_lt (by (with_reducible repeat (first | apply Kd.N_alloc | apply Kd.N_drewN | apply Kd.N_drew));exact HO563.out)) k_ hk,Kd.fresh' (Kd.N_lt (by (with_reducible repeat (first | apply Kd.N_alloc | apply Kd.N_drewN | apply Kd.N_drew));exact HO566.out)) k_ hk,Kd.freshB (g:=gb552) (o:=.cells #[.int .i64 t547,.int .i64 t548,.slice Ao19 t549.length co19] 25 (0,0)) (by (with_reducible repeat (first | refine blk_drewN ?_ _ | refine blk_drew ?_ | refine blk_alloc ?_ _));exact BK552.out) k_ hk⟩))
             (case aO=>exact (by (with_reducible repeat (first | apply Kd.N_alloc | apply Kd.N_drewN | apply Kd.N_drew));exact Kd.N_mono HO569.out (fun _ hk=>⟨hk.2.1,⟨hk.2.2.1,hk.2.2.2⟩⟩)))
             (case aS=>exact (below_size (by repeat (first | (with_reducible first | exact HB.out | apply below_alloc | apply pw_below_drewN | apply below_drew1 | refine below_set ?_ GE552.out) | exact HB.out))))
             (case aL=>have:=LMc28.out;omega)
             intro v571 w40 ho hb hg hat
             rw [← Ny570.out] at ho
             have n0_:=Aside0.mk (Kd.N_afterv (ok:=(fun k_=>some k_ ≠ (.slice Ao36 y561.length co36:Value).ownBlock∧some k_ ≠ (v565:Value).ownBlock∧k_ ≠ gb552)) (by (with_reducible repeat (first | apply Kd.N_alloc | apply Kd.N_drewN | apply Kd.N_drew));exact Kd.N_mono HO_3.out (fun _ hk=>⟨⟨hk.1.1.1,⟨hk.1.2,hk.1.1.2⟩⟩,hk.2⟩)) hg hat)
             have n1_:=Aside0.mk (Kd.V_afterv (ok:=(fun k_=>some k_ ≠ (.slice Ao20 t544.length co20:Value).ownBlock∧some k_ ≠ (.slice Ao36 y561.length co36:Value).ownBlock∧some k_ ≠ (v565:Value).ownBlock∧k_ ≠ gb552)) (by (with_reducible repeat (first | apply Kd.V_alloc | apply Kd.V_drewN | apply Kd.V_drew));exact Kd.V_mono HO_553002.out (fun _ hk=>⟨⟨hk.1.1.1,⟨hk.1.1.2.1,⟨hk.1.2,hk.1.1.2.2⟩⟩⟩,hk.2⟩)) hg hat)
             have n2_:=Aside0.mk (blk_grown (g:=gb552) (o:=.cells #[.int .i64 t547,.int .i64 t548,.slice Ao19 t549.length co19] 25 (0,0)) (by (with_reducible repeat (first | refine blk_drewN ?_ _ | refine blk_drew ?_ | refine blk_alloc ?_ _));exact BK552.out) hg (Kd.N_away HO569.out (fun _ hk=>hk.2.2.2)))
             have n3_:=Aside0.mk (Kd.N_afterv (ok:=(fun k_=>some k_ ≠ (.slice Ao20 t544.length co20:Value).ownBlock∧some k_ ≠ (v565:Value).ownBlock∧k_ ≠ gb552)) (by (with_reducible repeat (first | apply Kd.N_alloc | apply Kd.N_drewN | apply Kd.N_drew));exact Kd.N_mono HO563.out (fun _ hk=>⟨⟨hk.1.1.1,⟨hk.1.2,hk.1.1.2⟩⟩,hk.2⟩)) hg hat)
             have n4_:=Aside0.mk (Kd.N_afterv (ok:=(fun k_=>k_ ≠ gb552)) (by (with_reducible repeat (first | apply Kd.N_alloc | apply Kd.N_drewN | apply Kd.N_drew));exact HO566.out) hg hat)
             have n5_:=Aside0.mk (hb)
             have n6_:=Aside0.mk (ho)
             clear HO_3
             clear HO_553002
             clear BK552
             clear HO563
             clear HO566
             clear HB
             clear HO569
             have HO_3:=n0_
             have HO_553002:=n1_
             have BK552:=n2_
             have HO563:=n3_
             have HO566:=n4_
             have HB:=n5_
             have HO572:=n6_
             clear n0_ n1_ n2_ n3_ n4_ n5_ n6_
             clear ho hb hg hat
             refine hK.out _ _ ⟨(blk_cell BK552.out 0).trans rfl,(blk_cell BK552.out 1).trans rfl,(blk_cell BK552.out 2).trans rfl⟩ (fun hHeld=>?_)
             clear hK K
             refine norm_ (a':=?_) ?_ ?_
             rotate_left
             ·show Act.put _ (some 42) _ = _
              simp only [Act.put,List.setIfInBounds_toArray,List.set_cons_zero,List.set_cons_succ,i64_w,i32_w]
              rfl
             refine one_ (i:=4) (N:=some 44) #[true,true,true,true,true,false,false] rfl rfl (by kernel_rfl) (by decide) (fun K hK=>?_)
             refine Kd.N_lit_step k25 _ 25 ?hg (N':=44) ?hd (xs:=([(⟨t547,t548,t549⟩:S25)]:List (S25))) (inner:=[.int .i64 t547,.int .i64 t548,.slice Ao19 t549.length co19]) (ok:=(fun k_=>some k_ ≠ (.slice Ao20 t544.length co20:Value).ownBlock∧some k_ ≠ (.slice Ao36 y561.length co36:Value).ownBlock∧some k_ ≠ (v565:Value).ownBlock∧some k_ ≠ (v571:Value).ownBlock∧k_ ≠ gb552)) (okp:=(fun k_=>some k_ ≠ (.slice Ao20 t544.length co20:Value).ownBlock∧some k_ ≠ (.slice Ao36 y561.length co36:Value).ownBlock∧some k_ ≠ (v565:Value).ownBlock∧some k_ ≠ (v571:Value).ownBlock∧k_ ≠ gb552)) ?hr ?hp (fun _ hk=>hk) ((show ∀ k_,w40.heap.size ≤ k_ → (fun k_=>some k_ ≠ (.slice Ao20 t544.length co20:Value).ownBlock∧some k_ ≠ (.slice Ao36 y561.length co36:Value).ownBlock∧some k_ ≠ (v565:Value).ownBlock∧some k_ ≠ (v571:Value).ownBlock∧k_ ≠ gb552) k_ from fun k_ hk=>⟨Kd.fresh' (Kd.N_lt (by (with_reducible repeat (first | apply Kd.N_alloc | apply Kd.N_drewN | apply Kd.N_drew));exact HO_3.out)) k_ hk,Kd.fresh' (Kd.N_lt (by (with_reducible repeat (first | apply Kd.N_alloc | apply Kd.N_drewN | apply Kd.N_drew));exact HO563.out)) k_ hk,Kd.fresh' (Kd.N_lt (by (with_reducible repeat (first | apply Kd.N_alloc | apply Kd.N_drewN | apply Kd.N_drew));exact HO566.out)) k_ hk,Kd.fresh' (Kd.N_lt (by (with_reducible repeat (first | apply Kd.N_alloc | apply Kd.N_drewN | apply Kd.N_drew));exact HO572.out)) k_ hk,Kd.freshB (g:=gb552) (o:=.cells #[.int .i64 t547,.int .i64 t548,.slice Ao19 t549.length co19] 25 (0,0)) (by (with_reducible repeat (first | refine blk_drewN ?_ _ | refine blk_drew ?_ | refine blk_alloc ?_ _));exact BK552.out) k_ hk⟩) _ (Nat.le_refl _)) (Below.refl _ _) (Nat.le_refl _) (by simp) ?_;(case hd=>rfl);(case hg=>rfl);(case hr=>first | (go_simp;done) | (go_simp;rfl));(case hp=>exact (Reps.c3 (show Kd.FK k25 _ _ (⟨t547,t548,t549⟩:S25) [.int .i64 t547,.int .i64 t548,.slice Ao19 t549.length co19] from (k25_mkF _ _ (⟨t547,t548,t549⟩:S25) (Kd.V_reads' (Kd.V_mono (ok':=(fun k_=>some k_ ≠ (.slice Ao20 t544.length co20:Value).ownBlock∧some k_ ≠ (.slice Ao36 y561.length co36:Value).ownBlock∧some k_ ≠ (v565:Value).ownBlock∧some k_ ≠ (v571:Value).ownBlock∧k_ ≠ gb552)) (HO_553002.out) (fun k_ hk=>⟨hk.1.1,⟨hk.1.2.1,⟨hk.1.2.2.1,⟨hk.2,hk.1.2.2.2⟩⟩⟩⟩))).2.1 (Kd.V_F (Kd.V_mono (ok':=(fun k_=>some k_ ≠ (.slice Ao20 t544.length co20:Value).ownBlock∧some k_ ≠ (.slice Ao36 y561.length co36:Value).ownBlock∧some k_ ≠ (v565:Value).ownBlock∧some k_ ≠ (v571:Value).ownBlock∧k_ ≠ gb552)) (HO_553002.out) (fun k_ hk=>⟨hk.1.1,⟨hk.1.2.1,⟨hk.1.2.2.1,⟨hk.2,hk.1.2.2.2⟩⟩⟩⟩))))) (Reps.none _ _)))
             intro v574 w41 ho42 hb hg_ hnew_
             clear hg_ hnew_
             (first | rw [← Ny573.out] at ho42 | (simp only [Int.reduceToNat] at ho42;rw [← Ny573.out] at ho42))
             have n0_:=Aside0.mk (Kd.N_elder' (by (with_reducible repeat (first | apply Kd.N_alloc | apply Kd.N_drewN | apply Kd.N_drew));exact HO_3.out) (Kd.N_base ho42) hb)
             have n1_:=Aside0.mk (Kd.V_elder' (by (with_reducible repeat (first | apply Kd.V_alloc | apply Kd.V_drewN | apply Kd.V_drew));exact HO_553002.out) (Kd.N_base ho42) hb)
             have n2_:=Aside0.mk (Kd.N_elder' (by (with_reducible repeat (first | apply Kd.N_alloc | apply Kd.N_drewN | apply Kd.N_drew));exact HO563.out) (Kd.N_base ho42) hb)
             have n3_:=Aside0.mk (Kd.N_elder' (by (with_reducible repeat (first | apply Kd.N_alloc | apply Kd.N_drewN | apply Kd.N_drew));exact HO566.out) (Kd.N_base ho42) hb)
             have n4_:=Aside0.mk (Kd.N_elder' (by (with_reducible repeat (first | apply Kd.N_alloc | apply Kd.N_drewN | apply Kd.N_drew));exact HO572.out) (Kd.N_base ho42) hb)
             have n5_:=Aside0.mk (Kd.N_lower ho42 (below_size (by repeat (first | (with_reducible first | exact HB.out | apply below_alloc | apply pw_below_drewN | apply below_drew1 | refine below_set ?_ GE552.out) | exact HB.out))))
             have n6_:=Aside0.mk (blk_below (g:=gb552) (o:=.cells #[.int .i64 t547,.int .i64 t548,.slice Ao19 t549.length co19] 25 (0,0)) (by (with_reducible repeat (first | refine blk_drewN ?_ _ | refine blk_drew ?_ | refine blk_alloc ?_ _));exact BK552.out) hb)
             have n7_:=Aside0.mk (below_step (by repeat (first | (with_reducible first | exact HB.out | apply below_alloc | apply pw_below_drewN | apply below_drew1 | refine below_set ?_ GE552.out) | exact HB.out)) hb)
             clear HO_3
             clear HO_553002
             clear HO563
             clear HO566
             clear HO572
             clear BK552
             clear HB
             have HO_3:=n0_
             have HO_553002:=n1_
             have HO563:=n2_
             have HO566:=n3_
             have HO572:=n4_
             have HO575:=n5_
             have BK552:=n6_
             have HB:=n7_
             clear n0_ n1_ n2_ n3_ n4_ n5_ n6_ n7_
             clear hb ho42
             refine hK.out _ _ ⟨(blk_cell BK552.out 0).trans rfl,(blk_cell BK552.out 1).trans rfl,(blk_cell BK552.out 2).trans rfl⟩ (fun hHeld=>?_)
             clear hK K
             refine norm_ (a':=?_) ?_ ?_
             rotate_left
             ·show Act.put _ (some 44) _ = _
              simp only [Act.put,List.setIfInBounds_toArray,List.set_cons_zero,List.set_cons_succ,i64_w,i32_w]
              rfl
             exact norm_ (by simp only [putAll,Act.put,List.setIfInBounds_toArray,List.set_cons_zero,List.set_cons_succ]) (hCont (v568,v571,v574) _ ⟨hHeld,(by (with_reducible repeat (first | apply Kd.N_alloc | apply Kd.N_drewN | apply Kd.N_drew));exact Kd.N_mono HO563.out (fun _ hk=>⟨hk.1.1.2.1,⟨hk.1.2,⟨hk.2,⟨hk.1.1.1,hk.1.1.2.2⟩⟩⟩⟩)),(by (with_reducible repeat (first | apply Kd.N_alloc | apply Kd.N_drewN | apply Kd.N_drew));exact Kd.N_mono HO566.out (fun _ hk=>⟨hk.1.2,⟨hk.2,hk.1.1⟩⟩)),(by (with_reducible repeat (first | apply Kd.N_alloc | apply Kd.N_drewN | apply Kd.N_drew));exact Kd.N_mono HO572.out (fun _ hk=>⟨hk.1.1,⟨hk.1.2.1,⟨hk.2,hk.1.2.2⟩⟩⟩)),(by (with_reducible repeat (first | apply Kd.N_alloc | apply Kd.N_drewN | apply Kd.N_drew));exact Kd.N_mono HO575.out (fun _ hk=>⟨hk.2.1,⟨hk.2.2.1,⟨hk.2.2.2.1,⟨hk.1,hk.2.2.2.2⟩⟩⟩⟩)),(by (with_reducible repeat (first | apply Kd.N_alloc | apply Kd.N_drewN | apply Kd.N_drew));exact Kd.N_mono HO_3.out (fun _ hk=>⟨hk.1.1.1,⟨hk.1.1.2.1,⟨hk.1.2,⟨hk.2,hk.1.1.2.2⟩⟩⟩⟩)),(by (with_reducible repeat (first | apply Kd.V_alloc | apply Kd.V_drewN | apply Kd.V_drew));exact Kd.V_mono HO_553002.out (fun _ hk=>⟨hk.1.1.2.1,⟨hk.1.1.2.2.1,⟨hk.1.2,⟨hk.2,⟨hk.1.1.1,hk.1.1.2.2.2⟩⟩⟩⟩⟩)),(by (with_reducible repeat (first | refine blk_drewN ?_ _ | refine blk_drew ?_ | refine blk_alloc ?_ _));exact BK552.out),(by repeat (first | (with_reducible first | exact HB.out | apply below_alloc | apply pw_below_drewN | apply below_drew1 | refine below_set ?_ GE552.out) | exact HB.out))⟩)
            ·skip
             refine Kd.N_lit_step k25 _ 25 ?hg (N':=44) ?hd (xs:=([(⟨t547,t548,t549⟩:S25)]:List (S25))) (inner:=[.int .i64 t547,.int .i64 t548,.slice Ao19 t549.length co19]) (ok:=(fun k_=>some k_ ≠ (.slice Ao20 t544.length co20:Value).ownBlock∧some k_ ≠ (.slice Ao36 y561.length co36:Value).ownBlock∧some k_ ≠ (v565:Value).ownBlock∧some k_ ≠ (v568:Value).ownBlock∧k_ ≠ gb552)) (okp:=(fun k_=>some k_ ≠ (.slice Ao20 t544.length co20:Value).ownBlock∧some k_ ≠ (.slice Ao36 y561.length co36:Value).ownBlock∧some k_ ≠ (v565:Value).ownBlock∧some k_ ≠ (v568:Value).ownBlock∧k_ ≠ gb552)) ?hr ?hp (fun _ hk=>hk) ((show ∀ k_,w38.heap.size ≤ k_ → (fun k_=>some k_ ≠ (.slice Ao20 t544.length co20:Value).ownBlock∧some k_ ≠ (.slice Ao36 y561.length co36:Value).ownBlock∧some k_ ≠ (v565:Value).ownBlock∧some k_ ≠ (v568:Value).ownBlock∧k_ ≠ gb552) k_ from fun k_ hk=>⟨Kd.fresh' (Kd.N_lt (by (with_reducible repeat (first | apply Kd.N_alloc | apply Kd.N_drewN | apply Kd.N_drew));exact HO_3.out)) k_ hk,Kd.fresh' (Kd.N_lt (by (with_reducible repeat (first | apply Kd.N_alloc | apply Kd.N_drewN | apply Kd.N_drew));exact HO563.out)) k_ hk,Kd.fresh' (Kd.N_lt (by (with_reducible repeat (first | apply Kd.N_alloc | apply Kd.N_drewN | apply Kd.N_drew));exact HO566.out)) k_ hk,Kd.fresh' (Kd.N_lt (by (with_reducible repeat (first | apply Kd.N_alloc | apply Kd.N_drewN | apply Kd.N_drew));exact HO569.out)) k_ hk,Kd.freshB (g:=gb552) (o:=.cells #[.int .i64 t547,.int .i64 t548,.slice Ao19 t549.length co19] 25 (0,0)) (by (with_reducible repeat (first | refine blk_drewN ?_ _ | refine blk_drew ?_ | refine blk_alloc ?_ _));exact BK552.out) k_ hk⟩) _ (Nat.le_refl _)) (Below.refl _ _) (Nat.le_refl _) (by simp) ?_;(case hd=>rfl);(case hg=>rfl);(case hr=>first | (go_simp;done) | (go_simp;rfl));(case hp=>exact (Reps.c3 (show Kd.FK k25 _ _ (⟨t547,t548,t549⟩:S25) [.int .i64 t547,.int .i64 t548,.slice Ao19 t549.length co19] from (k25_mkF _ _ (⟨t547,t548,t549⟩:S25) (Kd.V_reads' (Kd.V_mono (ok':=(fun k_=>some k_ ≠ (.slice Ao20 t544.length co20:Value).ownBlock∧some k_ ≠ (.slice Ao36 y561.length co36:Value).ownBlock∧some k_ ≠ (v565:Value).ownBlock∧some k_ ≠ (v568:Value).ownBlock∧k_ ≠ gb552)) (HO_553002.out) (fun k_ hk=>⟨hk.1.1.1,⟨hk.1.1.2.1,⟨hk.1.2,⟨hk.2,hk.1.1.2.2⟩⟩⟩⟩))).2.1 (Kd.V_F (Kd.V_mono (ok':=(fun k_=>some k_ ≠ (.slice Ao20 t544.length co20:Value).ownBlock∧some k_ ≠ (.slice Ao36 y561.length co36:Value).ownBlock∧some k_ ≠ (v565:Value).ownBlock∧some k_ ≠ (v568:Value).ownBlock∧k_ ≠ gb552)) (HO_553002.out) (fun k_ hk=>⟨hk.1.1.1,⟨hk.1.1.2.1,⟨hk.1.2,⟨hk.2,hk.1.1.2.2⟩⟩⟩⟩))))) (Reps.none _ _)))
             intro v574 w40 ho41 hb hg_ hnew_
             clear hg_ hnew_
             (first | rw [← Ny573.out] at ho41 | (simp only [Int.reduceToNat] at ho41;rw [← Ny573.out] at ho41))
             have n0_:=Aside0.mk (Kd.N_elder' (by (with_reducible repeat (first | apply Kd.N_alloc | apply Kd.N_drewN | apply Kd.N_drew));exact HO_3.out) (Kd.N_base ho41) hb)
             have n1_:=Aside0.mk (Kd.V_elder' (by (with_reducible repeat (first | apply Kd.V_alloc | apply Kd.V_drewN | apply Kd.V_drew));exact HO_553002.out) (Kd.N_base ho41) hb)
             have n2_:=Aside0.mk (Kd.N_elder' (by (with_reducible repeat (first | apply Kd.N_alloc | apply Kd.N_drewN | apply Kd.N_drew));exact HO563.out) (Kd.N_base ho41) hb)
             have n3_:=Aside0.mk (Kd.N_elder' (by (with_reducible repeat (first | apply Kd.N_alloc | apply Kd.N_drewN | apply Kd.N_drew));exact HO566.out) (Kd.N_base ho41) hb)
             have n4_:=Aside0.mk (Kd.N_elder' (by (with_reducible repeat (first | apply Kd.N_alloc | apply Kd.N_drewN | apply Kd.N_drew));exact HO569.out) (Kd.N_base ho41) hb)
             have n5_:=Aside0.mk (Kd.N_lower ho41 (below_size (by repeat (first | (with_reducible first | exact HB.out | apply below_alloc | apply pw_below_drewN | apply below_drew1 | refine below_set ?_ GE552.out) | exact HB.out))))
             have n6_:=Aside0.mk (blk_below (g:=gb552) (o:=.cells #[.int .i64 t547,.int .i64 t548,.slice Ao19 t549.length co19] 25 (0,0)) (by (with_reducible repeat (first | refine blk_drewN ?_ _ | refine blk_drew ?_ | refine blk_alloc ?_ _));exact BK552.out) hb)
             have n7_:=Aside0.mk (below_step (by repeat (first | (with_reducible first | exact HB.out | apply below_alloc | apply pw_below_drewN | apply below_drew1 | refine below_set ?_ GE552.out) | exact HB.out)) hb)
             clear HO_3
             clear HO_553002
             clear HO563
             clear HO566
             clear HO569
             clear BK552
             clear HB
             have HO_3:=n0_
             have HO_553002:=n1_
             have HO563:=n2_
             have HO566:=n3_
             have HO569:=n4_
             have HO575:=n5_
             have BK552:=n6_
             have HB:=n7_
             clear n0_ n1_ n2_ n3_ n4_ n5_ n6_ n7_
             clear hb ho41
             refine hK.out _ _ ⟨(blk_cell BK552.out 0).trans rfl,(blk_cell BK552.out 1).trans rfl,(blk_cell BK552.out 2).trans rfl⟩ (fun hHeld=>?_)
             clear hK K
             refine norm_ (a':=?_) ?_ ?_
             rotate_left
             ·show Act.put _ (some 44) _ = _
              simp only [Act.put,List.setIfInBounds_toArray,List.set_cons_zero,List.set_cons_succ,i64_w,i32_w]
              rfl
             refine one_ (i:=2) (N:=some 42) #[true,true,true,true,true,false,false] rfl rfl (by kernel_rfl) (by decide) (fun K hK=>?_)
             refine Kd.N_append_rows_step k25 (w0:=w) w.heap.size (by rfl) (.tmp 40) (.tmp 41) 23 25 (.agg #[(.int .i64 0),(.int .i64 0),(.slice none 0 0)]) 40 rfl Tryd.underlying23 info25 rfl (by decide) (by omega) v568 y567 t544 _ _ _ (fun k_=>some k_ ≠ (.slice Ao36 y561.length co36:Value).ownBlock∧some k_ ≠ (v565:Value).ownBlock∧some k_ ≠ (v574:Value).ownBlock∧k_ ≠ gb552) (fun k_=>((fun k_=>some k_ ≠ (.slice Ao36 y561.length co36:Value).ownBlock∧some k_ ≠ (v565:Value).ownBlock∧some k_ ≠ (v574:Value).ownBlock∧k_ ≠ gb552)) k_∧some k_ ≠ (v568:Value).ownBlock) rfl rfl ?aO ?aR (fun _ hk=>hk) ?aF ?aB ?aS ?aL ?_
             (case aR=>exact (by skip;exact Kd.N_F (Kd.N_mono (ok':=(fun k_=>((fun k_=>some k_ ≠ (.slice Ao36 y561.length co36:Value).ownBlock∧some k_ ≠ (v565:Value).ownBlock∧some k_ ≠ (v574:Value).ownBlock∧k_ ≠ gb552)) k_∧some k_ ≠ (v568:Value).ownBlock)) (HO_3.out) (fun k_ hk=>⟨⟨hk.1.1.1.1,⟨hk.1.1.2,⟨hk.2,hk.1.1.1.2⟩⟩⟩,hk.1.2⟩))))
             (case aB=>exact (by repeat (first | (with_reducible first | exact HB.out | apply below_alloc | apply pw_below_drewN | apply below_drew1 | refine below_set ?_ GE552.out) | exact HB.out)))
             (case aF=>exact (fun k_ hk=>⟨Kd.fresh' (Kd.N_lt (by (with_reducible repeat (first | apply Kd.N_alloc | apply Kd.N_drewN | apply Kd.N_drew));exact HO563.out)) k_ hk,Kd.fresh' (Kd.N_lt (by (with_reducible repeat (first | apply Kd.N_alloc | apply Kd.N_drewN | apply Kd.N_drew));exact HO566.out)) k_ hk,Kd.fresh' (Kd.N_lt (by (with_reducible repeat (first | apply Kd.N_alloc | apply Kd.N_drewN | apply Kd.N_drew));exact HO575.out)) k_ hk,Kd.freshB (g:=gb552) (o:=.cells #[.int .i64 t547,.int .i64 t548,.slice Ao19 t549.length co19] 25 (0,0)) (by (with_reducible repeat (first | refine blk_drewN ?_ _ | refine blk_drew ?_ | refine blk_alloc ?_ _));exact BK552.out) k_ hk⟩))
             (case aO=>exact (by (with_reducible repeat (first | apply Kd.N_alloc | apply Kd.N_drewN | apply Kd.N_drew));exact Kd.N_mono HO569.out (fun _ hk=>⟨hk.1.2.1,⟨hk.1.2.2.1,⟨hk.2,hk.1.2.2.2⟩⟩⟩)))
             (case aS=>exact (below_size (by repeat (first | (with_reducible first | exact HB.out | apply below_alloc | apply pw_below_drewN | apply below_drew1 | refine below_set ?_ GE552.out) | exact HB.out))))
             (case aL=>have:=LMc28.out;omega)
             intro v571 w42 ho hb hg hat
             rw [← Ny570.out] at ho
             have n0_:=Aside0.mk (Kd.N_afterv (ok:=(fun k_=>some k_ ≠ (.slice Ao36 y561.length co36:Value).ownBlock∧some k_ ≠ (v565:Value).ownBlock∧some k_ ≠ (v574:Value).ownBlock∧k_ ≠ gb552)) (by (with_reducible repeat (first | apply Kd.N_alloc | apply Kd.N_drewN | apply Kd.N_drew));exact Kd.N_mono HO_3.out (fun _ hk=>⟨⟨hk.1.1.1.1,⟨hk.1.1.2,⟨hk.2,hk.1.1.1.2⟩⟩⟩,hk.1.2⟩)) hg hat)
             have n1_:=Aside0.mk (Kd.V_afterv (ok:=(fun k_=>some k_ ≠ (.slice Ao20 t544.length co20:Value).ownBlock∧some k_ ≠ (.slice Ao36 y561.length co36:Value).ownBlock∧some k_ ≠ (v565:Value).ownBlock∧some k_ ≠ (v574:Value).ownBlock∧k_ ≠ gb552)) (by (with_reducible repeat (first | apply Kd.V_alloc | apply Kd.V_drewN | apply Kd.V_drew));exact Kd.V_mono HO_553002.out (fun _ hk=>⟨⟨hk.1.1.1.1,⟨hk.1.1.1.2.1,⟨hk.1.1.2,⟨hk.2,hk.1.1.1.2.2⟩⟩⟩⟩,hk.1.2⟩)) hg hat)
             have n2_:=Aside0.mk (blk_grown (g:=gb552) (o:=.cells #[.int .i64 t547,.int .i64 t548,.slice Ao19 t549.length co19] 25 (0,0)) (by (with_reducible repeat (first | refine blk_drewN ?_ _ | refine blk_drew ?_ | refine blk_alloc ?_ _));exact BK552.out) hg (Kd.N_away HO569.out (fun _ hk=>hk.1.2.2.2)))
             have n3_:=Aside0.mk (Kd.N_afterv (ok:=(fun k_=>some k_ ≠ (.slice Ao20 t544.length co20:Value).ownBlock∧some k_ ≠ (v565:Value).ownBlock∧some k_ ≠ (v574:Value).ownBlock∧k_ ≠ gb552)) (by (with_reducible repeat (first | apply Kd.N_alloc | apply Kd.N_drewN | apply Kd.N_drew));exact Kd.N_mono HO563.out (fun _ hk=>⟨⟨hk.1.1.1.1,⟨hk.1.1.2,⟨hk.2,hk.1.1.1.2⟩⟩⟩,hk.1.2⟩)) hg hat)
             have n4_:=Aside0.mk (Kd.N_afterv (ok:=(fun k_=>some k_ ≠ (v574:Value).ownBlock∧k_ ≠ gb552)) (by (with_reducible repeat (first | apply Kd.N_alloc | apply Kd.N_drewN | apply Kd.N_drew));exact Kd.N_mono HO566.out (fun _ hk=>⟨⟨hk.2,hk.1.1⟩,hk.1.2⟩)) hg hat)
             have n5_:=Aside0.mk (Kd.N_afterv (ok:=(fun k_=>some k_ ≠ (.slice Ao20 t544.length co20:Value).ownBlock∧some k_ ≠ (.slice Ao36 y561.length co36:Value).ownBlock∧some k_ ≠ (v565:Value).ownBlock∧k_ ≠ gb552)) (by (with_reducible repeat (first | apply Kd.N_alloc | apply Kd.N_drewN | apply Kd.N_drew));exact Kd.N_mono HO575.out (fun _ hk=>⟨⟨hk.1,⟨hk.2.1,⟨hk.2.2.1,hk.2.2.2.2⟩⟩⟩,hk.2.2.2.1⟩)) hg hat)
             have n6_:=Aside0.mk (hb)
             have n7_:=Aside0.mk (ho)
             clear HO_3
             clear HO_553002
             clear BK552
             clear HO563
             clear HO566
             clear HO575
             clear HB
             clear HO569
             have HO_3:=n0_
             have HO_553002:=n1_
             have BK552:=n2_
             have HO563:=n3_
             have HO566:=n4_
             have HO575:=n5_
             have HB:=n6_
             have HO572:=n7_
             clear n0_ n1_ n2_ n3_ n4_ n5_ n6_ n7_
             clear ho hb hg hat
             refine hK.out _ _ ⟨(blk_cell BK552.out 0).trans rfl,(blk_cell BK552.out 1).trans rfl,(blk_cell BK552.out 2).trans rfl⟩ (fun hHeld=>?_)
             clear hK K
             refine norm_ (a':=?_) ?_ ?_
             rotate_left
             ·show Act.put _ (some 42) _ = _
              simp only [Act.put,List.setIfInBounds_toArray,List.set_cons_zero,List.set_cons_succ,i64_w,i32_w]
              rfl
             exact norm_ (by simp only [putAll,Act.put,List.setIfInBounds_toArray,List.set_cons_zero,List.set_cons_succ]) (hCont (v568,v571,v574) _ ⟨hHeld,(by (with_reducible repeat (first | apply Kd.N_alloc | apply Kd.N_drewN | apply Kd.N_drew));exact Kd.N_mono HO563.out (fun _ hk=>⟨hk.1.2.1,⟨hk.2,⟨hk.1.2.2.1,⟨hk.1.1,hk.1.2.2.2⟩⟩⟩⟩)),(by (with_reducible repeat (first | apply Kd.N_alloc | apply Kd.N_drewN | apply Kd.N_drew));exact Kd.N_mono HO566.out (fun _ hk=>⟨hk.2,⟨hk.1.1,hk.1.2⟩⟩)),(by (with_reducible repeat (first | apply Kd.N_alloc | apply Kd.N_drewN | apply Kd.N_drew));exact HO572.out),(by (with_reducible repeat (first | apply Kd.N_alloc | apply Kd.N_drewN | apply Kd.N_drew));exact Kd.N_mono HO575.out (fun _ hk=>⟨hk.1.2.1,⟨hk.1.2.2.1,⟨hk.2,⟨hk.1.1,hk.1.2.2.2⟩⟩⟩⟩)),(by (with_reducible repeat (first | apply Kd.N_alloc | apply Kd.N_drewN | apply Kd.N_drew));exact Kd.N_mono HO_3.out (fun _ hk=>⟨hk.1.1,⟨hk.1.2.1,⟨hk.2,⟨hk.1.2.2.1,hk.1.2.2.2⟩⟩⟩⟩)),(by (with_reducible repeat (first | apply Kd.V_alloc | apply Kd.V_drewN | apply Kd.V_drew));exact Kd.V_mono HO_553002.out (fun _ hk=>⟨hk.1.2.1,⟨hk.1.2.2.1,⟨hk.2,⟨hk.1.2.2.2.1,⟨hk.1.1,hk.1.2.2.2.2⟩⟩⟩⟩⟩)),(by (with_reducible repeat (first | refine blk_drewN ?_ _ | refine blk_drew ?_ | refine blk_alloc ?_ _));exact BK552.out),(by repeat (first | (with_reducible first | exact HB.out | apply below_alloc | apply pw_below_drewN | apply below_drew1 | refine below_set ?_ GE552.out) | exact HB.out))⟩)
           ·skip
            refine Kd.N_lit_step k25 _ 25 ?hg (N':=44) ?hd (xs:=([(⟨t547,t548,t549⟩:S25)]:List (S25))) (inner:=[.int .i64 t547,.int .i64 t548,.slice Ao19 t549.length co19]) (ok:=(fun k_=>some k_ ≠ (.slice Ao20 t544.length co20:Value).ownBlock∧some k_ ≠ (.slice Ao36 y561.length co36:Value).ownBlock∧some k_ ≠ (v565:Value).ownBlock∧k_ ≠ gb552)) (okp:=(fun k_=>some k_ ≠ (.slice Ao20 t544.length co20:Value).ownBlock∧some k_ ≠ (.slice Ao36 y561.length co36:Value).ownBlock∧some k_ ≠ (v565:Value).ownBlock∧k_ ≠ gb552)) ?hr ?hp (fun _ hk=>hk) ((show ∀ k_,w37.heap.size ≤ k_ → (fun k_=>some k_ ≠ (.slice Ao20 t544.length co20:Value).ownBlock∧some k_ ≠ (.slice Ao36 y561.length co36:Value).ownBlock∧some k_ ≠ (v565:Value).ownBlock∧k_ ≠ gb552) k_ from fun k_ hk=>⟨Kd.fresh' (Kd.N_lt (by (with_reducible repeat (first | apply Kd.N_alloc | apply Kd.N_drewN | apply Kd.N_drew));exact HO_3.out)) k_ hk,Kd.fresh' (Kd.N_lt (by (with_reducible repeat (first | apply Kd.N_alloc | apply Kd.N_drewN | apply Kd.N_drew));exact HO563.out)) k_ hk,Kd.fresh' (Kd.N_lt (by (with_reducible repeat (first | apply Kd.N_alloc | apply Kd.N_drewN | apply Kd.N_drew));exact HO566.out)) k_ hk,Kd.freshB (g:=gb552) (o:=.cells #[.int .i64 t547,.int .i64 t548,.slice Ao19 t549.length co19] 25 (0,0)) (by (with_reducible repeat (first | refine blk_drewN ?_ _ | refine blk_drew ?_ | refine blk_alloc ?_ _));exact BK552.out) k_ hk⟩) _ (Nat.le_refl _)) (Below.refl _ _) (Nat.le_refl _) (by simp) ?_;(case hd=>rfl);(case hg=>rfl);(case hr=>first | (go_simp;done) | (go_simp;rfl));(case hp=>exact (Reps.c3 (show Kd.FK k25 _ _ (⟨t547,t548,t549⟩:S25) [.int .i64 t547,.int .i64 t548,.slice Ao19 t549.length co19] from (k25_mkF _ _ (⟨t547,t548,t549⟩:S25) (Kd.V_reads' (Kd.V_mono (ok':=(fun k_=>some k_ ≠ (.slice Ao20 t544.length co20:Value).ownBlock∧some k_ ≠ (.slice Ao36 y561.length co36:Value).ownBlock∧some k_ ≠ (v565:Value).ownBlock∧k_ ≠ gb552)) (HO_553002.out) (fun k_ hk=>⟨hk.1.1,⟨hk.1.2.1,⟨hk.2,hk.1.2.2⟩⟩⟩))).2.1 (Kd.V_F (Kd.V_mono (ok':=(fun k_=>some k_ ≠ (.slice Ao20 t544.length co20:Value).ownBlock∧some k_ ≠ (.slice Ao36 y561.length co36:Value).ownBlock∧some k_ ≠ (v565:Value).ownBlock∧k_ ≠ gb552)) (HO_553002.out) (fun k_ hk=>⟨hk.1.1,⟨hk.1.2.1,⟨hk.2,hk.1.2.2⟩⟩⟩))))) (Reps.none _ _)))
            intro v574 w38 ho39 hb hg_ hnew_
            clear hg_ hnew_
            (first | rw [← Ny573.out] at ho39 | (simp only [Int.reduceToNat] at ho39;rw [← Ny573.out] at ho39))
            have n0_:=Aside0.mk (Kd.N_elder' (by (with_reducible repeat (first | apply Kd.N_alloc | apply Kd.N_drewN | apply Kd.N_drew));exact HO_3.out) (Kd.N_base ho39) hb)
            have n1_:=Aside0.mk (Kd.V_elder' (by (with_reducible repeat (first | apply Kd.V_alloc | apply Kd.V_drewN | apply Kd.V_drew));exact HO_553002.out) (Kd.N_base ho39) hb)
            have n2_:=Aside0.mk (Kd.N_elder' (by (with_reducible repeat (first | apply Kd.N_alloc | apply Kd.N_drewN | apply Kd.N_drew));exact HO563.out) (Kd.N_base ho39) hb)
            have n3_:=Aside0.mk (Kd.N_elder' (by (with_reducible repeat (first | apply Kd.N_alloc | apply Kd.N_drewN | apply Kd.N_drew));exact HO566.out) (Kd.N_base ho39) hb)
            have n4_:=Aside0.mk (Kd.N_lower ho39 (below_size (by repeat (first | (with_reducible first | exact HB.out | apply below_alloc | apply pw_below_drewN | apply below_drew1 | refine below_set ?_ GE552.out) | exact HB.out))))
            have n5_:=Aside0.mk (blk_below (g:=gb552) (o:=.cells #[.int .i64 t547,.int .i64 t548,.slice Ao19 t549.length co19] 25 (0,0)) (by (with_reducible repeat (first | refine blk_drewN ?_ _ | refine blk_drew ?_ | refine blk_alloc ?_ _));exact BK552.out) hb)
            have n6_:=Aside0.mk (below_step (by repeat (first | (with_reducible first | exact HB.out | apply below_alloc | apply pw_below_drewN | apply below_drew1 | refine below_set ?_ GE552.out) | exact HB.out)) hb)
            clear HO_3
            clear HO_553002
            clear HO563
            clear HO566
            clear BK552
            clear HB
            have HO_3:=n0_
            have HO_553002:=n1_
            have HO563:=n2_
            have HO566:=n3_
            have HO575:=n4_
            have BK552:=n5_
            have HB:=n6_
            clear n0_ n1_ n2_ n3_ n4_ n5_ n6_
            clear hb ho39
            refine hK.out _ _ ⟨(blk_cell BK552.out 0).trans rfl,(blk_cell BK552.out 1).trans rfl,(blk_cell BK552.out 2).trans rfl⟩ (fun hHeld=>?_)
            clear hK K
            refine norm_ (a':=?_) ?_ ?_
            rotate_left
            ·show Act.put _ (some 44) _ = _
             simp only [Act.put,List.setIfInBounds_toArray,List.set_cons_zero,List.set_cons_succ,i64_w,i32_w]
             rfl
            refine one_ (i:=0) (N:=some 40) #[true,true,false,true,true,false,false] rfl rfl (by kernel_rfl) (by decide) (fun K hK=>?_)
            refine Kd.N_lit_step k25 _ 25 ?hg (N':=40) ?hd (xs:=([]:List (S25))) (inner:=[]) (ok:=(fun k_=>some k_ ≠ (.slice Ao20 t544.length co20:Value).ownBlock∧some k_ ≠ (.slice Ao36 y561.length co36:Value).ownBlock∧some k_ ≠ (v565:Value).ownBlock∧some k_ ≠ (v574:Value).ownBlock∧k_ ≠ gb552)) (okp:=(fun k_=>some k_ ≠ (.slice Ao20 t544.length co20:Value).ownBlock∧some k_ ≠ (.slice Ao36 y561.length co36:Value).ownBlock∧some k_ ≠ (v565:Value).ownBlock∧some k_ ≠ (v574:Value).ownBlock∧k_ ≠ gb552)) ?hr ?hp (fun _ hk=>hk) ((show ∀ k_,w38.heap.size ≤ k_ → (fun k_=>some k_ ≠ (.slice Ao20 t544.length co20:Value).ownBlock∧some k_ ≠ (.slice Ao36 y561.length co36:Value).ownBlock∧some k_ ≠ (v565:Value).ownBlock∧some k_ ≠ (v574:Value).ownBlock∧k_ ≠ gb552) k_ from fun k_ hk=>⟨Kd.fresh' (Kd.N_lt (by (with_reducible repeat (first | apply Kd.N_alloc | apply Kd.N_drewN | apply Kd.N_drew));exact HO_3.out)) k_ hk,Kd.fresh' (Kd.N_lt (by (with_reducible repeat (first | apply Kd.N_alloc | apply Kd.N_drewN | apply Kd.N_drew));exact HO563.out)) k_ hk,Kd.fresh' (Kd.N_lt (by (with_reducible repeat (first | apply Kd.N_alloc | apply Kd.N_drewN | apply Kd.N_drew));exact HO566.out)) k_ hk,Kd.fresh' (Kd.N_lt (by (with_reducible repeat (first | apply Kd.N_alloc | apply Kd.N_drewN | apply Kd.N_drew));exact HO575.out)) k_ hk,Kd.freshB (g:=gb552) (o:=.cells #[.int .i64 t547,.int .i64 t548,.slice Ao19 t549.length co19] 25 (0,0)) (by (with_reducible repeat (first | refine blk_drewN ?_ _ | refine blk_drew ?_ | refine blk_alloc ?_ _));exact BK552.out) k_ hk⟩) _ (Nat.le_refl _)) (Below.refl _ _) (Nat.le_refl _) (by simp) ?_;(case hd=>rfl);(case hg=>rfl);(case hr=>first | (go_simp;done) | (go_simp;rfl));(case hp=>exact (Reps.none _ _))
            intro v568 w40 ho41 hb hg_ hnew_
            clear hg_ hnew_
            (first | rw [← Ny567.out] at ho41 | (simp only [Int.reduceToNat] at ho41;rw [← Ny567.out] at ho41))
            have n0_:=Aside0.mk (Kd.N_elder' (by (with_reducible repeat (first | apply Kd.N_alloc | apply Kd.N_drewN | apply Kd.N_drew));exact HO_3.out) (Kd.N_base ho41) hb)
            have n1_:=Aside0.mk (Kd.V_elder' (by (with_reducible repeat (first | apply Kd.V_alloc | apply Kd.V_drewN | apply Kd.V_drew));exact HO_553002.out) (Kd.N_base ho41) hb)
            have n2_:=Aside0.mk (Kd.N_elder' (by (with_reducible repeat (first | apply Kd.N_alloc | apply Kd.N_drewN | apply Kd.N_drew));exact HO563.out) (Kd.N_base ho41) hb)
            have n3_:=Aside0.mk (Kd.N_elder' (by (with_reducible repeat (first | apply Kd.N_alloc | apply Kd.N_drewN | apply Kd.N_drew));exact HO566.out) (Kd.N_base ho41) hb)
            have n4_:=Aside0.mk (Kd.N_elder' (by (with_reducible repeat (first | apply Kd.N_alloc | apply Kd.N_drewN | apply Kd.N_drew));exact HO575.out) (Kd.N_base ho41) hb)
            have n5_:=Aside0.mk (Kd.N_lower ho41 (below_size (by repeat (first | (with_reducible first | exact HB.out | apply below_alloc | apply pw_below_drewN | apply below_drew1 | refine below_set ?_ GE552.out) | exact HB.out))))
            have n6_:=Aside0.mk (blk_below (g:=gb552) (o:=.cells #[.int .i64 t547,.int .i64 t548,.slice Ao19 t549.length co19] 25 (0,0)) (by (with_reducible repeat (first | refine blk_drewN ?_ _ | refine blk_drew ?_ | refine blk_alloc ?_ _));exact BK552.out) hb)
            have n7_:=Aside0.mk (below_step (by repeat (first | (with_reducible first | exact HB.out | apply below_alloc | apply pw_below_drewN | apply below_drew1 | refine below_set ?_ GE552.out) | exact HB.out)) hb)
            clear HO_3
            clear HO_553002
            clear HO563
            clear HO566
            clear HO575
            clear BK552
            clear HB
            have HO_3:=n0_
            have HO_553002:=n1_
            have HO563:=n2_
            have HO566:=n3_
            have HO575:=n4_
            have HO569:=n5_
            have BK552:=n6_
            have HB:=n7_
            clear n0_ n1_ n2_ n3_ n4_ n5_ n6_ n7_
            clear hb ho41
            refine hK.out _ _ ⟨(blk_cell BK552.out 0).trans rfl,(blk_cell BK552.out 1).trans rfl,(blk_cell BK552.out 2).trans rfl⟩ (fun hHeld=>?_)
            clear hK K
            refine norm_ (a':=?_) ?_ ?_
            rotate_left
            ·show Act.put _ (some 40) _ = _
             simp only [Act.put,List.setIfInBounds_toArray,List.set_cons_zero,List.set_cons_succ,i64_w,i32_w]
             rfl
            refine one_ (i:=2) (N:=some 42) #[true,true,true,true,true,false,false] rfl rfl (by kernel_rfl) (by decide) (fun K hK=>?_)
            refine Kd.N_append_rows_step k25 (w0:=w) w.heap.size (by rfl) (.tmp 40) (.tmp 41) 23 25 (.agg #[(.int .i64 0),(.int .i64 0),(.slice none 0 0)]) 40 rfl Tryd.underlying23 info25 rfl (by decide) (by omega) v568 y567 t544 _ _ _ (fun k_=>some k_ ≠ (.slice Ao36 y561.length co36:Value).ownBlock∧some k_ ≠ (v565:Value).ownBlock∧some k_ ≠ (v574:Value).ownBlock∧k_ ≠ gb552) (fun k_=>((fun k_=>some k_ ≠ (.slice Ao36 y561.length co36:Value).ownBlock∧some k_ ≠ (v565:Value).ownBlock∧some k_ ≠ (v574:Value).ownBlock∧k_ ≠ gb552)) k_∧some k_ ≠ (v568:Value).ownBlock) rfl rfl ?aO ?aR (fun _ hk=>hk) ?aF ?aB ?aS ?aL ?_
            (case aR=>exact (by skip;exact Kd.N_F (Kd.N_mono (ok':=(fun k_=>((fun k_=>some k_ ≠ (.slice Ao36 y561.length co36:Value).ownBlock∧some k_ ≠ (v565:Value).ownBlock∧some k_ ≠ (v574:Value).ownBlock∧k_ ≠ gb552)) k_∧some k_ ≠ (v568:Value).ownBlock)) (HO_3.out) (fun k_ hk=>⟨⟨hk.1.1.1.1,⟨hk.1.1.2,⟨hk.1.2,hk.1.1.1.2⟩⟩⟩,hk.2⟩))))
            (case aB=>exact (by repeat (first | (with_reducible first | exact HB.out | apply below_alloc | apply pw_below_drewN | apply below_drew1 | refine below_set ?_ GE552.out) | exact HB.out)))
            (case aF=>exact (fun k_ hk=>⟨Kd.fresh' (Kd.N_lt (by (with_reducible repeat (first | apply Kd.N_alloc | apply Kd.N_drewN | apply Kd.N_drew));exact HO563.out)) k_ hk,Kd.fresh' (Kd.N_lt (by (with_reducible repeat (first | apply Kd.N_alloc | apply Kd.N_drewN | apply Kd.N_drew));exact HO566.out)) k_ hk,Kd.fresh' (Kd.N_lt (by (with_reducible repeat (first | apply Kd.N_alloc | apply Kd.N_drewN | apply Kd.N_drew));exact HO575.out)) k_ hk,Kd.freshB (g:=gb552) (o:=.cells #[.int .i64 t547,.int .i64 t548,.slice Ao19 t549.length co19] 25 (0,0)) (by (with_reducible repeat (first | refine blk_drewN ?_ _ | refine blk_drew ?_ | refine blk_alloc ?_ _));exact BK552.out) k_ hk⟩))
            (case aO=>exact (by (with_reducible repeat (first | apply Kd.N_alloc | apply Kd.N_drewN | apply Kd.N_drew));exact Kd.N_mono HO569.out (fun _ hk=>⟨hk.2.1,⟨hk.2.2.1,⟨hk.2.2.2.1,hk.2.2.2.2⟩⟩⟩)))
            (case aS=>exact (below_size (by repeat (first | (with_reducible first | exact HB.out | apply below_alloc | apply pw_below_drewN | apply below_drew1 | refine below_set ?_ GE552.out) | exact HB.out))))
            (case aL=>have:=LMc28.out;omega)
            intro v571 w42 ho hb hg hat
            rw [← Ny570.out] at ho
            have n0_:=Aside0.mk (Kd.N_afterv (ok:=(fun k_=>some k_ ≠ (.slice Ao36 y561.length co36:Value).ownBlock∧some k_ ≠ (v565:Value).ownBlock∧some k_ ≠ (v574:Value).ownBlock∧k_ ≠ gb552)) (by (with_reducible repeat (first | apply Kd.N_alloc | apply Kd.N_drewN | apply Kd.N_drew));exact Kd.N_mono HO_3.out (fun _ hk=>⟨⟨hk.1.1.1.1,⟨hk.1.1.2,⟨hk.1.2,hk.1.1.1.2⟩⟩⟩,hk.2⟩)) hg hat)
            have n1_:=Aside0.mk (Kd.V_afterv (ok:=(fun k_=>some k_ ≠ (.slice Ao20 t544.length co20:Value).ownBlock∧some k_ ≠ (.slice Ao36 y561.length co36:Value).ownBlock∧some k_ ≠ (v565:Value).ownBlock∧some k_ ≠ (v574:Value).ownBlock∧k_ ≠ gb552)) (by (with_reducible repeat (first | apply Kd.V_alloc | apply Kd.V_drewN | apply Kd.V_drew));exact Kd.V_mono HO_553002.out (fun _ hk=>⟨⟨hk.1.1.1.1,⟨hk.1.1.1.2.1,⟨hk.1.1.2,⟨hk.1.2,hk.1.1.1.2.2⟩⟩⟩⟩,hk.2⟩)) hg hat)
            have n2_:=Aside0.mk (blk_grown (g:=gb552) (o:=.cells #[.int .i64 t547,.int .i64 t548,.slice Ao19 t549.length co19] 25 (0,0)) (by (with_reducible repeat (first | refine blk_drewN ?_ _ | refine blk_drew ?_ | refine blk_alloc ?_ _));exact BK552.out) hg (Kd.N_away HO569.out (fun _ hk=>hk.2.2.2.2)))
            have n3_:=Aside0.mk (Kd.N_afterv (ok:=(fun k_=>some k_ ≠ (.slice Ao20 t544.length co20:Value).ownBlock∧some k_ ≠ (v565:Value).ownBlock∧some k_ ≠ (v574:Value).ownBlock∧k_ ≠ gb552)) (by (with_reducible repeat (first | apply Kd.N_alloc | apply Kd.N_drewN | apply Kd.N_drew));exact Kd.N_mono HO563.out (fun _ hk=>⟨⟨hk.1.1.1.1,⟨hk.1.1.2,⟨hk.1.2,hk.1.1.1.2⟩⟩⟩,hk.2⟩)) hg hat)
            have n4_:=Aside0.mk (Kd.N_afterv (ok:=(fun k_=>some k_ ≠ (v574:Value).ownBlock∧k_ ≠ gb552)) (by (with_reducible repeat (first | apply Kd.N_alloc | apply Kd.N_drewN | apply Kd.N_drew));exact Kd.N_mono HO566.out (fun _ hk=>⟨⟨hk.1.2,hk.1.1⟩,hk.2⟩)) hg hat)
            have n5_:=Aside0.mk (Kd.N_afterv (ok:=(fun k_=>some k_ ≠ (.slice Ao20 t544.length co20:Value).ownBlock∧some k_ ≠ (.slice Ao36 y561.length co36:Value).ownBlock∧some k_ ≠ (v565:Value).ownBlock∧k_ ≠ gb552)) (by (with_reducible repeat (first | apply Kd.N_alloc | apply Kd.N_drewN | apply Kd.N_drew));exact HO575.out) hg hat)
            have n6_:=Aside0.mk (hb)
            have n7_:=Aside0.mk (ho)
            clear HO_3
            clear HO_553002
            clear BK552
            clear HO563
            clear HO566
            clear HO575
            clear HB
            clear HO569
            have HO_3:=n0_
            have HO_553002:=n1_
            have BK552:=n2_
            have HO563:=n3_
            have HO566:=n4_
            have HO575:=n5_
            have HB:=n6_
            have HO572:=n7_
            clear n0_ n1_ n2_ n3_ n4_ n5_ n6_ n7_
            clear ho hb hg hat
            refine hK.out _ _ ⟨(blk_cell BK552.out 0).trans rfl,(blk_cell BK552.out 1).trans rfl,(blk_cell BK552.out 2).trans rfl⟩ (fun hHeld=>?_)
            clear hK K
            refine norm_ (a':=?_) ?_ ?_
            rotate_left
            ·show Act.put _ (some 42) _ = _
             simp only [Act.put,List.setIfInBounds_toArray,List.set_cons_zero,List.set_cons_succ,i64_w,i32_w]
             rfl
            exact norm_ (by simp only [putAll,Act.put,List.setIfInBounds_toArray,List.set_cons_zero,List.set_cons_succ]) (hCont (v568,v571,v574) _ ⟨hHeld,(by (with_reducible repeat (first | apply Kd.N_alloc | apply Kd.N_drewN | apply Kd.N_drew));exact Kd.N_mono HO563.out (fun _ hk=>⟨hk.1.2.1,⟨hk.2,⟨hk.1.2.2.1,⟨hk.1.1,hk.1.2.2.2⟩⟩⟩⟩)),(by (with_reducible repeat (first | apply Kd.N_alloc | apply Kd.N_drewN | apply Kd.N_drew));exact Kd.N_mono HO566.out (fun _ hk=>⟨hk.2,⟨hk.1.1,hk.1.2⟩⟩)),(by (with_reducible repeat (first | apply Kd.N_alloc | apply Kd.N_drewN | apply Kd.N_drew));exact HO572.out),(by (with_reducible repeat (first | apply Kd.N_alloc | apply Kd.N_drewN | apply Kd.N_drew));exact Kd.N_mono HO575.out (fun _ hk=>⟨hk.1.2.1,⟨hk.1.2.2.1,⟨hk.2,⟨hk.1.1,hk.1.2.2.2⟩⟩⟩⟩)),(by (with_reducible repeat (first | apply Kd.N_alloc | apply Kd.N_drewN | apply Kd.N_drew));exact Kd.N_mono HO_3.out (fun _ hk=>⟨hk.1.1,⟨hk.1.2.1,⟨hk.2,⟨hk.1.2.2.1,hk.1.2.2.2⟩⟩⟩⟩)),(by (with_reducible repeat (first | apply Kd.V_alloc | apply Kd.V_drewN | apply Kd.V_drew));exact Kd.V_mono HO_553002.out (fun _ hk=>⟨hk.1.2.1,⟨hk.1.2.2.1,⟨hk.2,⟨hk.1.2.2.2.1,⟨hk.1.1,hk.1.2.2.2.2⟩⟩⟩⟩⟩)),(by (with_reducible repeat (first | refine blk_drewN ?_ _ | refine blk_drew ?_ | refine blk_alloc ?_ _));exact BK552.out),(by repeat (first | (with_reducible first | exact HB.out | apply below_alloc | apply pw_below_drewN | apply below_drew1 | refine below_set ?_ GE552.out) | exact HB.out))⟩)
          rintro ⟨v568,v571,v574⟩ w43 ⟨hS_,h0_,h1_,h2_,h3_,h4_,h5_,h6_,h7_⟩
          have n0_:Aside0 (Kd.N k25 25 w43 w.heap.size (fun k_=>some k_ ≠ (v565:Value).ownBlock∧some k_ ≠ (v571:Value).ownBlock∧some k_ ≠ (v574:Value).ownBlock∧some k_ ≠ (.slice Ao20 t544.length co20:Value).ownBlock∧k_ ≠ gb552) (.slice Ao36 y561.length co36) y561):=⟨h0_⟩
          have n1_:Aside0 (Kd.N k25 25 w43 w.heap.size (fun k_=>some k_ ≠ (v571:Value).ownBlock∧some k_ ≠ (v574:Value).ownBlock∧k_ ≠ gb552) v565 y564):=⟨h1_⟩
          have n2_:Aside0 (Kd.N k25 25 w43 w.heap.size (fun k_=>some k_ ≠ (.slice Ao36 y561.length co36:Value).ownBlock∧some k_ ≠ (v565:Value).ownBlock∧some k_ ≠ (v574:Value).ownBlock∧k_ ≠ gb552) v571 y570):=⟨h2_⟩
          have n3_:Aside0 (Kd.N k25 25 w43 w.heap.size (fun k_=>some k_ ≠ (.slice Ao36 y561.length co36:Value).ownBlock∧some k_ ≠ (v565:Value).ownBlock∧some k_ ≠ (v571:Value).ownBlock∧some k_ ≠ (.slice Ao20 t544.length co20:Value).ownBlock∧k_ ≠ gb552) v574 y573):=⟨h3_⟩
          have n4_:Aside0 (Kd.N k25 25 w43 w.heap.size (fun k_=>some k_ ≠ (.slice Ao36 y561.length co36:Value).ownBlock∧some k_ ≠ (v565:Value).ownBlock∧some k_ ≠ (v571:Value).ownBlock∧some k_ ≠ (v574:Value).ownBlock∧k_ ≠ gb552) (.slice Ao20 t544.length co20) t544):=⟨h4_⟩
          have n5_:Aside0 (Kd.V k25 25 w43 w.heap.size (fun k_=>some k_ ≠ (.slice Ao36 y561.length co36:Value).ownBlock∧some k_ ≠ (v565:Value).ownBlock∧some k_ ≠ (v571:Value).ownBlock∧some k_ ≠ (v574:Value).ownBlock∧some k_ ≠ (.slice Ao20 t544.length co20:Value).ownBlock∧k_ ≠ gb552) (.slice Ao19 t549.length co19) t549):=⟨h5_⟩
          have n6_:Aside0 (w43.heap[gb552]? = some (.cells #[.int .i64 t547,.int .i64 t548,.slice Ao19 t549.length co19] 25 (0,0))):=⟨h6_⟩
          have n7_:Aside0 (Below w.heap.size w w43):=⟨h7_⟩
          clear HO_3
          clear HO_553002
          clear HO563
          clear HO566
          clear BK552
          clear HB
          clear h0_ h1_ h2_ h3_ h4_ h5_ h6_ h7_
          have HO563:=n0_
          have HO566:=n1_
          have HO572:=n2_
          have HO575:=n3_
          have HO_3:=n4_
          have HO_553002:=n5_
          have BK552:=n6_
          have HB:=n7_
          clear n0_ n1_ n2_ n3_ n4_ n5_ n6_ n7_
          have hHeld:w43.cell? ⟨gb552,0,none⟩ = some (.int .i64 t547)∧w43.cell? ⟨gb552,1,none⟩ = some (.int .i64 t548)∧w43.cell? ⟨gb552,2,none⟩ = some (.slice Ao19 t549.length co19):=hS_
          obtain ⟨Ao45,co45,eo45⟩:=Kd.N_slice HO575.out
          (first | subst eo45 | (injection eo45 with f1_ f2_ f3_;have f4_:=f1_.symm;have f5_:=f3_.symm;clear f1_ f2_ f3_;subst f4_;subst f5_))
          refine norm_ (a':=?_) ?_ ?_
          rotate_left;·simp only [putAll,Act.put,List.setIfInBounds_toArray,List.set_cons_zero,List.set_cons_succ];rfl
          refine one_ (i:=5) (N:=some 45) #[true,true,true,true,true,true,false] rfl rfl (by kernel_rfl) (by decide) (fun K hK=>?_)
          refine Kd.N_append_rows_step k25 (w0:=w) w.heap.size (by rfl) (.tmp 42) (.tmp 44) 23 25 (.agg #[(.int .i64 0),(.int .i64 0),(.slice none 0 0)]) 40 rfl Tryd.underlying23 info25 rfl (by decide) (by omega) v571 y570 y573 _ _ _ (fun k_=>some k_ ≠ (.slice Ao36 y561.length co36:Value).ownBlock∧some k_ ≠ (v565:Value).ownBlock∧k_ ≠ gb552) (fun k_=>((fun k_=>some k_ ≠ (.slice Ao36 y561.length co36:Value).ownBlock∧some k_ ≠ (v565:Value).ownBlock∧k_ ≠ gb552)) k_∧some k_ ≠ (v571:Value).ownBlock) rfl rfl ?aO ?aR (fun _ hk=>hk) ?aF ?aB ?aS ?aL ?_
          (case aR=>exact (by skip;exact Kd.N_F (Kd.N_mono (ok':=(fun k_=>((fun k_=>some k_ ≠ (.slice Ao36 y561.length co36:Value).ownBlock∧some k_ ≠ (v565:Value).ownBlock∧k_ ≠ gb552)) k_∧some k_ ≠ (v571:Value).ownBlock)) (HO575.out) (fun k_ hk=>⟨⟨hk.1,⟨hk.2.1,hk.2.2.2.2⟩⟩,hk.2.2.1⟩))))
          (case aB=>exact (by repeat (first | (with_reducible first | exact HB.out | apply below_alloc | apply pw_below_drewN | apply below_drew1 | refine below_set ?_ GE552.out) | exact HB.out)))
          (case aF=>exact (fun k_ hk=>⟨Kd.fresh' (Kd.N_lt (by (with_reducible repeat (first | apply Kd.N_alloc | apply Kd.N_drewN | apply Kd.N_drew));exact HO563.out)) k_ hk,Kd.fresh' (Kd.N_lt (by (with_reducible repeat (first | apply Kd.N_alloc | apply Kd.N_drewN | apply Kd.N_drew));exact HO566.out)) k_ hk,Kd.freshB (g:=gb552) (o:=.cells #[.int .i64 t547,.int .i64 t548,.slice Ao19 t549.length co19] 25 (0,0)) (by (with_reducible repeat (first | refine blk_drewN ?_ _ | refine blk_drew ?_ | refine blk_alloc ?_ _));exact BK552.out) k_ hk⟩))
          (case aO=>exact (by (with_reducible repeat (first | apply Kd.N_alloc | apply Kd.N_drewN | apply Kd.N_drew));exact Kd.N_mono HO572.out (fun _ hk=>⟨hk.1,⟨hk.2.1,hk.2.2.2⟩⟩)))
          (case aS=>exact (below_size (by repeat (first | (with_reducible first | exact HB.out | apply below_alloc | apply pw_below_drewN | apply below_drew1 | refine below_set ?_ GE552.out) | exact HB.out))))
          (case aL=>have:=LMc29.out;omega)
          intro v577 w44 ho hb hg hat
          rw [← Ny576.out] at ho
          have n0_:=Aside0.mk (Kd.N_afterv (ok:=(fun k_=>some k_ ≠ (.slice Ao36 y561.length co36:Value).ownBlock∧some k_ ≠ (v565:Value).ownBlock∧some k_ ≠ (.slice Ao45 y573.length co45:Value).ownBlock∧k_ ≠ gb552)) (by (with_reducible repeat (first | apply Kd.N_alloc | apply Kd.N_drewN | apply Kd.N_drew));exact Kd.N_mono HO_3.out (fun _ hk=>⟨⟨hk.1,⟨hk.2.1,⟨hk.2.2.2.1,hk.2.2.2.2⟩⟩⟩,hk.2.2.1⟩)) hg hat)
          have n1_:=Aside0.mk (Kd.V_afterv (ok:=(fun k_=>some k_ ≠ (.slice Ao20 t544.length co20:Value).ownBlock∧some k_ ≠ (.slice Ao36 y561.length co36:Value).ownBlock∧some k_ ≠ (v565:Value).ownBlock∧some k_ ≠ (.slice Ao45 y573.length co45:Value).ownBlock∧k_ ≠ gb552)) (by (with_reducible repeat (first | apply Kd.V_alloc | apply Kd.V_drewN | apply Kd.V_drew));exact Kd.V_mono HO_553002.out (fun _ hk=>⟨⟨hk.2.2.2.2.1,⟨hk.1,⟨hk.2.1,⟨hk.2.2.2.1,hk.2.2.2.2.2⟩⟩⟩⟩,hk.2.2.1⟩)) hg hat)
          have n2_:=Aside0.mk (blk_grown (g:=gb552) (o:=.cells #[.int .i64 t547,.int .i64 t548,.slice Ao19 t549.length co19] 25 (0,0)) (by (with_reducible repeat (first | refine blk_drewN ?_ _ | refine blk_drew ?_ | refine blk_alloc ?_ _));exact BK552.out) hg (Kd.N_away HO572.out (fun _ hk=>hk.2.2.2)))
          have n3_:=Aside0.mk (Kd.N_afterv (ok:=(fun k_=>some k_ ≠ (.slice Ao20 t544.length co20:Value).ownBlock∧some k_ ≠ (v565:Value).ownBlock∧some k_ ≠ (.slice Ao45 y573.length co45:Value).ownBlock∧k_ ≠ gb552)) (by (with_reducible repeat (first | apply Kd.N_alloc | apply Kd.N_drewN | apply Kd.N_drew));exact Kd.N_mono HO563.out (fun _ hk=>⟨⟨hk.2.2.2.1,⟨hk.1,⟨hk.2.2.1,hk.2.2.2.2⟩⟩⟩,hk.2.1⟩)) hg hat)
          have n4_:=Aside0.mk (Kd.N_afterv (ok:=(fun k_=>some k_ ≠ (.slice Ao45 y573.length co45:Value).ownBlock∧k_ ≠ gb552)) (by (with_reducible repeat (first | apply Kd.N_alloc | apply Kd.N_drewN | apply Kd.N_drew));exact Kd.N_mono HO566.out (fun _ hk=>⟨⟨hk.2.1,hk.2.2⟩,hk.1⟩)) hg hat)
          have n5_:=Aside0.mk (Kd.N_afterv (ok:=(fun k_=>some k_ ≠ (.slice Ao20 t544.length co20:Value).ownBlock∧some k_ ≠ (.slice Ao36 y561.length co36:Value).ownBlock∧some k_ ≠ (v565:Value).ownBlock∧k_ ≠ gb552)) (by (with_reducible repeat (first | apply Kd.N_alloc | apply Kd.N_drewN | apply Kd.N_drew));exact Kd.N_mono HO575.out (fun _ hk=>⟨⟨hk.2.2.2.1,⟨hk.1,⟨hk.2.1,hk.2.2.2.2⟩⟩⟩,hk.2.2.1⟩)) hg hat)
          have n6_:=Aside0.mk (hb)
          have n7_:=Aside0.mk (ho)
          clear HO_3
          clear HO_553002
          clear BK552
          clear HO563
          clear HO566
          clear HO575
          clear HB
          clear HO572
          have HO_3:=n0_
          have HO_553002:=n1_
          have BK552:=n2_
          have HO563:=n3_
          have HO566:=n4_
          have HO575:=n5_
          have HB:=n6_
          have HO578:=n7_
          clear n0_ n1_ n2_ n3_ n4_ n5_ n6_ n7_
          clear ho hb hg hat
          refine hK.out _ _ ⟨(blk_cell BK552.out 0).trans rfl,(blk_cell BK552.out 1).trans rfl,(blk_cell BK552.out 2).trans rfl⟩ (fun hHeld=>?_)
          clear hK K
          refine norm_ (a':=?_) ?_ ?_
          rotate_left
          ·show Act.put _ (some 45) _ = _
           simp only [Act.put,List.setIfInBounds_toArray,List.set_cons_zero,List.set_cons_succ,i64_w,i32_w]
           rfl
          refine pure_ (i:=6) (N:=some 8) (v:=?_) (a':=?_) #[true,true,true,true,true,true,true] rfl rfl (by kernel_rfl) (fun _ _ _ h=>h) (Or.inl ⟨by rfl,?_⟩) ?_ ?_
          rotate_left;·intro w';go_simp;with_reducible rfl
          rotate_left;·simp only [Act.put,List.setIfInBounds_toArray,List.set_cons_zero,List.set_cons_succ,i64_w,i32_w];rfl
          refine done_ (by kernel_rfl) ?_
          try go_wp2
          go_loopg [9] kj14 (fun kq v9 w'=>∃ (x9_2:Int),v9 = .int .i64 x9_2∧Aside0 (laws_FnSealMade.l0 kq t544 y564 y576 x9_2 t547 t548 t549 = some r)∧Aside0 (kq ≤ kj14)∧Aside0 (Kd.N k25 25 w' w.heap.size (fun k_=>some k_ ≠ (v565:Value).ownBlock∧some k_ ≠ (v577:Value).ownBlock∧k_ ≠ gb552) (.slice Ao20 t544.length co20) t544)∧Aside0 (Kd.N k25 25 w' w.heap.size (fun k_=>some k_ ≠ (v577:Value).ownBlock∧k_ ≠ gb552) v565 y564)∧Aside0 (Kd.N k25 25 w' w.heap.size (fun k_=>some k_ ≠ (v565:Value).ownBlock∧k_ ≠ gb552) v577 y576)∧Aside0 (Kd.V k25 25 w' w.heap.size (fun k_=>some k_ ≠ ((.slice Ao20 t544.length co20):Value).ownBlock∧some k_ ≠ (v565:Value).ownBlock∧some k_ ≠ (v577:Value).ownBlock∧k_ ≠ gb552) (.slice Ao19 t549.length co19) t549)∧Aside0 (w'.heap[gb552]? = some (.cells #[.int .i64 t547,.int .i64 t548,(.slice Ao19 t549.length co19)] 25 (0,0)))∧Aside0 (Below w.heap.size w w'))
          case atStart=>exact ⟨(0),(by first | rfl | (simp;done) | (simp [*];done)),H',⟨Nat.le_refl _⟩,⟨by (with_reducible repeat (first | apply Kd.N_alloc | apply Kd.N_drewN | apply Kd.N_drew));exact Kd.N_mono HO_3.out (fun _ hk=>⟨hk.1.2.1,⟨hk.2,hk.1.2.2.2⟩⟩)⟩,⟨by (with_reducible repeat (first | apply Kd.N_alloc | apply Kd.N_drewN | apply Kd.N_drew));exact Kd.N_mono HO566.out (fun _ hk=>⟨hk.2,hk.1.2⟩)⟩,⟨by (with_reducible repeat (first | apply Kd.N_alloc | apply Kd.N_drewN | apply Kd.N_drew));exact Kd.N_mono HO578.out (fun _ hk=>⟨hk.2.1,hk.2.2⟩)⟩,⟨by (with_reducible repeat (first | apply Kd.V_alloc | apply Kd.V_drewN | apply Kd.V_drew));exact Kd.V_mono HO_553002.out (fun _ hk=>⟨hk.1.1,⟨hk.1.2.2.1,⟨hk.2,hk.1.2.2.2.2⟩⟩⟩)⟩,⟨by (with_reducible repeat (first | refine blk_drewN ?_ _ | refine blk_drew ?_ | refine blk_alloc ?_ _));exact BK552.out⟩,⟨by repeat (first | (with_reducible first | exact HB.out | apply below_alloc | apply pw_below_drewN | apply below_drew1 | refine below_set ?_ GE552.out) | exact HB.out)⟩⟩
          case round =>
           clear H'
           try clear c2
           try clear c2b0
           try clear c2b1
           try clear p2
           try clear c3
           try clear c6
           try clear c6b0
           try clear c6b1
           try clear c6b2
           try clear c9
           try clear c24
           try clear c25
           try clear c26
           try clear c27
           try clear c28
           try clear c29
           try clear c30
           try clear hcz13_0
           try clear hcz13_1
           try clear hcz13_2
           try clear hcz18_0
           try clear hcz18_1
           try clear hcz18_2
           try clear hcz22_0
           try clear hcz22_1
           try clear hcz22_2
           try clear hcz9_0
           try clear hcz9_1
           try clear hcz9_2
           try clear hfz13_0
           try clear hfz13_1
           try clear hfz13_2
           try clear hfz18_0
           try clear hfz18_1
           try clear hfz18_2
           try clear hfz22_0
           try clear hfz22_1
           try clear hfz22_2
           try clear hfz9_0
           try clear hfz9_1
           try clear hfz9_2
           try clear p2
           obtain ⟨x9_2,rfl,HA,HK2,HO_3,HO_7,HO_8,HO_553002,BK552,HB⟩:=hrel
           cases gk with
           | zero=>exact absurd HA.out (by simp [laws_FnSealMade.l0])
           | succ k2 =>
            have H:=HA.out
            clear HA
            simp only [laws_FnSealMade.l0] at H
            by_cases c46:x9_2 < 10
            ·rw [if_pos c46] at H
             have c46b0:decide (x9_2 < 10) = true:=decide_eq_true c46
             clear c46
             replace H:=Option.bind_eq_some_iff.mp H
             obtain ⟨t580,A470,H⟩:=H
             replace H:((impl_SealMade.f y576 0 x9_2 ([]:List (S25))).bind fun t581=>(if (t580 != t581) = true then (some false) else (laws_FnSealMade.l0 k2 t544 y564 y576 (wrap64 (x9_2 + 1)) t547 t548 t549))) = some r:=H
             have A47:=Aside0.mk A470
             clear A470
             replace H:=Option.bind_eq_some_iff.mp H
             obtain ⟨t581,A480,H⟩:=H
             replace H:(if (t580 != t581) = true then (some false) else (laws_FnSealMade.l0 k2 t544 y564 y576 (wrap64 (x9_2 + 1)) t547 t548 t549)) = some r:=H
             have A48:=Aside0.mk A480
             clear A480
             by_cases c49:(t580 != t581) = true
             ·rw [if_pos c49] at H
              have c49b0:(t580 != t581) = true:=c49
              (try (have c49b1:decide (t580 = t581) = false:=by simpa using c49))
              (try (have c49b2:(t580 == t581) = false:=by simpa using c49))
              (try (have c49b3:¬ (t580 = t581):=by simpa using c49))
              clear c49
              obtain rfl:=Option.some.inj H
              go_wp2_with (first | ((with_reducible refine gate_callee (f:=28) rfl ?_);refine goesL_ (some 53) rfl rfl Tryd.func28 (by kernel_rfl) rfl #[.slice Ao20 t544.length co20,.agg #[.int .i64 0,.int .i64 x9_2,.slice none 0 0]] rfl (by (try simp only [List.map_toArray,List.map_cons,List.map_nil]);first | done | rfl | (simp only [List.length_drop,List.length_take];rfl)) ?_;(refine (impl_SealMade.calls _ _ t544 0 x9_2 _ _ ([]:List (S25)) t580 _ ?side1 ?side2 ?side3 ?side4 A47.out).mono ?_);(case side1=>repeat (first | exact (Kd.N_reads' HO_3.out).2.2 | (with_reducible refine Kd.C_alloc ?_ _) | (with_reducible refine Kd.C_drewN ?_ _) | (with_reducible refine Kd.C_drew ?_)));(case side2=>exact (Kd.N_reads' HO_3.out).2.1);(case side3=>exact Kd.C_nil _ _);(case side4=>exact Nat.le_refl _);rintro e w50 ⟨rfl,hb⟩;refine ⟨_,rfl,?_⟩;have n0_:=Aside0.mk (Kd.N_below (by (with_reducible repeat (first | apply Kd.N_alloc | apply Kd.N_drewN | apply Kd.N_drew));exact HO_3.out) hb);have n1_:=Aside0.mk (Kd.N_below (by (with_reducible repeat (first | apply Kd.N_alloc | apply Kd.N_drewN | apply Kd.N_drew));exact HO_7.out) hb);have n2_:=Aside0.mk (Kd.N_below (by (with_reducible repeat (first | apply Kd.N_alloc | apply Kd.N_drewN | apply Kd.N_drew));exact HO_8.out) hb);have n3_:=Aside0.mk (Kd.V_below (by (with_reducible repeat (first | apply Kd.V_alloc | apply Kd.V_drewN | apply Kd.V_drew));exact HO_553002.out) hb);have n4_:=Aside0.mk (blk_below (g:=gb552) (o:=.cells #[.int .i64 t547,.int .i64 t548,.slice Ao19 t549.length co19] 25 (0,0)) (by (with_reducible repeat (first | refine blk_drewN ?_ _ | refine blk_drew ?_ | refine blk_alloc ?_ _));exact BK552.out) hb);have n5_:=Aside0.mk (below_step (by repeat (first | (with_reducible first | exact HB.out | apply below_alloc | apply pw_below_drewN | apply below_drew1 | refine below_set ?_ GE552.out) | exact HB.out)) hb);clear HO_3;clear HO_7;clear HO_8;clear HO_553002;clear BK552;clear HB;have HO_3:=n0_;have HO_7:=n1_;have HO_8:=n2_;have HO_553002:=n3_;have BK552:=n4_;have HB:=n5_;clear n0_ n1_ n2_ n3_ n4_ n5_;(try clear hb);(try clear hb2);(try clear hk);(try clear hi);obtain ⟨Ao51,co51,eo51⟩:=Kd.N_slice HO_8.out;subst eo51) | ((with_reducible refine gate_callee (f:=28) rfl ?_);refine goesL_ (some 57) rfl rfl Tryd.func28 (by kernel_rfl) rfl #[.slice Ao51 y576.length co51,.agg #[.int .i64 0,.int .i64 x9_2,.slice none 0 0]] rfl (by (try simp only [List.map_toArray,List.map_cons,List.map_nil]);first | done | rfl | (simp only [List.length_drop,List.length_take];rfl)) ?_;(refine (impl_SealMade.calls _ _ y576 0 x9_2 _ _ ([]:List (S25)) t581 _ ?side1 ?side2 ?side3 ?side4 A48.out).mono ?_);(case side1=>repeat (first | exact (Kd.N_reads' HO_8.out).2.2 | (with_reducible refine Kd.C_alloc ?_ _) | (with_reducible refine Kd.C_drewN ?_ _) | (with_reducible refine Kd.C_drew ?_)));(case side2=>exact (Kd.N_reads' HO_8.out).2.1);(case side3=>exact Kd.C_nil _ _);(case side4=>exact Nat.le_refl _);rintro e w52 ⟨rfl,hb⟩;refine ⟨_,rfl,?_⟩;have n0_:=Aside0.mk (Kd.N_below (by (with_reducible repeat (first | apply Kd.N_alloc | apply Kd.N_drewN | apply Kd.N_drew));exact HO_3.out) hb);have n1_:=Aside0.mk (Kd.N_below (by (with_reducible repeat (first | apply Kd.N_alloc | apply Kd.N_drewN | apply Kd.N_drew));exact HO_7.out) hb);have n2_:=Aside0.mk (Kd.N_below (by (with_reducible repeat (first | apply Kd.N_alloc | apply Kd.N_drewN | apply Kd.N_drew));exact HO_8.out) hb);have n3_:=Aside0.mk (Kd.V_below (by (with_reducible repeat (first | apply Kd.V_alloc | apply Kd.V_drewN | apply Kd.V_drew));exact HO_553002.out) hb);have n4_:=Aside0.mk (blk_below (g:=gb552) (o:=.cells #[.int .i64 t547,.int .i64 t548,.slice Ao19 t549.length co19] 25 (0,0)) (by (with_reducible repeat (first | refine blk_drewN ?_ _ | refine blk_drew ?_ | refine blk_alloc ?_ _));exact BK552.out) hb);have n5_:=Aside0.mk (below_step (by repeat (first | (with_reducible first | exact HB.out | apply below_alloc | apply pw_below_drewN | apply below_drew1 | refine below_set ?_ GE552.out) | exact HB.out)) hb);clear HO_3;clear HO_7;clear HO_8;clear HO_553002;clear BK552;clear HB;have HO_3:=n0_;have HO_7:=n1_;have HO_8:=n2_;have HO_553002:=n3_;have BK552:=n4_;have HB:=n5_;clear n0_ n1_ n2_ n3_ n4_ n5_;(try clear hb);(try clear hb2);(try clear hk);(try clear hi)))
              go_ret
              exact ⟨by first | rfl | (simp [errW_none,errW_some] <;> rfl) | (simp [*,errW_none,errW_some] <;> rfl),by repeat (first | (with_reducible first | exact HB.out | apply below_alloc | apply pw_below_drewN | apply below_drew1 | refine below_set ?_ GE552.out) | exact HB.out)⟩
             ·rw [if_neg c49] at H
              have c49b0:(t580 != t581) = false:=by simpa using c49
              (try (have c49b1:decide (t580 = t581) = true:=by simpa using c49))
              (try (have c49b2:(t580 == t581) = true:=by simpa using c49))
              clear c49
              have H':=Aside0.mk H
              clear H
              go_wp2_with (first | ((with_reducible refine gate_callee (f:=28) rfl ?_);refine goesL_ (some 53) rfl rfl Tryd.func28 (by kernel_rfl) rfl #[.slice Ao20 t544.length co20,.agg #[.int .i64 0,.int .i64 x9_2,.slice none 0 0]] rfl (by (try simp only [List.map_toArray,List.map_cons,List.map_nil]);first | done | rfl | (simp only [List.length_drop,List.length_take];rfl)) ?_;(refine (impl_SealMade.calls _ _ t544 0 x9_2 _ _ ([]:List (S25)) t580 _ ?side1 ?side2 ?side3 ?side4 A47.out).mono ?_);(case side1=>repeat (first | exact (Kd.N_reads' HO_3.out).2.2 | (with_reducible refine Kd.C_alloc ?_ _) | (with_reducible refine Kd.C_drewN ?_ _) | (with_reducible refine Kd.C_drew ?_)));(case side2=>exact (Kd.N_reads' HO_3.out).2.1);(case side3=>exact Kd.C_nil _ _);(case side4=>exact Nat.le_refl _);rintro e w53 ⟨rfl,hb⟩;refine ⟨_,rfl,?_⟩;have n0_:=Aside0.mk (Kd.N_below (by (with_reducible repeat (first | apply Kd.N_alloc | apply Kd.N_drewN | apply Kd.N_drew));exact HO_3.out) hb);have n1_:=Aside0.mk (Kd.N_below (by (with_reducible repeat (first | apply Kd.N_alloc | apply Kd.N_drewN | apply Kd.N_drew));exact HO_7.out) hb);have n2_:=Aside0.mk (Kd.N_below (by (with_reducible repeat (first | apply Kd.N_alloc | apply Kd.N_drewN | apply Kd.N_drew));exact HO_8.out) hb);have n3_:=Aside0.mk (Kd.V_below (by (with_reducible repeat (first | apply Kd.V_alloc | apply Kd.V_drewN | apply Kd.V_drew));exact HO_553002.out) hb);have n4_:=Aside0.mk (blk_below (g:=gb552) (o:=.cells #[.int .i64 t547,.int .i64 t548,.slice Ao19 t549.length co19] 25 (0,0)) (by (with_reducible repeat (first | refine blk_drewN ?_ _ | refine blk_drew ?_ | refine blk_alloc ?_ _));exact BK552.out) hb);have n5_:=Aside0.mk (below_step (by repeat (first | (with_reducible first | exact HB.out | apply below_alloc | apply pw_below_drewN | apply below_drew1 | refine below_set ?_ GE552.out) | exact HB.out)) hb);clear HO_3;clear HO_7;clear HO_8;clear HO_553002;clear BK552;clear HB;have HO_3:=n0_;have HO_7:=n1_;have HO_8:=n2_;have HO_553002:=n3_;have BK552:=n4_;have HB:=n5_;clear n0_ n1_ n2_ n3_ n4_ n5_;(try clear hb);(try clear hb2);(try clear hk);(try clear hi);obtain ⟨Ao54,co54,eo54⟩:=Kd.N_slice HO_8.out;subst eo54) | ((with_reducible refine gate_callee (f:=28) rfl ?_);refine goesL_ (some 57) rfl rfl Tryd.func28 (by kernel_rfl) rfl #[.slice Ao54 y576.length co54,.agg #[.int .i64 0,.int .i64 x9_2,.slice none 0 0]] rfl (by (try simp only [List.map_toArray,List.map_cons,List.map_nil]);first | done | rfl | (simp only [List.length_drop,List.length_take];rfl)) ?_;(refine (impl_SealMade.calls _ _ y576 0 x9_2 _ _ ([]:List (S25)) t581 _ ?side1 ?side2 ?side3 ?side4 A48.out).mono ?_);(case side1=>repeat (first | exact (Kd.N_reads' HO_8.out).2.2 | (with_reducible refine Kd.C_alloc ?_ _) | (with_reducible refine Kd.C_drewN ?_ _) | (with_reducible refine Kd.C_drew ?_)));(case side2=>exact (Kd.N_reads' HO_8.out).2.1);(case side3=>exact Kd.C_nil _ _);(case side4=>exact Nat.le_refl _);rintro e w55 ⟨rfl,hb⟩;refine ⟨_,rfl,?_⟩;have n0_:=Aside0.mk (Kd.N_below (by (with_reducible repeat (first | apply Kd.N_alloc | apply Kd.N_drewN | apply Kd.N_drew));exact HO_3.out) hb);have n1_:=Aside0.mk (Kd.N_below (by (with_reducible repeat (first | apply Kd.N_alloc | apply Kd.N_drewN | apply Kd.N_drew));exact HO_7.out) hb);have n2_:=Aside0.mk (Kd.N_below (by (with_reducible repeat (first | apply Kd.N_alloc | apply Kd.N_drewN | apply Kd.N_drew));exact HO_8.out) hb);have n3_:=Aside0.mk (Kd.V_below (by (with_reducible repeat (first | apply Kd.V_alloc | apply Kd.V_drewN | apply Kd.V_drew));exact HO_553002.out) hb);have n4_:=Aside0.mk (blk_below (g:=gb552) (o:=.cells #[.int .i64 t547,.int .i64 t548,.slice Ao19 t549.length co19] 25 (0,0)) (by (with_reducible repeat (first | refine blk_drewN ?_ _ | refine blk_drew ?_ | refine blk_alloc ?_ _));exact BK552.out) hb);have n5_:=Aside0.mk (below_step (by repeat (first | (with_reducible first | exact HB.out | apply below_alloc | apply pw_below_drewN | apply below_drew1 | refine below_set ?_ GE552.out) | exact HB.out)) hb);clear HO_3;clear HO_7;clear HO_8;clear HO_553002;clear BK552;clear HB;have HO_3:=n0_;have HO_7:=n1_;have HO_8:=n2_;have HO_553002:=n3_;have BK552:=n4_;have HB:=n5_;clear n0_ n1_ n2_ n3_ n4_ n5_;(try clear hb);(try clear hb2);(try clear hk);(try clear hi)))
              go_roundg k2
              case measure=>have:=HJ14.out;have:=HK2.out;omega
              case rel=>exact ⟨(wrap64 (x9_2 + 1)),(by first | rfl | (simp;done) | (simp [*];done)),H',⟨by have:=HJ14.out;have:=HK2.out;omega⟩,⟨by (with_reducible repeat (first | apply Kd.N_alloc | apply Kd.N_drewN | apply Kd.N_drew));exact HO_3.out⟩,⟨by (with_reducible repeat (first | apply Kd.N_alloc | apply Kd.N_drewN | apply Kd.N_drew));exact HO_7.out⟩,⟨by (with_reducible repeat (first | apply Kd.N_alloc | apply Kd.N_drewN | apply Kd.N_drew));exact HO_8.out⟩,⟨by (with_reducible repeat (first | apply Kd.V_alloc | apply Kd.V_drewN | apply Kd.V_drew));exact HO_553002.out⟩,⟨by (with_reducible repeat (first | refine blk_drewN ?_ _ | refine blk_drew ?_ | refine blk_alloc ?_ _));exact BK552.out⟩,⟨by repeat (first | (with_reducible first | exact HB.out | apply below_alloc | apply pw_below_drewN | apply below_drew1 | refine below_set ?_ GE552.out) | exact HB.out)⟩⟩
            ·rw [if_neg c46] at H
             have c46b0:decide (x9_2 < 10) = false:=decide_eq_false c46
             clear c46
             replace H:=Option.bind_eq_some_iff.mp H
             obtain ⟨t579,A560,H⟩:=H
             replace H:(some t579) = some r:=H
             have A56:=Aside0.mk A560
             clear A560
             obtain rfl:=Option.some.inj H
             have hcz57_0:wr.cell? ⟨gb552,0,none⟩ = some (.int .i64 t547):=(blk_cell BK552.out 0).trans rfl
             have hcz57_1:wr.cell? ⟨gb552,1,none⟩ = some (.int .i64 t548):=(blk_cell BK552.out 1).trans rfl
             have hcz57_2:wr.cell? ⟨gb552,2,none⟩ = some (.slice Ao19 t549.length co19):=(blk_cell BK552.out 2).trans rfl
             have hfz57_0:=blk_frozen BK552.out 0
             have hfz57_1:=blk_frozen BK552.out 1
             have hfz57_2:=blk_frozen BK552.out 2
             obtain ⟨Ao58,co58,eo58⟩:=Kd.N_slice HO_7.out
             subst eo58
             go_wp2_with (first | ((with_reducible refine gate_callee (f:=28) rfl ?_);refine goesL_ (some 61) rfl rfl Tryd.func28 (by kernel_rfl) rfl #[.slice Ao58 y564.length co58,.agg #[.int .i64 t547,.int .i64 t548,.slice Ao19 t549.length co19]] rfl (by (try simp only [List.map_toArray,List.map_cons,List.map_nil]);first | done | rfl | (simp only [List.length_drop,List.length_take];rfl)) ?_;(with_reducible refine (impl_SealMade.calls _ _ y564 t547 t548 _ _ t549 t579 _ ?side1 ?side2 ?side3 ?side4 A56.out).mono ?_);(case side1=>repeat (first | exact (Kd.N_reads' HO_7.out).2.2 | (with_reducible refine Kd.C_alloc ?_ _) | (with_reducible refine Kd.C_drewN ?_ _) | (with_reducible refine Kd.C_drew ?_)));(case side2=>exact (Kd.N_reads' HO_7.out).2.1);(case side3=>repeat (first | exact (Kd.V_reads' HO_553002.out).2.2 | (with_reducible refine Kd.C_alloc ?_ _) | (with_reducible refine Kd.C_drewN ?_ _) | (with_reducible refine Kd.C_drew ?_)));(case side4=>exact (Kd.V_reads' HO_553002.out).2.1);rintro e w59 ⟨rfl,hb⟩;refine ⟨_,rfl,?_⟩;have n0_:=Aside0.mk (Kd.N_below (by (with_reducible repeat (first | apply Kd.N_alloc | apply Kd.N_drewN | apply Kd.N_drew));exact HO_3.out) hb);have n1_:=Aside0.mk (Kd.N_below (by (with_reducible repeat (first | apply Kd.N_alloc | apply Kd.N_drewN | apply Kd.N_drew));exact HO_7.out) hb);have n2_:=Aside0.mk (Kd.N_below (by (with_reducible repeat (first | apply Kd.N_alloc | apply Kd.N_drewN | apply Kd.N_drew));exact HO_8.out) hb);have n3_:=Aside0.mk (Kd.V_below (by (with_reducible repeat (first | apply Kd.V_alloc | apply Kd.V_drewN | apply Kd.V_drew));exact HO_553002.out) hb);have n4_:=Aside0.mk (blk_below (g:=gb552) (o:=.cells #[.int .i64 t547,.int .i64 t548,.slice Ao19 t549.length co19] 25 (0,0)) (by (with_reducible repeat (first | refine blk_drewN ?_ _ | refine blk_drew ?_ | refine blk_alloc ?_ _));exact BK552.out) hb);have n5_:=Aside0.mk (below_step (by repeat (first | (with_reducible first | exact HB.out | apply below_alloc | apply pw_below_drewN | apply below_drew1 | refine below_set ?_ GE552.out) | exact HB.out)) hb);clear HO_3;clear HO_7;clear HO_8;clear HO_553002;clear BK552;clear HB;have HO_3:=n0_;have HO_7:=n1_;have HO_8:=n2_;have HO_553002:=n3_;have BK552:=n4_;have HB:=n5_;clear n0_ n1_ n2_ n3_ n4_ n5_;(try clear hb);(try clear hb2);(try clear hk);(try clear hi)))
             go_ret
             exact ⟨by first | rfl | (simp [errW_none,errW_some] <;> rfl) | (simp [*,errW_none,errW_some] <;> rfl),by repeat (first | (with_reducible first | exact HB.out | apply below_alloc | apply pw_below_drewN | apply below_drew1 | refine below_set ?_ GE552.out) | exact HB.out)⟩
         ·rw [if_neg c29] at H
          exact absurd H (by simp)
        ·rw [if_neg c28] at H
         exact absurd H (by simp)
       ·rw [if_neg c27] at H
        exact absurd H (by simp)
      ·rw [if_neg c26] at H
       exact absurd H (by simp)
def laws_FnSealMade.Pure:Prop:=∀ (l0:List Int),l0.length ≤ maxLen → l0.length * 1 ≤ 140737488351232 → (∀ x ∈ l0,(Lit.int .u8 x).wf = true) → ∃ k,laws_FnSealMade.f k l0 = some true
theorem laws_FnSealMade.walk (P:laws_FnSealMade.Pure) (a0:Option Addr) (len0 cap0:Nat) (z0:List Int) (w:World) (w0:(a0 = none∧len0 = 0∧cap0 = 0∧z0 = []) ∨ ∃ x,a0 = some x∧len0 ≤ cap0∧cap0 ≤ maxLen∧z0.length = cap0∧(∀ i,i < z0.length → w.cell? (x.add i) = some (.int .u8 (z0.getD i 0)))∧∀ n ∈ z0,(Lit.int .u8 n).wf = true) (y0:len0 * 1 ≤ 140737488351232) :
  Calls Tryd.prog 9 #[.slice a0 len0 cap0] w fun e w'=>e = .returned (.bool true)∧Below w.heap.size w w':=by
 obtain ⟨l0,rfl,hr0,hm0,hw0,hc0⟩:=ReadsInt.ofRowC w0
 obtain ⟨k,h⟩:=P l0 hm0 y0 hw0
 refine (laws_FnSealMade.calls k _ _ l0 true w (Kd.C_of_reads (d:=(0:Int)) (h1:=fun _=>rfl) hr0) hc0 h).mono ?_
 rintro e w' ⟨rfl,hd⟩
 exact ⟨rfl,hd⟩
end Go.Proofs.YtbcjpdahdecehaaDoor.P
