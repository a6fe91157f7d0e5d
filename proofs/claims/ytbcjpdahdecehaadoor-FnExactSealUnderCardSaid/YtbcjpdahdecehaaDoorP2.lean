/- What the Go functions that the laws reach compute, and that their calls come to just that: told by a program of this session (aprint.py). No condition. -/
import Derived.Test.YtbcjpdahdecehaaDoorP0
import Derived.Test.YtbcjpdahdecehaaDoorP1
import Derived.Test.YtbcjpdahdecehaaDoorHItoa
namespace Go.Proofs.YtbcjpdahdecehaaDoor.P
open Go.RowKit Go.Proofs.YtbcjpdahdecehaaDoorW.PrintWords Go.Proofs.YtbcjpdahdecehaaDoorW.PrintLast Go.Proofs.YtbcjpdahdecehaaDoorW.PrintMore
attribute [local go_sem] max2_int min2_int max_two min_two max_three min_three max_four min_four
set_option linter.unusedVariables false
set_option linter.unusedSimpArgs false
def laws_eqSeal.body (g:List (S25) → List (S25) → Option (Bool)) (a0_0:Int) (a0_1:Int) (l0_2:List (S25)) (a1_0:Int) (a1_1:Int) (l1_2:List (S25)):Option (Bool):=if a0_0 = a1_0 then (if a0_1 = a1_1 then ((g l0_2 l1_2).bind fun t297=>(if t297 = true then (some true) else (some false))) else (some false)) else (some false)
theorem laws_eqSeal.body_mono {g g':List (S25) → List (S25) → Option (Bool)} (hg:∀ y0 y1,LeO (g y0 y1) (g' y0 y1)):∀ a0_0 a0_1 l0_2 a1_0 a1_1 l1_2,LeO (laws_eqSeal.body g a0_0 a0_1 l0_2 a1_0 a1_1 l1_2) (laws_eqSeal.body g' a0_0 a0_1 l0_2 a1_0 a1_1 l1_2):=by
 intro a0_0 a0_1 l0_2 a1_0 a1_1 l1_2
 unfold laws_eqSeal.body
 repeat' first
   | (with_reducible exact hg _ _)
   | (with_reducible exact LeO.refl _)
   | (with_reducible exact LeO.none _)
   | (with_reducible refine LeO.ite ?_ ?_)
   | (with_reducible refine LeO.bind ?_ (fun _=>?_))
   | exact hg _ _
   | exact LeO.none _
   | refine LeO.ite ?_ ?_
   | refine LeO.bind ?_ (fun _=>?_)
mutual
def laws_eqSealS.l0:Nat → List (S25) → List (S25) → Int → Option (Bool)
 | 0,_,_,_=>none
 | k + 1,x0,x1,x5=>if x5 < (x0.length:Int) then (if 0 ≤ x5 then (if x5 < (x1.length:Int) then ((laws_eqSeal.body (fun y0 y1=>laws_eqSealS.f k y0 y1) ((rd_T25 x0 x5).f0) ((rd_T25 x0 x5).f1) ((rd_T25 x0 x5).f2) ((rd_T25 x1 x5).f0) ((rd_T25 x1 x5).f1) ((rd_T25 x1 x5).f2)).bind fun t294=>(if t294 = true then (laws_eqSealS.l0 k x0 x1 (wrap64 (x5 + 1))) else (some false))) else (none)) else (none)) else (some true)
def laws_eqSealS.f:Nat → List (S25) → List (S25) → Option (Bool)
 | 0,_,_=>none
 | k + 1,l0,l1=>if (l0.length:Int) = (l1.length:Int) then (laws_eqSealS.l0 k l0 l1 0) else (some false)
end
abbrev laws_eqSeal.f (k:Nat) (a0_0:Int) (a0_1:Int) (l0_2:List (S25)) (a1_0:Int) (a1_1:Int) (l1_2:List (S25)):Option (Bool):=laws_eqSeal.body (fun y0 y1=>laws_eqSealS.f k y0 y1) a0_0 a0_1 l0_2 a1_0 a1_1 l1_2
theorem laws_eqSealS.mono_l:∀ k,(∀ y0 y1,LeO (laws_eqSealS.f k y0 y1) (laws_eqSealS.f (k + 1) y0 y1))∧(∀ y0 y1 y2,LeO (laws_eqSealS.l0 k y0 y1 y2) (laws_eqSealS.l0 (k + 1) y0 y1 y2))
 | 0=>⟨fun _ _ r h=>by simp [laws_eqSealS.f] at h,fun _ _ _ r h=>by simp [laws_eqSealS.l0] at h⟩
 | k + 1=>by
  obtain ⟨ih0,ih1⟩:=laws_eqSealS.mono_l k
  refine ⟨?_,?_⟩
  ·intro y0 y1
   unfold laws_eqSealS.f
   repeat' first
   | (with_reducible exact ih0 _ _)
   | (with_reducible exact ih1 _ _ _)
   | (with_reducible exact laws_eqSeal.body_mono (fun y0 y1=>ih0 y0 y1) _ _ _ _ _ _)
   | (with_reducible exact LeO.refl _)
   | (with_reducible exact LeO.none _)
   | (with_reducible refine LeO.ite ?_ ?_)
   | (with_reducible refine LeO.bind ?_ (fun _=>?_))
   | exact ih0 _ _
   | exact ih1 _ _ _
   | exact LeO.none _
   | refine LeO.ite ?_ ?_
   | refine LeO.bind ?_ (fun _=>?_)
  ·intro y0 y1 y2
   unfold laws_eqSealS.l0
   repeat' first
   | (with_reducible exact ih0 _ _)
   | (with_reducible exact ih1 _ _ _)
   | (with_reducible exact laws_eqSeal.body_mono (fun y0 y1=>ih0 y0 y1) _ _ _ _ _ _)
   | (with_reducible exact LeO.refl _)
   | (with_reducible exact LeO.none _)
   | (with_reducible refine LeO.ite ?_ ?_)
   | (with_reducible refine LeO.bind ?_ (fun _=>?_))
   | exact ih0 _ _
   | exact ih1 _ _ _
   | exact LeO.none _
   | refine LeO.ite ?_ ?_
   | refine LeO.bind ?_ (fun _=>?_)
theorem laws_eqSealS.mono:∀ a0 a1 k,LeO (laws_eqSealS.f k a0 a1) (laws_eqSealS.f (k + 1) a0 a1):=by
 intro a0 a1 k
 obtain ⟨ih0,ih1⟩:=laws_eqSealS.mono_l k
 exact ih0 a0 a1
def laws_eqSealS.T6:Bool × List (List Nat × List Nat):=(true,[([],[]),([],[]),([0,1],[0,1]),([2],[2]),([],[]),([],[]),([4,5],[4,5]),([6],[6]),([3,7],[3,7]),([8],[8])])
def laws_eqSealS.B6:List Nat:=[0,0,3,7,0,0,48,112,255,511]
theorem laws_eqSealS.tab6:rtab .any (opsOf Tryd.f29 6) = laws_eqSealS.T6:=by kernel_rfl
theorem laws_eqSealS.bits6:waitsOk laws_eqSealS.T6.2 laws_eqSealS.B6 = true:=by kernel_rfl
theorem laws_eqSeal.mono:∀ a0_0 a0_1 l0_2 a1_0 a1_1 l1_2 k,LeO (laws_eqSeal.f k a0_0 a0_1 l0_2 a1_0 a1_1 l1_2) (laws_eqSeal.f (k + 1) a0_0 a0_1 l0_2 a1_0 a1_1 l1_2):=fun a0_0 a0_1 l0_2 a1_0 a1_1 l1_2 k=>laws_eqSeal.body_mono (fun y0 y1=>laws_eqSealS.mono y0 y1 k) a0_0 a0_1 l0_2 a1_0 a1_1 l1_2
abbrev laws_eqSealS.Con (k:Nat):Prop:=∀ (A0:Option Addr) (c0:Nat) (l0:List (S25)) (A1:Option Addr) (c1:Nat) (l1:List (S25)) (r:Bool) (w:World) (hr0:Kd.C k25 w A0 l0.length l0) (hc0:l0.length ≤ c0) (hr1:Kd.C k25 w A1 l1.length l1) (hc1:l1.length ≤ c1) (h:laws_eqSealS.f k l0 l1 = some r),
  Calls Tryd.prog 29 #[.slice A0 l0.length c0,.slice A1 l1.length c1] w fun e w'=>e = .returned (.bool r)∧Below w.heap.size w w'
set_option maxHeartbeats 8000000 in
set_option maxRecDepth 100000 in
theorem laws_eqSeal.calls_of (k:Nat) (ihS:∀ j_,j_ ≤ k → laws_eqSealS.Con j_) (a0_0:Int) (a0_1:Int) (A0_2:Option Addr) (c0_2:Nat) (l0_2:List (S25)) (a1_0:Int) (a1_1:Int) (A1_2:Option Addr) (c1_2:Nat) (l1_2:List (S25)) (r:Bool) (w:World) (hr0_2:Kd.C k25 w A0_2 l0_2.length l0_2) (hc0_2:l0_2.length ≤ c0_2) (hr1_2:Kd.C k25 w A1_2 l1_2.length l1_2) (hc1_2:l1_2.length ≤ c1_2) (h:laws_eqSeal.f k a0_0 a0_1 l0_2 a1_0 a1_1 l1_2 = some r) :
  Calls Tryd.prog 22 #[.agg #[.int .i64 a0_0,.int .i64 a0_1,.slice A0_2 l0_2.length c0_2],.agg #[.int .i64 a1_0,.int .i64 a1_1,.slice A1_2 l1_2.length c1_2]] w fun e w'=>e = .returned (.bool r)∧Below w.heap.size w w':=by
 have hu25:=Tryd.underlying25
 have HR0_2:=Aside0.mk hr0_2
 have HC0_2:=Aside0.mk hc0_2
 clear hr0_2 hc0_2
 have HR1_2:=Aside0.mk hr1_2
 have HC1_2:=Aside0.mk hc1_2
 clear hr1_2 hc1_2
 have HB:=Aside0.mk (Below.refl w.heap.size w)
 have H:(if a0_0 = a1_0 then (if a0_1 = a1_1 then ((laws_eqSealS.f k l0_2 l1_2).bind fun t297=>(if t297 = true then (some true) else (some false))) else (some false)) else (some false)) = some r:=h
 clear h
 by_cases c3:a0_0 = a1_0
 ·rw [if_pos c3] at H
  have c3b0:(a0_0 == a1_0) = true:=beq_iff_eq.mpr c3
  have c3b1:(a0_0 != a1_0) = false:=bne_eq_false_iff_eq.mpr c3
  clear c3
  by_cases c4:a0_1 = a1_1
  ·rw [if_pos c4] at H
   have c4b0:(a0_1 == a1_1) = true:=beq_iff_eq.mpr c4
   have c4b1:(a0_1 != a1_1) = false:=bne_eq_false_iff_eq.mpr c4
   clear c4
   replace H:=Option.bind_eq_some_iff.mp H
   obtain ⟨t297,A50,H⟩:=H
   replace H:(if t297 = true then (some true) else (some false)) = some r:=H
   have A5:=Aside0.mk A50
   clear A50
   by_cases c6:t297 = true
   ·subst c6
    have H1:(some true) = some r:=by rw [if_pos rfl] at H;exact H
    clear H
    have H:=H1
    clear H1
    obtain rfl:=Option.some.inj H
    go_enter Tryd.func22,Tryd.ntmps22
    go_wp2_with (first | ((with_reducible refine gate_dst (N:=2) rfl ?_);refine box_event ?hg (N:=2) ?hd (cs:=#[.int .i64 a0_0,.int .i64 a0_1,.slice A0_2 l0_2.length c0_2]) (t:=25) ?hr ?_;(case hd=>rfl);(case hg=>rfl);(case hr=>first | (go_simp;done) | (go_simp;rfl));intro gb295 hg w7 hbox hb;have n0_:=Aside0.mk (below_step (by repeat (first | (with_reducible first | exact HB.out | apply below_alloc | apply pw_below_drewN | apply below_drew1) | exact HB.out)) hb);have n1_:=Aside0.mk (hbox);have n2_:=Aside0.mk ((by rw [hg];exact (below_size (by repeat (first | (with_reducible first | exact HB.out | apply below_alloc | apply pw_below_drewN | apply below_drew1) | exact HB.out))):w.heap.size ≤ gb295));have n3_:=Aside0.mk ((by rw [hg];exact (below_size (by repeat (first | (with_reducible first | exact HB.out | apply below_alloc | apply pw_below_drewN | apply below_drew1) | exact HB.out))):w.heap.size ≤ gb295));clear HB;have HB:=n0_;have BK295:=n1_;have GW295:=n2_;have GE295:=n3_;clear n0_ n1_ n2_ n3_;clear hb hbox hg) | ((with_reducible refine gate_dst (N:=3) rfl ?_);refine box_event ?hg (N:=3) ?hd (cs:=#[.int .i64 a1_0,.int .i64 a1_1,.slice A1_2 l1_2.length c1_2]) (t:=25) ?hr ?_;(case hd=>rfl);(case hg=>rfl);(case hr=>first | (go_simp;done) | (go_simp;rfl));intro gb296 hg w8 hbox hb;have n0_:=Aside0.mk (blk_below (g:=gb295) (o:=.cells #[.int .i64 a0_0,.int .i64 a0_1,.slice A0_2 l0_2.length c0_2] 25 (0,0)) (by (with_reducible repeat (first | refine blk_drewN ?_ _ | refine blk_drew ?_ | refine blk_alloc ?_ _));exact BK295.out) hb);have n1_:=Aside0.mk (below_step (by repeat (first | (with_reducible first | exact HB.out | apply below_alloc | apply pw_below_drewN | apply below_drew1 | refine below_set ?_ GE295.out) | exact HB.out)) hb);have n2_:=Aside0.mk (hbox);have n3_:=Aside0.mk ((by rw [hg];exact (below_size (by repeat (first | (with_reducible first | exact HB.out | apply below_alloc | apply pw_below_drewN | apply below_drew1 | refine below_set ?_ GE295.out) | exact HB.out))):w.heap.size ≤ gb296));have n4_:=Aside0.mk ((by rw [hg];exact (below_size (by repeat (first | (with_reducible first | exact HB.out | apply below_alloc | apply pw_below_drewN | apply below_drew1 | refine below_set ?_ GE295.out) | exact HB.out))):w.heap.size ≤ gb296));have n5_:=Aside0.mk ((by rw [hg];exact Nat.ne_of_lt (blk_lt (g:=gb295) (o:=.cells #[.int .i64 a0_0,.int .i64 a0_1,.slice A0_2 l0_2.length c0_2] 25 (0,0)) (by (with_reducible repeat (first | refine blk_drewN ?_ _ | refine blk_drew ?_ | refine blk_alloc ?_ _));exact BK295.out)):gb295 ≠ gb296));have n6_:=Aside0.mk ((by rw [hg];exact Nat.ne_of_gt (blk_lt (g:=gb295) (o:=.cells #[.int .i64 a0_0,.int .i64 a0_1,.slice A0_2 l0_2.length c0_2] 25 (0,0)) (by (with_reducible repeat (first | refine blk_drewN ?_ _ | refine blk_drew ?_ | refine blk_alloc ?_ _));exact BK295.out)):gb296 ≠ gb295));clear BK295;clear HB;have BK295:=n0_;have HB:=n1_;have BK296:=n2_;have GW296:=n3_;have GE296:=n4_;have NB295_296:=n5_;have NB296_295:=n6_;clear n0_ n1_ n2_ n3_ n4_ n5_ n6_;clear hb hbox hg;have hnb9:=NB295_296.out;have hnc9:=NB296_295.out;have hcz10_0:w8.cell? ⟨gb295,0,none⟩ = some (.int .i64 a0_0):=(blk_cell BK295.out 0).trans rfl;have hcz10_1:w8.cell? ⟨gb295,1,none⟩ = some (.int .i64 a0_1):=(blk_cell BK295.out 1).trans rfl;have hcz10_2:w8.cell? ⟨gb295,2,none⟩ = some (.slice A0_2 l0_2.length c0_2):=(blk_cell BK295.out 2).trans rfl;have hfz10_0:=blk_frozen BK295.out 0;have hfz10_1:=blk_frozen BK295.out 1;have hfz10_2:=blk_frozen BK295.out 2;have hcz11_0:w8.cell? ⟨gb296,0,none⟩ = some (.int .i64 a1_0):=(blk_cell BK296.out 0).trans rfl;have hcz11_1:w8.cell? ⟨gb296,1,none⟩ = some (.int .i64 a1_1):=(blk_cell BK296.out 1).trans rfl;have hcz11_2:w8.cell? ⟨gb296,2,none⟩ = some (.slice A1_2 l1_2.length c1_2):=(blk_cell BK296.out 2).trans rfl;have hfz11_0:=blk_frozen BK296.out 0;have hfz11_1:=blk_frozen BK296.out 1;have hfz11_2:=blk_frozen BK296.out 2) | ((with_reducible refine gate_callee (f:=29) rfl ?_);refine goesL_ (some 19) rfl rfl Tryd.func29 (by kernel_rfl) rfl #[.slice A0_2 l0_2.length c0_2,.slice A1_2 l1_2.length c1_2] rfl (by (try simp only [List.map_toArray,List.map_cons,List.map_nil]);first | done | rfl | (simp only [List.length_drop,List.length_take];rfl)) ?_;(with_reducible refine (ihS k (Nat.le_refl _) _ _ l0_2 _ _ l1_2 true _ ?side1 ?side2 ?side3 ?side4 A5.out).mono ?_);(case side1=>repeat (first | exact (Kd.C_below HR0_2.out HB.out) | (with_reducible refine Kd.C_alloc ?_ _) | (with_reducible refine Kd.C_drewN ?_ _) | (with_reducible refine Kd.C_drew ?_)));(case side2=>exact HC0_2.out);(case side3=>repeat (first | exact (Kd.C_below HR1_2.out HB.out) | (with_reducible refine Kd.C_alloc ?_ _) | (with_reducible refine Kd.C_drewN ?_ _) | (with_reducible refine Kd.C_drew ?_)));(case side4=>exact HC1_2.out);rintro e w12 ⟨rfl,hb⟩;refine ⟨_,rfl,?_⟩;have n0_:=Aside0.mk (blk_below (g:=gb295) (o:=.cells #[.int .i64 a0_0,.int .i64 a0_1,.slice A0_2 l0_2.length c0_2] 25 (0,0)) (by (with_reducible repeat (first | refine blk_drewN ?_ _ | refine blk_drew ?_ | refine blk_alloc ?_ _));exact BK295.out) hb);have n1_:=Aside0.mk (blk_below (g:=gb296) (o:=.cells #[.int .i64 a1_0,.int .i64 a1_1,.slice A1_2 l1_2.length c1_2] 25 (0,0)) (by (with_reducible repeat (first | refine blk_drewN ?_ _ | refine blk_drew ?_ | refine blk_alloc ?_ _));exact BK296.out) hb);have n2_:=Aside0.mk (below_step (by repeat (first | (with_reducible first | exact HB.out | apply below_alloc | apply pw_below_drewN | apply below_drew1 | refine below_set ?_ GE295.out | refine below_set ?_ GE296.out) | exact HB.out)) hb);clear BK295;clear BK296;clear HB;have BK295:=n0_;have BK296:=n1_;have HB:=n2_;clear n0_ n1_ n2_;(try clear hb);(try clear hb2);(try clear hk);(try clear hi)))
    go_ret
    exact ⟨by first | rfl | (simp [errW_none,errW_some] <;> rfl) | (simp [*,errW_none,errW_some] <;> rfl),by repeat (first | (with_reducible first | exact HB.out | apply below_alloc | apply pw_below_drewN | apply below_drew1 | refine below_set ?_ GE295.out | refine below_set ?_ GE296.out) | exact HB.out)⟩
   ·replace c6:=Bool.eq_false_iff.mpr c6
    subst c6
    have H1:(some false) = some r:=by rw [if_neg (show ¬ (false = true) by decide)] at H;exact H
    clear H
    have H:=H1
    clear H1
    obtain rfl:=Option.some.inj H
    go_enter Tryd.func22,Tryd.ntmps22
    go_wp2_with (first | ((with_reducible refine gate_dst (N:=2) rfl ?_);refine box_event ?hg (N:=2) ?hd (cs:=#[.int .i64 a0_0,.int .i64 a0_1,.slice A0_2 l0_2.length c0_2]) (t:=25) ?hr ?_;(case hd=>rfl);(case hg=>rfl);(case hr=>first | (go_simp;done) | (go_simp;rfl));intro gb295 hg w13 hbox hb;have n0_:=Aside0.mk (below_step (by repeat (first | (with_reducible first | exact HB.out | apply below_alloc | apply pw_below_drewN | apply below_drew1) | exact HB.out)) hb);have n1_:=Aside0.mk (hbox);have n2_:=Aside0.mk ((by rw [hg];exact (below_size (by repeat (first | (with_reducible first | exact HB.out | apply below_alloc | apply pw_below_drewN | apply below_drew1) | exact HB.out))):w.heap.size ≤ gb295));have n3_:=Aside0.mk ((by rw [hg];exact (below_size (by repeat (first | (with_reducible first | exact HB.out | apply below_alloc | apply pw_below_drewN | apply below_drew1) | exact HB.out))):w.heap.size ≤ gb295));clear HB;have HB:=n0_;have BK295:=n1_;have GW295:=n2_;have GE295:=n3_;clear n0_ n1_ n2_ n3_;clear hb hbox hg) | ((with_reducible refine gate_dst (N:=3) rfl ?_);refine box_event ?hg (N:=3) ?hd (cs:=#[.int .i64 a1_0,.int .i64 a1_1,.slice A1_2 l1_2.length c1_2]) (t:=25) ?hr ?_;(case hd=>rfl);(case hg=>rfl);(case hr=>first | (go_simp;done) | (go_simp;rfl));intro gb296 hg w14 hbox hb;have n0_:=Aside0.mk (blk_below (g:=gb295) (o:=.cells #[.int .i64 a0_0,.int .i64 a0_1,.slice A0_2 l0_2.length c0_2] 25 (0,0)) (by (with_reducible repeat (first | refine blk_drewN ?_ _ | refine blk_drew ?_ | refine blk_alloc ?_ _));exact BK295.out) hb);have n1_:=Aside0.mk (below_step (by repeat (first | (with_reducible first | exact HB.out | apply below_alloc | apply pw_below_drewN | apply below_drew1 | refine below_set ?_ GE295.out) | exact HB.out)) hb);have n2_:=Aside0.mk (hbox);have n3_:=Aside0.mk ((by rw [hg];exact (below_size (by repeat (first | (with_reducible first | exact HB.out | apply below_alloc | apply pw_below_drewN | apply below_drew1 | refine below_set ?_ GE295.out) | exact HB.out))):w.heap.size ≤ gb296));have n4_:=Aside0.mk ((by rw [hg];exact (below_size (by repeat (first | (with_reducible first | exact HB.out | apply below_alloc | apply pw_below_drewN | apply below_drew1 | refine below_set ?_ GE295.out) | exact HB.out))):w.heap.size ≤ gb296));have n5_:=Aside0.mk ((by rw [hg];exact Nat.ne_of_lt (blk_lt (g:=gb295) (o:=.cells #[.int .i64 a0_0,.int .i64 a0_1,.slice A0_2 l0_2.length c0_2] 25 (0,0)) (by (with_reducible repeat (first | refine blk_drewN ?_ _ | refine blk_drew ?_ | refine blk_alloc ?_ _));exact BK295.out)):gb295 ≠ gb296));have n6_:=Aside0.mk ((by rw [hg];exact Nat.ne_of_gt (blk_lt (g:=gb295) (o:=.cells #[.int .i64 a0_0,.int .i64 a0_1,.slice A0_2 l0_2.length c0_2] 25 (0,0)) (by (with_reducible repeat (first | refine blk_drewN ?_ _ | refine blk_drew ?_ | refine blk_alloc ?_ _));exact BK295.out)):gb296 ≠ gb295));clear BK295;clear HB;have BK295:=n0_;have HB:=n1_;have BK296:=n2_;have GW296:=n3_;have GE296:=n4_;have NB295_296:=n5_;have NB296_295:=n6_;clear n0_ n1_ n2_ n3_ n4_ n5_ n6_;clear hb hbox hg;have hnb15:=NB295_296.out;have hnc15:=NB296_295.out;have hcz16_0:w14.cell? ⟨gb295,0,none⟩ = some (.int .i64 a0_0):=(blk_cell BK295.out 0).trans rfl;have hcz16_1:w14.cell? ⟨gb295,1,none⟩ = some (.int .i64 a0_1):=(blk_cell BK295.out 1).trans rfl;have hcz16_2:w14.cell? ⟨gb295,2,none⟩ = some (.slice A0_2 l0_2.length c0_2):=(blk_cell BK295.out 2).trans rfl;have hfz16_0:=blk_frozen BK295.out 0;have hfz16_1:=blk_frozen BK295.out 1;have hfz16_2:=blk_frozen BK295.out 2;have hcz17_0:w14.cell? ⟨gb296,0,none⟩ = some (.int .i64 a1_0):=(blk_cell BK296.out 0).trans rfl;have hcz17_1:w14.cell? ⟨gb296,1,none⟩ = some (.int .i64 a1_1):=(blk_cell BK296.out 1).trans rfl;have hcz17_2:w14.cell? ⟨gb296,2,none⟩ = some (.slice A1_2 l1_2.length c1_2):=(blk_cell BK296.out 2).trans rfl;have hfz17_0:=blk_frozen BK296.out 0;have hfz17_1:=blk_frozen BK296.out 1;have hfz17_2:=blk_frozen BK296.out 2) | ((with_reducible refine gate_callee (f:=29) rfl ?_);refine goesL_ (some 19) rfl rfl Tryd.func29 (by kernel_rfl) rfl #[.slice A0_2 l0_2.length c0_2,.slice A1_2 l1_2.length c1_2] rfl (by (try simp only [List.map_toArray,List.map_cons,List.map_nil]);first | done | rfl | (simp only [List.length_drop,List.length_take];rfl)) ?_;(with_reducible refine (ihS k (Nat.le_refl _) _ _ l0_2 _ _ l1_2 false _ ?side1 ?side2 ?side3 ?side4 A5.out).mono ?_);(case side1=>repeat (first | exact (Kd.C_below HR0_2.out HB.out) | (with_reducible refine Kd.C_alloc ?_ _) | (with_reducible refine Kd.C_drewN ?_ _) | (with_reducible refine Kd.C_drew ?_)));(case side2=>exact HC0_2.out);(case side3=>repeat (first | exact (Kd.C_below HR1_2.out HB.out) | (with_reducible refine Kd.C_alloc ?_ _) | (with_reducible refine Kd.C_drewN ?_ _) | (with_reducible refine Kd.C_drew ?_)));(case side4=>exact HC1_2.out);rintro e w18 ⟨rfl,hb⟩;refine ⟨_,rfl,?_⟩;have n0_:=Aside0.mk (blk_below (g:=gb295) (o:=.cells #[.int .i64 a0_0,.int .i64 a0_1,.slice A0_2 l0_2.length c0_2] 25 (0,0)) (by (with_reducible repeat (first | refine blk_drewN ?_ _ | refine blk_drew ?_ | refine blk_alloc ?_ _));exact BK295.out) hb);have n1_:=Aside0.mk (blk_below (g:=gb296) (o:=.cells #[.int .i64 a1_0,.int .i64 a1_1,.slice A1_2 l1_2.length c1_2] 25 (0,0)) (by (with_reducible repeat (first | refine blk_drewN ?_ _ | refine blk_drew ?_ | refine blk_alloc ?_ _));exact BK296.out) hb);have n2_:=Aside0.mk (below_step (by repeat (first | (with_reducible first | exact HB.out | apply below_alloc | apply pw_below_drewN | apply below_drew1 | refine below_set ?_ GE295.out | refine below_set ?_ GE296.out) | exact HB.out)) hb);clear BK295;clear BK296;clear HB;have BK295:=n0_;have BK296:=n1_;have HB:=n2_;clear n0_ n1_ n2_;(try clear hb);(try clear hb2);(try clear hk);(try clear hi)))
    go_ret
    exact ⟨by first | rfl | (simp [errW_none,errW_some] <;> rfl) | (simp [*,errW_none,errW_some] <;> rfl),by repeat (first | (with_reducible first | exact HB.out | apply below_alloc | apply pw_below_drewN | apply below_drew1 | refine below_set ?_ GE295.out | refine below_set ?_ GE296.out) | exact HB.out)⟩
  ·rw [if_neg c4] at H
   have c4b0:(a0_1 == a1_1) = false:=beq_eq_false_iff_ne.mpr c4
   have c4b1:(a0_1 != a1_1) = true:=bne_iff_ne.mpr c4
   obtain rfl:=Option.some.inj H
   go_enter Tryd.func22,Tryd.ntmps22
   go_wp2_with (first | ((with_reducible refine gate_dst (N:=2) rfl ?_);refine box_event ?hg (N:=2) ?hd (cs:=#[.int .i64 a0_0,.int .i64 a0_1,.slice A0_2 l0_2.length c0_2]) (t:=25) ?hr ?_;(case hd=>rfl);(case hg=>rfl);(case hr=>first | (go_simp;done) | (go_simp;rfl));intro gb295 hg w19 hbox hb;have n0_:=Aside0.mk (below_step (by repeat (first | (with_reducible first | exact HB.out | apply below_alloc | apply pw_below_drewN | apply below_drew1) | exact HB.out)) hb);have n1_:=Aside0.mk (hbox);have n2_:=Aside0.mk ((by rw [hg];exact (below_size (by repeat (first | (with_reducible first | exact HB.out | apply below_alloc | apply pw_below_drewN | apply below_drew1) | exact HB.out))):w.heap.size ≤ gb295));have n3_:=Aside0.mk ((by rw [hg];exact (below_size (by repeat (first | (with_reducible first | exact HB.out | apply below_alloc | apply pw_below_drewN | apply below_drew1) | exact HB.out))):w.heap.size ≤ gb295));clear HB;have HB:=n0_;have BK295:=n1_;have GW295:=n2_;have GE295:=n3_;clear n0_ n1_ n2_ n3_;clear hb hbox hg) | ((with_reducible refine gate_dst (N:=3) rfl ?_);refine box_event ?hg (N:=3) ?hd (cs:=#[.int .i64 a1_0,.int .i64 a1_1,.slice A1_2 l1_2.length c1_2]) (t:=25) ?hr ?_;(case hd=>rfl);(case hg=>rfl);(case hr=>first | (go_simp;done) | (go_simp;rfl));intro gb296 hg w20 hbox hb;have n0_:=Aside0.mk (blk_below (g:=gb295) (o:=.cells #[.int .i64 a0_0,.int .i64 a0_1,.slice A0_2 l0_2.length c0_2] 25 (0,0)) (by (with_reducible repeat (first | refine blk_drewN ?_ _ | refine blk_drew ?_ | refine blk_alloc ?_ _));exact BK295.out) hb);have n1_:=Aside0.mk (below_step (by repeat (first | (with_reducible first | exact HB.out | apply below_alloc | apply pw_below_drewN | apply below_drew1 | refine below_set ?_ GE295.out) | exact HB.out)) hb);have n2_:=Aside0.mk (hbox);have n3_:=Aside0.mk ((by rw [hg];exact (below_size (by repeat (first | (with_reducible first | exact HB.out | apply below_alloc | apply pw_below_drewN | apply below_drew1 | refine below_set ?_ GE295.out) | exact HB.out))):w.heap.size ≤ gb296));have n4_:=Aside0.mk ((by rw [hg];exact (below_size (by repeat (first | (with_reducible first | exact HB.out | apply below_alloc | apply pw_below_drewN | apply below_drew1 | refine below_set ?_ GE295.out) | exact HB.out))):w.heap.size ≤ gb296));have n5_:=Aside0.mk ((by rw [hg];exact Nat.ne_of_lt (blk_lt (g:=gb295) (o:=.cells #[.int .i64 a0_0,.int .i64 a0_1,.slice A0_2 l0_2.length c0_2] 25 (0,0)) (by (with_reducible repeat (first | refine blk_drewN ?_ _ | refine blk_drew ?_ | refine blk_alloc ?_ _));exact BK295.out)):gb295 ≠ gb296));have n6_:=Aside0.mk ((by rw [hg];exact Nat.ne_of_gt (blk_lt (g:=gb295) (o:=.cells #[.int .i64 a0_0,.int .i64 a0_1,.slice A0_2 l0_2.length c0_2] 25 (0,0)) (by (with_reducible repeat (first | refine blk_drewN ?_ _ | refine blk_drew ?_ | refine blk_alloc ?_ _));exact BK295.out)):gb296 ≠ gb295));clear BK295;clear HB;have BK295:=n0_;have HB:=n1_;have BK296:=n2_;have GW296:=n3_;have GE296:=n4_;have NB295_296:=n5_;have NB296_295:=n6_;clear n0_ n1_ n2_ n3_ n4_ n5_ n6_;clear hb hbox hg;have hnb21:=NB295_296.out;have hnc21:=NB296_295.out;have hcz22_0:w20.cell? ⟨gb295,0,none⟩ = some (.int .i64 a0_0):=(blk_cell BK295.out 0).trans rfl;have hcz22_1:w20.cell? ⟨gb295,1,none⟩ = some (.int .i64 a0_1):=(blk_cell BK295.out 1).trans rfl;have hcz22_2:w20.cell? ⟨gb295,2,none⟩ = some (.slice A0_2 l0_2.length c0_2):=(blk_cell BK295.out 2).trans rfl;have hfz22_0:=blk_frozen BK295.out 0;have hfz22_1:=blk_frozen BK295.out 1;have hfz22_2:=blk_frozen BK295.out 2;have hcz23_0:w20.cell? ⟨gb296,0,none⟩ = some (.int .i64 a1_0):=(blk_cell BK296.out 0).trans rfl;have hcz23_1:w20.cell? ⟨gb296,1,none⟩ = some (.int .i64 a1_1):=(blk_cell BK296.out 1).trans rfl;have hcz23_2:w20.cell? ⟨gb296,2,none⟩ = some (.slice A1_2 l1_2.length c1_2):=(blk_cell BK296.out 2).trans rfl;have hfz23_0:=blk_frozen BK296.out 0;have hfz23_1:=blk_frozen BK296.out 1;have hfz23_2:=blk_frozen BK296.out 2))
   go_ret
   exact ⟨by first | rfl | (simp [errW_none,errW_some] <;> rfl) | (simp [*,errW_none,errW_some] <;> rfl),by repeat (first | (with_reducible first | exact HB.out | apply below_alloc | apply pw_below_drewN | apply below_drew1 | refine below_set ?_ GE295.out | refine below_set ?_ GE296.out) | exact HB.out)⟩
 ·rw [if_neg c3] at H
  have c3b0:(a0_0 == a1_0) = false:=beq_eq_false_iff_ne.mpr c3
  have c3b1:(a0_0 != a1_0) = true:=bne_iff_ne.mpr c3
  obtain rfl:=Option.some.inj H
  go_enter Tryd.func22,Tryd.ntmps22
  go_wp2_with (first | ((with_reducible refine gate_dst (N:=2) rfl ?_);refine box_event ?hg (N:=2) ?hd (cs:=#[.int .i64 a0_0,.int .i64 a0_1,.slice A0_2 l0_2.length c0_2]) (t:=25) ?hr ?_;(case hd=>rfl);(case hg=>rfl);(case hr=>first | (go_simp;done) | (go_simp;rfl));intro gb295 hg w24 hbox hb;have n0_:=Aside0.mk (below_step (by repeat (first | (with_reducible first | exact HB.out | apply below_alloc | apply pw_below_drewN | apply below_drew1) | exact HB.out)) hb);have n1_:=Aside0.mk (hbox);have n2_:=Aside0.mk ((by rw [hg];exact (below_size (by repeat (first | (with_reducible first | exact HB.out | apply below_alloc | apply pw_below_drewN | apply below_drew1) | exact HB.out))):w.heap.size ≤ gb295));have n3_:=Aside0.mk ((by rw [hg];exact (below_size (by repeat (first | (with_reducible first | exact HB.out | apply below_alloc | apply pw_below_drewN | apply below_drew1) | exact HB.out))):w.heap.size ≤ gb295));clear HB;have HB:=n0_;have BK295:=n1_;have GW295:=n2_;have GE295:=n3_;clear n0_ n1_ n2_ n3_;clear hb hbox hg) | ((with_reducible refine gate_dst (N:=3) rfl ?_);refine box_event ?hg (N:=3) ?hd (cs:=#[.int .i64 a1_0,.int .i64 a1_1,.slice A1_2 l1_2.length c1_2]) (t:=25) ?hr ?_;(case hd=>rfl);(case hg=>rfl);(case hr=>first | (go_simp;done) | (go_simp;rfl));intro gb296 hg w25 hbox hb;have n0_:=Aside0.mk (blk_below (g:=gb295) (o:=.cells #[.int .i64 a0_0,.int .i64 a0_1,.slice A0_2 l0_2.length c0_2] 25 (0,0)) (by (with_reducible repeat (first | refine blk_drewN ?_ _ | refine blk_drew ?_ | refine blk_alloc ?_ _));exact BK295.out) hb);have n1_:=Aside0.mk (below_step (by repeat (first | (with_reducible first | exact HB.out | apply below_alloc | apply pw_below_drewN | apply below_drew1 | refine below_set ?_ GE295.out) | exact HB.out)) hb);have n2_:=Aside0.mk (hbox);have n3_:=Aside0.mk ((by rw [hg];exact (below_size (by repeat (first | (with_reducible first | exact HB.out | apply below_alloc | apply pw_below_drewN | apply below_drew1 | refine below_set ?_ GE295.out) | exact HB.out))):w.heap.size ≤ gb296));have n4_:=Aside0.mk ((by rw [hg];exact (below_size (by repeat (first | (with_reducible first | exact HB.out | apply below_alloc | apply pw_below_drewN | apply below_drew1 | refine below_set ?_ GE295.out) | exact HB.out))):w.heap.size ≤ gb296));have n5_:=Aside0.mk ((by rw [hg];exact Nat.ne_of_lt (blk_lt (g:=gb295) (o:=.cells #[.int .i64 a0_0,.int .i64 a0_1,.slice A0_2 l0_2.length c0_2] 25 (0,0)) (by (with_reducible repeat (first | refine blk_drewN ?_ _ | refine blk_drew ?_ | refine blk_alloc ?_ _));exact BK295.out)):gb295 ≠ gb296));have n6_:=Aside0.mk ((by rw [hg];exact Nat.ne_of_gt (blk_lt (g:=gb295) (o:=.cells #[.int .i64 a0_0,.int .i64 a0_1,.slice A0_2 l0_2.length c0_2] 25 (0,0)) (by (with_reducible repeat (first | refine blk_drewN ?_ _ | refine blk_drew ?_ | refine blk_alloc ?_ _));exact BK295.out)):gb296 ≠ gb295));clear BK295;clear HB;have BK295:=n0_;have HB:=n1_;have BK296:=n2_;have GW296:=n3_;have GE296:=n4_;have NB295_296:=n5_;have NB296_295:=n6_;clear n0_ n1_ n2_ n3_ n4_ n5_ n6_;clear hb hbox hg;have hnb26:=NB295_296.out;have hnc26:=NB296_295.out;have hcz27_0:w25.cell? ⟨gb295,0,none⟩ = some (.int .i64 a0_0):=(blk_cell BK295.out 0).trans rfl;have hcz27_1:w25.cell? ⟨gb295,1,none⟩ = some (.int .i64 a0_1):=(blk_cell BK295.out 1).trans rfl;have hcz27_2:w25.cell? ⟨gb295,2,none⟩ = some (.slice A0_2 l0_2.length c0_2):=(blk_cell BK295.out 2).trans rfl;have hfz27_0:=blk_frozen BK295.out 0;have hfz27_1:=blk_frozen BK295.out 1;have hfz27_2:=blk_frozen BK295.out 2;have hcz28_0:w25.cell? ⟨gb296,0,none⟩ = some (.int .i64 a1_0):=(blk_cell BK296.out 0).trans rfl;have hcz28_1:w25.cell? ⟨gb296,1,none⟩ = some (.int .i64 a1_1):=(blk_cell BK296.out 1).trans rfl;have hcz28_2:w25.cell? ⟨gb296,2,none⟩ = some (.slice A1_2 l1_2.length c1_2):=(blk_cell BK296.out 2).trans rfl;have hfz28_0:=blk_frozen BK296.out 0;have hfz28_1:=blk_frozen BK296.out 1;have hfz28_2:=blk_frozen BK296.out 2))
  go_ret
  exact ⟨by first | rfl | (simp [errW_none,errW_some] <;> rfl) | (simp [*,errW_none,errW_some] <;> rfl),by repeat (first | (with_reducible first | exact HB.out | apply below_alloc | apply pw_below_drewN | apply below_drew1 | refine below_set ?_ GE295.out | refine below_set ?_ GE296.out) | exact HB.out)⟩
set_option maxHeartbeats 8000000 in
set_option maxRecDepth 100000 in
theorem laws_eqSealS.calls (k:Nat):∀ (A0:Option Addr) (c0:Nat) (l0:List (S25)) (A1:Option Addr) (c1:Nat) (l1:List (S25)) (r:Bool) (w:World) (hr0:Kd.C k25 w A0 l0.length l0) (hc0:l0.length ≤ c0) (hr1:Kd.C k25 w A1 l1.length l1) (hc1:l1.length ≤ c1) (h:laws_eqSealS.f k l0 l1 = some r),
  Calls Tryd.prog 29 #[.slice A0 l0.length c0,.slice A1 l1.length c1] w fun e w'=>e = .returned (.bool r)∧Below w.heap.size w w':=by
 induction k using Nat.strongRecOn with
 | _ k ih =>
 intro A0 c0 l0 A1 c1 l1 r w hr0 hc0 hr1 hc1 h
 cases k with
 | zero=>exact absurd h (by simp [laws_eqSealS.f])
 | succ k =>
 simp only [laws_eqSealS.f] at h
 have hu25:=Tryd.underlying25
 have HR0:=Aside0.mk hr0
 have HC0:=Aside0.mk hc0
 clear hr0 hc0
 have HR1:=Aside0.mk hr1
 have HC1:=Aside0.mk hc1
 clear hr1 hc1
 have HB:=Aside0.mk (Below.refl w.heap.size w)
 have H:(if (l0.length:Int) = (l1.length:Int) then (laws_eqSealS.l0 k l0 l1 0) else (some false)) = some r:=h
 clear h
 by_cases c3:(l0.length:Int) = (l1.length:Int)
 ·rw [if_pos c3] at H
  have c3b0:((l0.length:Int) == (l1.length:Int)) = true:=beq_iff_eq.mpr c3
  have c3b1:((l0.length:Int) != (l1.length:Int)) = false:=bne_eq_false_iff_eq.mpr c3
  have c3b2:(l0.length == l1.length) = true:=by first | simpa using c3 | (simp at c3 ⊢;omega)
  clear c3
  have H':=Aside0.mk H
  clear H
  go_enter Tryd.func29,Tryd.ntmps29
  go_wp2
  go_loopg [5] k (fun kq v5 w'=>∃ (x5_1:Int),v5 = .int .i64 x5_1∧Aside0 (laws_eqSealS.l0 kq l0 l1 x5_1 = some r)∧Aside0 (kq ≤ k)∧Aside0 (Below w.heap.size w w'))
  case atStart=>exact ⟨(0),(by first | rfl | (simp;done) | (simp [*];done)),H',⟨Nat.le_refl _⟩,⟨by repeat (first | (with_reducible first | exact HB.out | apply below_alloc | apply pw_below_drewN | apply below_drew1) | exact HB.out)⟩⟩
  case round =>
   clear H'
   try clear c1
   try clear c2
   try clear p2
   try clear c3
   try clear c3b0
   try clear c3b1
   try clear c3b2
   obtain ⟨x5_1,rfl,HA,HK1,HB⟩:=hrel
   cases gk with
   | zero=>exact absurd HA.out (by simp [laws_eqSealS.l0])
   | succ k1 =>
    have H:=HA.out
    clear HA
    simp only [laws_eqSealS.l0] at H
    by_cases c4:x5_1 < (l0.length:Int)
    ·rw [if_pos c4] at H
     have c4b0:decide (x5_1 < (l0.length:Int)) = true:=decide_eq_true c4
     clear c4
     by_cases c5:0 ≤ x5_1
     ·rw [if_pos c5] at H
      have c5b0:decide (0 ≤ x5_1) = true:=decide_eq_true c5
      clear c5
      by_cases c6:x5_1 < (l1.length:Int)
      ·rw [if_pos c6] at H
       have c6b0:decide (x5_1 < (l1.length:Int)) = true:=decide_eq_true c6
       clear c6
       replace H:=Option.bind_eq_some_iff.mp H
       obtain ⟨t294,A70,H⟩:=H
       replace H:(if t294 = true then (laws_eqSealS.l0 k1 l0 l1 (wrap64 (x5_1 + 1))) else (some false)) = some r:=H
       have A7:=Aside0.mk A70
       clear A70
       by_cases c8:t294 = true
       ·subst c8
        have H1:(laws_eqSealS.l0 k1 l0 l1 (wrap64 (x5_1 + 1))) = some r:=by rw [if_pos rfl] at H;exact H
        clear H
        have H:=H1
        clear H1
        have H':=Aside0.mk H
        clear H
        try go_wp2
        have n0_:=Aside0.mk (below_drew1 HB.out)
        clear HB
        have HB:=n0_
        clear n0_
        have p292:0 ≤ (x5_1:Int):=of_decide_eq_true (by first | (with_reducible assumption) | assumption)
        have q292:x5_1 < (l0.length:Int):=of_decide_eq_true (by first | (with_reducible assumption) | assumption)
        obtain ⟨ad292,A292_2,c292_2,e292,hx292_0,hx292_1,hx292_2,hl292_2,hi292_2⟩:=at_T25 HR0.out x5_1 p292 q292
        have hw292_2:=hx292_2
        have hw292_1:=hx292_1
        have hw292_0:=hx292_0
        cases e292
        replace hx292_0:=(HB.out.cell (World.block_lt_of_cell? w _ hx292_0)).trans hx292_0
        replace hx292_1:=(HB.out.cell (World.block_lt_of_cell? w _ hx292_1)).trans hx292_1
        replace hx292_2:=(HB.out.cell (World.block_lt_of_cell? w _ hx292_2)).trans hx292_2
        have HR292_2:=Aside0.mk hi292_2
        have HC292_2:=Aside0.mk hl292_2
        clear hi292_2 hl292_2
        replace p292:=eq_true p292
        replace q292:=eq_true q292
        have p293:0 ≤ (x5_1:Int):=of_decide_eq_true (by first | (with_reducible assumption) | assumption)
        have q293:x5_1 < (l1.length:Int):=of_decide_eq_true (by first | (with_reducible assumption) | assumption)
        obtain ⟨ad293,A293_2,c293_2,e293,hx293_0,hx293_1,hx293_2,hl293_2,hi293_2⟩:=at_T25 HR1.out x5_1 p293 q293
        have hw293_2:=hx293_2
        have hw293_1:=hx293_1
        have hw293_0:=hx293_0
        cases e293
        replace hx293_0:=(HB.out.cell (World.block_lt_of_cell? w _ hx293_0)).trans hx293_0
        replace hx293_1:=(HB.out.cell (World.block_lt_of_cell? w _ hx293_1)).trans hx293_1
        replace hx293_2:=(HB.out.cell (World.block_lt_of_cell? w _ hx293_2)).trans hx293_2
        have HR293_2:=Aside0.mk hi293_2
        have HC293_2:=Aside0.mk hl293_2
        clear hi293_2 hl293_2
        replace p293:=eq_true p293
        replace q293:=eq_true q293
        refine start_ (n:=10) (S:=fun w'=>w'.cell? (ad292.add ((x5_1).toNat * 3)) = some (.int .i64 ((rd_T25 l0 x5_1).f0))∧w'.cell? ⟨(ad292.add ((x5_1).toNat * 3)).block,(ad292.add ((x5_1).toNat * 3)).off + 1,none⟩ = some (.int .i64 ((rd_T25 l0 x5_1).f1))∧w'.cell? ⟨(ad292.add ((x5_1).toNat * 3)).block,(ad292.add ((x5_1).toNat * 3)).off + 2,none⟩ = some (.slice A292_2 ((rd_T25 l0 x5_1).f2).length c292_2)∧w'.cell? (ad293.add ((x5_1).toNat * 3)) = some (.int .i64 ((rd_T25 l1 x5_1).f0))∧w'.cell? ⟨(ad293.add ((x5_1).toNat * 3)).block,(ad293.add ((x5_1).toNat * 3)).off + 1,none⟩ = some (.int .i64 ((rd_T25 l1 x5_1).f1))∧w'.cell? ⟨(ad293.add ((x5_1).toNat * 3)).block,(ad293.add ((x5_1).toNat * 3)).off + 2,none⟩ = some (.slice A293_2 ((rd_T25 l1 x5_1).f2).length c293_2)) (ds:=[]) #[false,false,false,false,false,false,false,false,false,false] (by kernel_rfl) rfl rfl ⟨((HB.out.cell (World.block_lt_of_cell? w _ hw292_0)).trans hw292_0),((HB.out.cell (World.block_lt_of_cell? w _ hw292_1)).trans hw292_1),((HB.out.cell (World.block_lt_of_cell? w _ hw292_2)).trans hw292_2),((HB.out.cell (World.block_lt_of_cell? w _ hw293_0)).trans hw293_0),((HB.out.cell (World.block_lt_of_cell? w _ hw293_1)).trans hw293_1),((HB.out.cell (World.block_lt_of_cell? w _ hw293_2)).trans hw293_2)⟩ (fun hHeld=>?_);refine with_tabW laws_eqSealS.tab6 laws_eqSealS.bits6 (fun HT_ HW_=>?_)
        generalize wr.drew = w9 at HB HR292_2 HR293_2 hx292_0 hx292_1 hx292_2 hx293_0 hx293_1 hx293_2 hHeld ⊢
        refine pure_ (i:=0) (N:=some 17) (v:=?_) (a':=?_) #[true,false,false,false,false,false,false,false,false,false] rfl rfl (any_of HT_.out (by kernel_rfl)) (fun _ _ _ h=>h) (Or.inl ⟨by rfl,?_⟩) ?_ ?_
        rotate_left;·intro w';go_simp;with_reducible rfl
        rotate_left;·simp only [Act.put,List.setIfInBounds_toArray,List.set_cons_zero,List.set_cons_succ,i64_w,i32_w];rfl
        refine pure_ (i:=1) (N:=some 18) (v:=?_) (a':=?_) #[true,true,false,false,false,false,false,false,false,false] rfl rfl (any_of HT_.out (by kernel_rfl)) (fun _ _ _ h=>h) (Or.inl ⟨by rfl,?_⟩) ?_ ?_
        rotate_left;·intro w';go_simp;with_reducible rfl
        rotate_left;·simp only [Act.put,List.setIfInBounds_toArray,List.set_cons_zero,List.set_cons_succ,i64_w,i32_w];rfl
        refine pure_ (i:=2) (N:=some 19) (v:=?_) (a':=?_) #[true,true,true,false,false,false,false,false,false,false] rfl rfl (any_of HT_.out (by kernel_rfl)) (fun _ _ _ h=>h) (Or.inl ⟨by rfl,?_⟩) ?_ ?_
        rotate_left;·intro w';go_simp;with_reducible rfl
        rotate_left;·simp only [Act.put,List.setIfInBounds_toArray,List.set_cons_zero,List.set_cons_succ,i64_w,i32_w];rfl
        refine pure_ (i:=4) (N:=some 21) (v:=?_) (a':=?_) #[true,true,true,false,true,false,false,false,false,false] rfl rfl (any_of HT_.out (by kernel_rfl)) (fun _ _ _ h=>h) (Or.inl ⟨by rfl,?_⟩) ?_ ?_
        rotate_left;·intro w';go_simp;with_reducible rfl
        rotate_left;·simp only [Act.put,List.setIfInBounds_toArray,List.set_cons_zero,List.set_cons_succ,i64_w,i32_w];rfl
        refine pure_ (i:=5) (N:=some 22) (v:=?_) (a':=?_) #[true,true,true,false,true,true,false,false,false,false] rfl rfl (any_of HT_.out (by kernel_rfl)) (fun _ _ _ h=>h) (Or.inl ⟨by rfl,?_⟩) ?_ ?_
        rotate_left;·intro w';go_simp;with_reducible rfl
        rotate_left;·simp only [Act.put,List.setIfInBounds_toArray,List.set_cons_zero,List.set_cons_succ,i64_w,i32_w];rfl
        refine pure_ (i:=6) (N:=some 23) (v:=?_) (a':=?_) #[true,true,true,false,true,true,true,false,false,false] rfl rfl (any_of HT_.out (by kernel_rfl)) (fun _ _ _ h=>h) (Or.inl ⟨by rfl,?_⟩) ?_ ?_
        rotate_left;·intro w';go_simp;with_reducible rfl
        rotate_left;·simp only [Act.put,List.setIfInBounds_toArray,List.set_cons_zero,List.set_cons_succ,i64_w,i32_w];rfl
        refine take_ (i:=3) (N:=some 20) (v:=?_) (a':=?_) #[true,true,true,true,true,true,true,false,false,false] rfl rfl (take_ofW HT_.out HW_.out (by kernel_rfl)) (fun _ _ _ h=>h) (Or.inl ⟨by rfl,?_⟩) hHeld ?_ ?_
        rotate_left;·rintro w' ⟨s0,s1,s2,s3,s4,s5⟩;go_simp;with_reducible rfl
        rotate_left;·simp only [Act.put,List.setIfInBounds_toArray,List.set_cons_zero,List.set_cons_succ,i64_w,i32_w];rfl
        refine take_ (i:=7) (N:=some 24) (v:=?_) (a':=?_) #[true,true,true,true,true,true,true,true,false,false] rfl rfl (take_ofW HT_.out HW_.out (by kernel_rfl)) (fun _ _ _ h=>h) (Or.inl ⟨by rfl,?_⟩) hHeld ?_ ?_
        rotate_left;·rintro w' ⟨s0,s1,s2,s3,s4,s5⟩;go_simp;with_reducible rfl
        rotate_left;·simp only [Act.put,List.setIfInBounds_toArray,List.set_cons_zero,List.set_cons_succ,i64_w,i32_w];rfl
        refine one_ (i:=8) (N:=some 25) #[true,true,true,true,true,true,true,true,true,false] rfl rfl (one_of HT_.out (by kernel_rfl)) (by decide) (fun K hK=>?_)
        refine goes_ Tryd.func22 (by kernel_rfl) rfl #[.agg #[.int .i64 ((rd_T25 l0 x5_1).f0),.int .i64 ((rd_T25 l0 x5_1).f1),.slice A292_2 ((rd_T25 l0 x5_1).f2).length c292_2],.agg #[.int .i64 ((rd_T25 l1 x5_1).f0),.int .i64 ((rd_T25 l1 x5_1).f1),.slice A293_2 ((rd_T25 l1 x5_1).f2).length c293_2]] (by rfl) rfl rfl (by (try simp only [List.map_toArray,List.map_cons,List.map_nil]);first | done | rfl | (simp only [List.length_drop,List.length_take];rfl)) ?_
        with_reducible refine (laws_eqSeal.calls_of k1 (fun j_ hj_=>ih j_ (by first | omega | (have:=HK1.out;omega) | (have:=HK1.out;have:=HK2.out;omega))) ((rd_T25 l0 x5_1).f0) ((rd_T25 l0 x5_1).f1) _ _ ((rd_T25 l0 x5_1).f2) ((rd_T25 l1 x5_1).f0) ((rd_T25 l1 x5_1).f1) _ _ ((rd_T25 l1 x5_1).f2) true _ ?side1 ?side2 ?side3 ?side4 A7.out).mono ?_
        (case side1=>repeat (first | exact (Kd.C_below HR292_2.out HB.out) | (with_reducible refine Kd.C_alloc ?_ _) | (with_reducible refine Kd.C_drewN ?_ _) | (with_reducible refine Kd.C_drew ?_)))
        (case side2=>exact HC292_2.out)
        (case side3=>repeat (first | exact (Kd.C_below HR293_2.out HB.out) | (with_reducible refine Kd.C_alloc ?_ _) | (with_reducible refine Kd.C_drewN ?_ _) | (with_reducible refine Kd.C_drew ?_)))
        (case side4=>exact HC293_2.out)
        rintro e w10 ⟨rfl,hb⟩
        refine ⟨_,rfl,?_⟩
        have n0_:=Aside0.mk (below_step (by repeat (first | (with_reducible first | exact HB.out | apply below_alloc | apply pw_below_drewN | apply below_drew1) | exact HB.out)) hb)
        clear HB
        have HB:=n0_
        clear n0_
        (try clear hb)
        (try clear hb2)
        (try clear hk)
        (try clear hi)
        refine hK.out _ _ ⟨((HB.out.cell (World.block_lt_of_cell? w _ hw292_0)).trans hw292_0),((HB.out.cell (World.block_lt_of_cell? w _ hw292_1)).trans hw292_1),((HB.out.cell (World.block_lt_of_cell? w _ hw292_2)).trans hw292_2),((HB.out.cell (World.block_lt_of_cell? w _ hw293_0)).trans hw293_0),((HB.out.cell (World.block_lt_of_cell? w _ hw293_1)).trans hw293_1),((HB.out.cell (World.block_lt_of_cell? w _ hw293_2)).trans hw293_2)⟩ (fun hHeld=>?_)
        clear hK K
        refine norm_ (a':=?_) ?_ ?_
        rotate_left
        ·show Act.put _ (some 25) _ = _
         simp only [Act.put,List.setIfInBounds_toArray,List.set_cons_zero,List.set_cons_succ,i64_w,i32_w]
         rfl
        refine pure_ (i:=9) (N:=some 26) (v:=?_) (a':=?_) #[true,true,true,true,true,true,true,true,true,true] rfl rfl (any_of HT_.out (by kernel_rfl)) (fun _ _ _ h=>h) (Or.inl ⟨by rfl,?_⟩) ?_ ?_
        rotate_left;·intro w';go_simp;with_reducible rfl
        rotate_left;·simp only [Act.put,List.setIfInBounds_toArray,List.set_cons_zero,List.set_cons_succ,i64_w,i32_w];rfl
        refine done_ (done_of HT_.out (by kernel_rfl)) ?_
        try go_wp2
        go_roundg k1
        case measure=>have:=HK1.out;omega
        case rel=>exact ⟨(wrap64 (x5_1 + 1)),(by first | rfl | (simp;done) | (simp [*];done)),H',⟨by have:=HK1.out;omega⟩,⟨by repeat (first | (with_reducible first | exact HB.out | apply below_alloc | apply pw_below_drewN | apply below_drew1) | exact HB.out)⟩⟩
       ·replace c8:=Bool.eq_false_iff.mpr c8
        subst c8
        have H1:(some false) = some r:=by rw [if_neg (show ¬ (false = true) by decide)] at H;exact H
        clear H
        have H:=H1
        clear H1
        obtain rfl:=Option.some.inj H
        try go_wp2
        have n0_:=Aside0.mk (below_drew1 HB.out)
        clear HB
        have HB:=n0_
        clear n0_
        have p292:0 ≤ (x5_1:Int):=of_decide_eq_true (by first | (with_reducible assumption) | assumption)
        have q292:x5_1 < (l0.length:Int):=of_decide_eq_true (by first | (with_reducible assumption) | assumption)
        obtain ⟨ad292,A292_2,c292_2,e292,hx292_0,hx292_1,hx292_2,hl292_2,hi292_2⟩:=at_T25 HR0.out x5_1 p292 q292
        have hw292_2:=hx292_2
        have hw292_1:=hx292_1
        have hw292_0:=hx292_0
        cases e292
        replace hx292_0:=(HB.out.cell (World.block_lt_of_cell? w _ hx292_0)).trans hx292_0
        replace hx292_1:=(HB.out.cell (World.block_lt_of_cell? w _ hx292_1)).trans hx292_1
        replace hx292_2:=(HB.out.cell (World.block_lt_of_cell? w _ hx292_2)).trans hx292_2
        have HR292_2:=Aside0.mk hi292_2
        have HC292_2:=Aside0.mk hl292_2
        clear hi292_2 hl292_2
        replace p292:=eq_true p292
        replace q292:=eq_true q292
        have p293:0 ≤ (x5_1:Int):=of_decide_eq_true (by first | (with_reducible assumption) | assumption)
        have q293:x5_1 < (l1.length:Int):=of_decide_eq_true (by first | (with_reducible assumption) | assumption)
        obtain ⟨ad293,A293_2,c293_2,e293,hx293_0,hx293_1,hx293_2,hl293_2,hi293_2⟩:=at_T25 HR1.out x5_1 p293 q293
        have hw293_2:=hx293_2
        have hw293_1:=hx293_1
        have hw293_0:=hx293_0
        cases e293
        replace hx293_0:=(HB.out.cell (World.block_lt_of_cell? w _ hx293_0)).trans hx293_0
        replace hx293_1:=(HB.out.cell (World.block_lt_of_cell? w _ hx293_1)).trans hx293_1
        replace hx293_2:=(HB.out.cell (World.block_lt_of_cell? w _ hx293_2)).trans hx293_2
        have HR293_2:=Aside0.mk hi293_2
        have HC293_2:=Aside0.mk hl293_2
        clear hi293_2 hl293_2
        replace p293:=eq_true p293
        replace q293:=eq_true q293
        refine start_ (n:=10) (S:=fun w'=>w'.cell? (ad292.add ((x5_1).toNat * 3)) = some (.int .i64 ((rd_T25 l0 x5_1).f0))∧w'.cell? ⟨(ad292.add ((x5_1).toNat * 3)).block,(ad292.add ((x5_1).toNat * 3)).off + 1,none⟩ = some (.int .i64 ((rd_T25 l0 x5_1).f1))∧w'.cell? ⟨(ad292.add ((x5_1).toNat * 3)).block,(ad292.add ((x5_1).toNat * 3)).off + 2,none⟩ = some (.slice A292_2 ((rd_T25 l0 x5_1).f2).length c292_2)∧w'.cell? (ad293.add ((x5_1).toNat * 3)) = some (.int .i64 ((rd_T25 l1 x5_1).f0))∧w'.cell? ⟨(ad293.add ((x5_1).toNat * 3)).block,(ad293.add ((x5_1).toNat * 3)).off + 1,none⟩ = some (.int .i64 ((rd_T25 l1 x5_1).f1))∧w'.cell? ⟨(ad293.add ((x5_1).toNat * 3)).block,(ad293.add ((x5_1).toNat * 3)).off + 2,none⟩ = some (.slice A293_2 ((rd_T25 l1 x5_1).f2).length c293_2)) (ds:=[]) #[false,false,false,false,false,false,false,false,false,false] (by kernel_rfl) rfl rfl ⟨((HB.out.cell (World.block_lt_of_cell? w _ hw292_0)).trans hw292_0),((HB.out.cell (World.block_lt_of_cell? w _ hw292_1)).trans hw292_1),((HB.out.cell (World.block_lt_of_cell? w _ hw292_2)).trans hw292_2),((HB.out.cell (World.block_lt_of_cell? w _ hw293_0)).trans hw293_0),((HB.out.cell (World.block_lt_of_cell? w _ hw293_1)).trans hw293_1),((HB.out.cell (World.block_lt_of_cell? w _ hw293_2)).trans hw293_2)⟩ (fun hHeld=>?_);refine with_tabW laws_eqSealS.tab6 laws_eqSealS.bits6 (fun HT_ HW_=>?_)
        generalize wr.drew = w11 at HB HR292_2 HR293_2 hx292_0 hx292_1 hx292_2 hx293_0 hx293_1 hx293_2 hHeld ⊢
        refine pure_ (i:=0) (N:=some 17) (v:=?_) (a':=?_) #[true,false,false,false,false,false,false,false,false,false] rfl rfl (any_of HT_.out (by kernel_rfl)) (fun _ _ _ h=>h) (Or.inl ⟨by rfl,?_⟩) ?_ ?_
        rotate_left;·intro w';go_simp;with_reducible rfl
        rotate_left;·simp only [Act.put,List.setIfInBounds_toArray,List.set_cons_zero,List.set_cons_succ,i64_w,i32_w];rfl
        refine pure_ (i:=1) (N:=some 18) (v:=?_) (a':=?_) #[true,true,false,false,false,false,false,false,false,false] rfl rfl (any_of HT_.out (by kernel_rfl)) (fun _ _ _ h=>h) (Or.inl ⟨by rfl,?_⟩) ?_ ?_
        rotate_left;·intro w';go_simp;with_reducible rfl
        rotate_left;·simp only [Act.put,List.setIfInBounds_toArray,List.set_cons_zero,List.set_cons_succ,i64_w,i32_w];rfl
        refine pure_ (i:=2) (N:=some 19) (v:=?_) (a':=?_) #[true,true,true,false,false,false,false,false,false,false] rfl rfl (any_of HT_.out (by kernel_rfl)) (fun _ _ _ h=>h) (Or.inl ⟨by rfl,?_⟩) ?_ ?_
        rotate_left;·intro w';go_simp;with_reducible rfl
        rotate_left;·simp only [Act.put,List.setIfInBounds_toArray,List.set_cons_zero,List.set_cons_succ,i64_w,i32_w];rfl
        refine pure_ (i:=4) (N:=some 21) (v:=?_) (a':=?_) #[true,true,true,false,true,false,false,false,false,false] rfl rfl (any_of HT_.out (by kernel_rfl)) (fun _ _ _ h=>h) (Or.inl ⟨by rfl,?_⟩) ?_ ?_
        rotate_left;·intro w';go_simp;with_reducible rfl
        rotate_left;·simp only [Act.put,List.setIfInBounds_toArray,List.set_cons_zero,List.set_cons_succ,i64_w,i32_w];rfl
        refine pure_ (i:=5) (N:=some 22) (v:=?_) (a':=?_) #[true,true,true,false,true,true,false,false,false,false] rfl rfl (any_of HT_.out (by kernel_rfl)) (fun _ _ _ h=>h) (Or.inl ⟨by rfl,?_⟩) ?_ ?_
        rotate_left;·intro w';go_simp;with_reducible rfl
        rotate_left;·simp only [Act.put,List.setIfInBounds_toArray,List.set_cons_zero,List.set_cons_succ,i64_w,i32_w];rfl
        refine pure_ (i:=6) (N:=some 23) (v:=?_) (a':=?_) #[true,true,true,false,true,true,true,false,false,false] rfl rfl (any_of HT_.out (by kernel_rfl)) (fun _ _ _ h=>h) (Or.inl ⟨by rfl,?_⟩) ?_ ?_
        rotate_left;·intro w';go_simp;with_reducible rfl
        rotate_left;·simp only [Act.put,List.setIfInBounds_toArray,List.set_cons_zero,List.set_cons_succ,i64_w,i32_w];rfl
        refine take_ (i:=3) (N:=some 20) (v:=?_) (a':=?_) #[true,true,true,true,true,true,true,false,false,false] rfl rfl (take_ofW HT_.out HW_.out (by kernel_rfl)) (fun _ _ _ h=>h) (Or.inl ⟨by rfl,?_⟩) hHeld ?_ ?_
        rotate_left;·rintro w' ⟨s0,s1,s2,s3,s4,s5⟩;go_simp;with_reducible rfl
        rotate_left;·simp only [Act.put,List.setIfInBounds_toArray,List.set_cons_zero,List.set_cons_succ,i64_w,i32_w];rfl
        refine take_ (i:=7) (N:=some 24) (v:=?_) (a':=?_) #[true,true,true,true,true,true,true,true,false,false] rfl rfl (take_ofW HT_.out HW_.out (by kernel_rfl)) (fun _ _ _ h=>h) (Or.inl ⟨by rfl,?_⟩) hHeld ?_ ?_
        rotate_left;·rintro w' ⟨s0,s1,s2,s3,s4,s5⟩;go_simp;with_reducible rfl
        rotate_left;·simp only [Act.put,List.setIfInBounds_toArray,List.set_cons_zero,List.set_cons_succ,i64_w,i32_w];rfl
        refine one_ (i:=8) (N:=some 25) #[true,true,true,true,true,true,true,true,true,false] rfl rfl (one_of HT_.out (by kernel_rfl)) (by decide) (fun K hK=>?_)
        refine goes_ Tryd.func22 (by kernel_rfl) rfl #[.agg #[.int .i64 ((rd_T25 l0 x5_1).f0),.int .i64 ((rd_T25 l0 x5_1).f1),.slice A292_2 ((rd_T25 l0 x5_1).f2).length c292_2],.agg #[.int .i64 ((rd_T25 l1 x5_1).f0),.int .i64 ((rd_T25 l1 x5_1).f1),.slice A293_2 ((rd_T25 l1 x5_1).f2).length c293_2]] (by rfl) rfl rfl (by (try simp only [List.map_toArray,List.map_cons,List.map_nil]);first | done | rfl | (simp only [List.length_drop,List.length_take];rfl)) ?_
        with_reducible refine (laws_eqSeal.calls_of k1 (fun j_ hj_=>ih j_ (by first | omega | (have:=HK1.out;omega) | (have:=HK1.out;have:=HK2.out;omega))) ((rd_T25 l0 x5_1).f0) ((rd_T25 l0 x5_1).f1) _ _ ((rd_T25 l0 x5_1).f2) ((rd_T25 l1 x5_1).f0) ((rd_T25 l1 x5_1).f1) _ _ ((rd_T25 l1 x5_1).f2) false _ ?side1 ?side2 ?side3 ?side4 A7.out).mono ?_
        (case side1=>repeat (first | exact (Kd.C_below HR292_2.out HB.out) | (with_reducible refine Kd.C_alloc ?_ _) | (with_reducible refine Kd.C_drewN ?_ _) | (with_reducible refine Kd.C_drew ?_)))
        (case side2=>exact HC292_2.out)
        (case side3=>repeat (first | exact (Kd.C_below HR293_2.out HB.out) | (with_reducible refine Kd.C_alloc ?_ _) | (with_reducible refine Kd.C_drewN ?_ _) | (with_reducible refine Kd.C_drew ?_)))
        (case side4=>exact HC293_2.out)
        rintro e w12 ⟨rfl,hb⟩
        refine ⟨_,rfl,?_⟩
        have n0_:=Aside0.mk (below_step (by repeat (first | (with_reducible first | exact HB.out | apply below_alloc | apply pw_below_drewN | apply below_drew1) | exact HB.out)) hb)
        clear HB
        have HB:=n0_
        clear n0_
        (try clear hb)
        (try clear hb2)
        (try clear hk)
        (try clear hi)
        refine hK.out _ _ ⟨((HB.out.cell (World.block_lt_of_cell? w _ hw292_0)).trans hw292_0),((HB.out.cell (World.block_lt_of_cell? w _ hw292_1)).trans hw292_1),((HB.out.cell (World.block_lt_of_cell? w _ hw292_2)).trans hw292_2),((HB.out.cell (World.block_lt_of_cell? w _ hw293_0)).trans hw293_0),((HB.out.cell (World.block_lt_of_cell? w _ hw293_1)).trans hw293_1),((HB.out.cell (World.block_lt_of_cell? w _ hw293_2)).trans hw293_2)⟩ (fun hHeld=>?_)
        clear hK K
        refine norm_ (a':=?_) ?_ ?_
        rotate_left
        ·show Act.put _ (some 25) _ = _
         simp only [Act.put,List.setIfInBounds_toArray,List.set_cons_zero,List.set_cons_succ,i64_w,i32_w]
         rfl
        refine pure_ (i:=9) (N:=some 26) (v:=?_) (a':=?_) #[true,true,true,true,true,true,true,true,true,true] rfl rfl (any_of HT_.out (by kernel_rfl)) (fun _ _ _ h=>h) (Or.inl ⟨by rfl,?_⟩) ?_ ?_
        rotate_left;·intro w';go_simp;with_reducible rfl
        rotate_left;·simp only [Act.put,List.setIfInBounds_toArray,List.set_cons_zero,List.set_cons_succ,i64_w,i32_w];rfl
        refine done_ (done_of HT_.out (by kernel_rfl)) ?_
        try go_wp2
        go_ret
        exact ⟨by first | rfl | (simp [errW_none,errW_some] <;> rfl) | (simp [*,errW_none,errW_some] <;> rfl),by repeat (first | (with_reducible first | exact HB.out | apply below_alloc | apply pw_below_drewN | apply below_drew1) | exact HB.out)⟩
      ·rw [if_neg c6] at H
       exact absurd H (by simp)
     ·rw [if_neg c5] at H
      exact absurd H (by simp)
    ·rw [if_neg c4] at H
     have c4b0:decide (x5_1 < (l0.length:Int)) = false:=decide_eq_false c4
     clear c4
     obtain rfl:=Option.some.inj H
     go_wp2
     go_ret
     exact ⟨by first | rfl | (simp [errW_none,errW_some] <;> rfl) | (simp [*,errW_none,errW_some] <;> rfl),by repeat (first | (with_reducible first | exact HB.out | apply below_alloc | apply pw_below_drewN | apply below_drew1) | exact HB.out)⟩
 ·rw [if_neg c3] at H
  have c3b0:((l0.length:Int) == (l1.length:Int)) = false:=beq_eq_false_iff_ne.mpr c3
  have c3b1:((l0.length:Int) != (l1.length:Int)) = true:=bne_iff_ne.mpr c3
  have c3b2:(l0.length == l1.length) = false:=by first | simpa using c3 | (simp at c3 ⊢;omega)
  obtain rfl:=Option.some.inj H
  go_enter Tryd.func29,Tryd.ntmps29
  go_wp2
  go_ret
  exact ⟨by first | rfl | (simp [errW_none,errW_some] <;> rfl) | (simp [*,errW_none,errW_some] <;> rfl),by repeat (first | (with_reducible first | exact HB.out | apply below_alloc | apply pw_below_drewN | apply below_drew1) | exact HB.out)⟩
theorem laws_eqSeal.calls (k:Nat) (a0_0:Int) (a0_1:Int) (A0_2:Option Addr) (c0_2:Nat) (l0_2:List (S25)) (a1_0:Int) (a1_1:Int) (A1_2:Option Addr) (c1_2:Nat) (l1_2:List (S25)) (r:Bool) (w:World) (hr0_2:Kd.C k25 w A0_2 l0_2.length l0_2) (hc0_2:l0_2.length ≤ c0_2) (hr1_2:Kd.C k25 w A1_2 l1_2.length l1_2) (hc1_2:l1_2.length ≤ c1_2) (h:laws_eqSeal.f k a0_0 a0_1 l0_2 a1_0 a1_1 l1_2 = some r) :
  Calls Tryd.prog 22 #[.agg #[.int .i64 a0_0,.int .i64 a0_1,.slice A0_2 l0_2.length c0_2],.agg #[.int .i64 a1_0,.int .i64 a1_1,.slice A1_2 l1_2.length c1_2]] w fun e w'=>e = .returned (.bool r)∧Below w.heap.size w w':=laws_eqSeal.calls_of k (fun j_ _=>laws_eqSealS.calls j_) a0_0 a0_1 A0_2 c0_2 l0_2 a1_0 a1_1 A1_2 c1_2 l1_2 r w hr0_2 hc0_2 hr1_2 hc1_2 h
mutual
def spec_l20Under.l0:Nat → Int → Int → Int → List (S25) → Int → Int → List (S25) → Option (Bool)
 | 0,_,_,_,_,_,_,_=>none
 | k + 1,x5,x320000,x320001,x320002,x321000,x321001,x321002=>if x5 < (x321002.length:Int) then (if 0 ≤ x5 then ((spec_l20Under.f k x320000 x320001 x320002 ((rd_T25 x321002 x5).f0) ((rd_T25 x321002 x5).f1) ((rd_T25 x321002 x5).f2)).bind fun t322=>(if t322 = true then (some true) else (spec_l20Under.l0 k (wrap64 (x5 + 1)) x320000 x320001 x320002 x321000 x321001 x321002))) else (none)) else ((spec_l20Text.f k x320000 x320001 x320002).bind fun t323=>((spec_l20Text.f k x321000 x321001 x321002).bind fun t324=>(some (t323.toList == t324.toList))))
def spec_l20Under.f:Nat → Int → Int → List (S25) → Int → Int → List (S25) → Option (Bool)
 | 0,_,_,_,_,_,_=>none
 | k + 1,a0_0,a0_1,l0_2,a1_0,a1_1,l1_2=>spec_l20Under.l0 k 0 a0_0 a0_1 l0_2 a1_0 a1_1 l1_2
end
theorem spec_l20Under.mono_l:∀ k,(∀ y0 y1 y2 y3 y4 y5,LeO (spec_l20Under.f k y0 y1 y2 y3 y4 y5) (spec_l20Under.f (k + 1) y0 y1 y2 y3 y4 y5))∧(∀ y0 y1 y2 y3 y4 y5 y6,LeO (spec_l20Under.l0 k y0 y1 y2 y3 y4 y5 y6) (spec_l20Under.l0 (k + 1) y0 y1 y2 y3 y4 y5 y6))
 | 0=>⟨fun _ _ _ _ _ _ r h=>by simp [spec_l20Under.f] at h,fun _ _ _ _ _ _ _ r h=>by simp [spec_l20Under.l0] at h⟩
 | k + 1=>by
  obtain ⟨ih0,ih1⟩:=spec_l20Under.mono_l k
  refine ⟨?_,?_⟩
  ·intro y0 y1 y2 y3 y4 y5
   unfold spec_l20Under.f
   repeat' first
   | (with_reducible exact ih0 _ _ _ _ _ _)
   | (with_reducible exact ih1 _ _ _ _ _ _ _)
   | (with_reducible exact spec_l20Text.mono _ _ _ _)
   | (with_reducible exact LeO.refl _)
   | (with_reducible exact LeO.none _)
   | (with_reducible refine LeO.ite ?_ ?_)
   | (with_reducible refine LeO.bind ?_ (fun _=>?_))
   | exact ih0 _ _ _ _ _ _
   | exact ih1 _ _ _ _ _ _ _
   | exact spec_l20Text.mono _ _ _ _
   | exact LeO.none _
   | refine LeO.ite ?_ ?_
   | refine LeO.bind ?_ (fun _=>?_)
  ·intro y0 y1 y2 y3 y4 y5 y6
   unfold spec_l20Under.l0
   repeat' first
   | (with_reducible exact ih0 _ _ _ _ _ _)
   | (with_reducible exact ih1 _ _ _ _ _ _ _)
   | (with_reducible exact spec_l20Text.mono _ _ _ _)
   | (with_reducible exact LeO.refl _)
   | (with_reducible exact LeO.none _)
   | (with_reducible refine LeO.ite ?_ ?_)
   | (with_reducible refine LeO.bind ?_ (fun _=>?_))
   | exact ih0 _ _ _ _ _ _
   | exact ih1 _ _ _ _ _ _ _
   | exact spec_l20Text.mono _ _ _ _
   | exact LeO.none _
   | refine LeO.ite ?_ ?_
   | refine LeO.bind ?_ (fun _=>?_)
theorem spec_l20Under.mono:∀ a0 a1 a2 a3 a4 a5 k,LeO (spec_l20Under.f k a0 a1 a2 a3 a4 a5) (spec_l20Under.f (k + 1) a0 a1 a2 a3 a4 a5):=by
 intro a0 a1 a2 a3 a4 a5 k
 obtain ⟨ih0,ih1⟩:=spec_l20Under.mono_l k
 exact ih0 a0 a1 a2 a3 a4 a5
set_option maxHeartbeats 8000000 in
set_option maxRecDepth 100000 in
theorem spec_l20Under.calls (k:Nat):∀ (a0_0:Int) (a0_1:Int) (A0_2:Option Addr) (c0_2:Nat) (l0_2:List (S25)) (a1_0:Int) (a1_1:Int) (A1_2:Option Addr) (c1_2:Nat) (l1_2:List (S25)) (r:Bool) (w:World) (hr0_2:Kd.C k25 w A0_2 l0_2.length l0_2) (hc0_2:l0_2.length ≤ c0_2) (hr1_2:Kd.C k25 w A1_2 l1_2.length l1_2) (hc1_2:l1_2.length ≤ c1_2) (h:spec_l20Under.f k a0_0 a0_1 l0_2 a1_0 a1_1 l1_2 = some r),
  Calls Tryd.prog 49 #[.agg #[.int .i64 a0_0,.int .i64 a0_1,.slice A0_2 l0_2.length c0_2],.agg #[.int .i64 a1_0,.int .i64 a1_1,.slice A1_2 l1_2.length c1_2]] w fun e w'=>e = .returned (.bool r)∧Below w.heap.size w w':=by
 induction k using Nat.strongRecOn with
 | _ k ih =>
 intro a0_0 a0_1 A0_2 c0_2 l0_2 a1_0 a1_1 A1_2 c1_2 l1_2 r w hr0_2 hc0_2 hr1_2 hc1_2 h
 cases k with
 | zero=>exact absurd h (by simp [spec_l20Under.f])
 | succ k =>
 simp only [spec_l20Under.f] at h
 have hu25:=Tryd.underlying25
 have HR0_2:=Aside0.mk hr0_2
 have HC0_2:=Aside0.mk hc0_2
 clear hr0_2 hc0_2
 have HR1_2:=Aside0.mk hr1_2
 have HC1_2:=Aside0.mk hc1_2
 clear hr1_2 hc1_2
 have HB:=Aside0.mk (Below.refl w.heap.size w)
 have H:(spec_l20Under.l0 k 0 a0_0 a0_1 l0_2 a1_0 a1_1 l1_2) = some r:=h
 clear h
 have H':=Aside0.mk H
 clear H
 go_enter Tryd.func49,Tryd.ntmps49
 go_wp2_with (first | ((with_reducible refine gate_dst (N:=2) rfl ?_);refine box_event ?hg (N:=2) ?hd (cs:=#[.int .i64 a0_0,.int .i64 a0_1,.slice A0_2 l0_2.length c0_2]) (t:=25) ?hr ?_;(case hd=>rfl);(case hg=>rfl);(case hr=>first | (go_simp;done) | (go_simp;rfl));intro gb319 hg w3 hbox hb;have n0_:=Aside0.mk (below_step (by repeat (first | (with_reducible first | exact HB.out | apply below_alloc | apply pw_below_drewN | apply below_drew1) | exact HB.out)) hb);have n1_:=Aside0.mk (hbox);have n2_:=Aside0.mk ((by rw [hg];exact (below_size (by repeat (first | (with_reducible first | exact HB.out | apply below_alloc | apply pw_below_drewN | apply below_drew1) | exact HB.out))):w.heap.size ≤ gb319));have n3_:=Aside0.mk ((by rw [hg];exact (below_size (by repeat (first | (with_reducible first | exact HB.out | apply below_alloc | apply pw_below_drewN | apply below_drew1) | exact HB.out))):w.heap.size ≤ gb319));clear HB;have HB:=n0_;have BK319:=n1_;have GW319:=n2_;have GE319:=n3_;clear n0_ n1_ n2_ n3_;clear hb hbox hg) | ((with_reducible refine gate_dst (N:=3) rfl ?_);refine box_event ?hg (N:=3) ?hd (cs:=#[.int .i64 a1_0,.int .i64 a1_1,.slice A1_2 l1_2.length c1_2]) (t:=25) ?hr ?_;(case hd=>rfl);(case hg=>rfl);(case hr=>first | (go_simp;done) | (go_simp;rfl));intro gb320 hg w4 hbox hb;have n0_:=Aside0.mk (blk_below (g:=gb319) (o:=.cells #[.int .i64 a0_0,.int .i64 a0_1,.slice A0_2 l0_2.length c0_2] 25 (0,0)) (by (with_reducible repeat (first | refine blk_drewN ?_ _ | refine blk_drew ?_ | refine blk_alloc ?_ _));exact BK319.out) hb);have n1_:=Aside0.mk (below_step (by repeat (first | (with_reducible first | exact HB.out | apply below_alloc | apply pw_below_drewN | apply below_drew1 | refine below_set ?_ GE319.out) | exact HB.out)) hb);have n2_:=Aside0.mk (hbox);have n3_:=Aside0.mk ((by rw [hg];exact (below_size (by repeat (first | (with_reducible first | exact HB.out | apply below_alloc | apply pw_below_drewN | apply below_drew1 | refine below_set ?_ GE319.out) | exact HB.out))):w.heap.size ≤ gb320));have n4_:=Aside0.mk ((by rw [hg];exact (below_size (by repeat (first | (with_reducible first | exact HB.out | apply below_alloc | apply pw_below_drewN | apply below_drew1 | refine below_set ?_ GE319.out) | exact HB.out))):w.heap.size ≤ gb320));have n5_:=Aside0.mk ((by rw [hg];exact Nat.ne_of_lt (blk_lt (g:=gb319) (o:=.cells #[.int .i64 a0_0,.int .i64 a0_1,.slice A0_2 l0_2.length c0_2] 25 (0,0)) (by (with_reducible repeat (first | refine blk_drewN ?_ _ | refine blk_drew ?_ | refine blk_alloc ?_ _));exact BK319.out)):gb319 ≠ gb320));have n6_:=Aside0.mk ((by rw [hg];exact Nat.ne_of_gt (blk_lt (g:=gb319) (o:=.cells #[.int .i64 a0_0,.int .i64 a0_1,.slice A0_2 l0_2.length c0_2] 25 (0,0)) (by (with_reducible repeat (first | refine blk_drewN ?_ _ | refine blk_drew ?_ | refine blk_alloc ?_ _));exact BK319.out)):gb320 ≠ gb319));clear BK319;clear HB;have BK319:=n0_;have HB:=n1_;have BK320:=n2_;have GW320:=n3_;have GE320:=n4_;have NB319_320:=n5_;have NB320_319:=n6_;clear n0_ n1_ n2_ n3_ n4_ n5_ n6_;clear hb hbox hg))
 go_loopg [5] k (fun kq v5 w'=>∃ (x5_1:Int),v5 = .int .i64 x5_1∧Aside0 (spec_l20Under.l0 kq x5_1 a0_0 a0_1 l0_2 a1_0 a1_1 l1_2 = some r)∧Aside0 (kq ≤ k)∧Aside0 (w'.heap[gb319]? = some (.cells #[.int .i64 a0_0,.int .i64 a0_1,(.slice A0_2 l0_2.length c0_2)] 25 (0,0)))∧Aside0 (w'.heap[gb320]? = some (.cells #[.int .i64 a1_0,.int .i64 a1_1,(.slice A1_2 l1_2.length c1_2)] 25 (0,0)))∧Aside0 (Below w.heap.size w w'))
 case atStart=>exact ⟨(0),(by first | rfl | (simp;done) | (simp [*];done)),H',⟨Nat.le_refl _⟩,⟨by (with_reducible repeat (first | refine blk_drewN ?_ _ | refine blk_drew ?_ | refine blk_alloc ?_ _));exact BK319.out⟩,⟨by (with_reducible repeat (first | refine blk_drewN ?_ _ | refine blk_drew ?_ | refine blk_alloc ?_ _));exact BK320.out⟩,⟨by repeat (first | (with_reducible first | exact HB.out | apply below_alloc | apply pw_below_drewN | apply below_drew1 | refine below_set ?_ GE319.out | refine below_set ?_ GE320.out) | exact HB.out)⟩⟩
 case round =>
  clear H'
  try clear c1
  try clear p2
  try clear c4
  obtain ⟨x5_1,rfl,HA,HK1,BK319,BK320,HB⟩:=hrel
  cases gk with
  | zero=>exact absurd HA.out (by simp [spec_l20Under.l0])
  | succ k1 =>
   have H:=HA.out
   clear HA
   simp only [spec_l20Under.l0] at H
   by_cases c5:x5_1 < (l1_2.length:Int)
   ·rw [if_pos c5] at H
    have c5b0:decide (x5_1 < (l1_2.length:Int)) = true:=decide_eq_true c5
    clear c5
    by_cases c6:0 ≤ x5_1
    ·rw [if_pos c6] at H
     have c6b0:decide (0 ≤ x5_1) = true:=decide_eq_true c6
     clear c6
     replace H:=Option.bind_eq_some_iff.mp H
     obtain ⟨t322,A70,H⟩:=H
     replace H:(if t322 = true then (some true) else (spec_l20Under.l0 k1 (wrap64 (x5_1 + 1)) a0_0 a0_1 l0_2 a1_0 a1_1 l1_2)) = some r:=H
     have A7:=Aside0.mk A70
     clear A70
     by_cases c8:t322 = true
     ·subst c8
      have H1:(some true) = some r:=by rw [if_pos rfl] at H;exact H
      clear H
      have H:=H1
      clear H1
      obtain rfl:=Option.some.inj H
      have hnb9:=NB320_319.out
      have hnc9:=NB319_320.out
      have hcz10_0:wr.cell? ⟨gb320,0,none⟩ = some (.int .i64 a1_0):=(blk_cell BK320.out 0).trans rfl
      have hcz10_1:wr.cell? ⟨gb320,1,none⟩ = some (.int .i64 a1_1):=(blk_cell BK320.out 1).trans rfl
      have hcz10_2:wr.cell? ⟨gb320,2,none⟩ = some (.slice A1_2 l1_2.length c1_2):=(blk_cell BK320.out 2).trans rfl
      have hfz10_0:=blk_frozen BK320.out 0
      have hfz10_1:=blk_frozen BK320.out 1
      have hfz10_2:=blk_frozen BK320.out 2
      try go_wp2
      have n0_:=Aside0.mk (blk_drew BK319.out)
      have n1_:=Aside0.mk (blk_drew BK320.out)
      have n2_:=Aside0.mk (below_drew1 HB.out)
      clear BK319
      clear BK320
      clear HB
      have BK319:=n0_
      have BK320:=n1_
      have HB:=n2_
      clear n0_ n1_ n2_
      have p321:0 ≤ (x5_1:Int):=of_decide_eq_true (by first | (with_reducible assumption) | assumption)
      have q321:x5_1 < (l1_2.length:Int):=of_decide_eq_true (by first | (with_reducible assumption) | assumption)
      obtain ⟨ad321,A321_2,c321_2,e321,hx321_0,hx321_1,hx321_2,hl321_2,hi321_2⟩:=at_T25 HR1_2.out x5_1 p321 q321
      have hw321_2:=hx321_2
      have hw321_1:=hx321_1
      have hw321_0:=hx321_0
      cases e321
      replace hx321_0:=(HB.out.cell (World.block_lt_of_cell? w _ hx321_0)).trans hx321_0
      replace hx321_1:=(HB.out.cell (World.block_lt_of_cell? w _ hx321_1)).trans hx321_1
      replace hx321_2:=(HB.out.cell (World.block_lt_of_cell? w _ hx321_2)).trans hx321_2
      have HR321_2:=Aside0.mk hi321_2
      have HC321_2:=Aside0.mk hl321_2
      clear hi321_2 hl321_2
      replace p321:=eq_true p321
      replace q321:=eq_true q321
      refine start_ (n:=7) (S:=fun w'=>w'.cell? ⟨gb319,0,none⟩ = some (.int .i64 a0_0)∧w'.cell? ⟨gb319,1,none⟩ = some (.int .i64 a0_1)∧w'.cell? ⟨gb319,2,none⟩ = some (.slice A0_2 l0_2.length c0_2)∧w'.cell? ⟨gb320,0,none⟩ = some (.int .i64 a1_0)∧w'.cell? ⟨gb320,1,none⟩ = some (.int .i64 a1_1)∧w'.cell? ⟨gb320,2,none⟩ = some (.slice (some ad321) l1_2.length c1_2)∧w'.cell? (ad321.add ((x5_1).toNat * 3)) = some (.int .i64 ((rd_T25 l1_2 x5_1).f0))∧w'.cell? ⟨(ad321.add ((x5_1).toNat * 3)).block,(ad321.add ((x5_1).toNat * 3)).off + 1,none⟩ = some (.int .i64 ((rd_T25 l1_2 x5_1).f1))∧w'.cell? ⟨(ad321.add ((x5_1).toNat * 3)).block,(ad321.add ((x5_1).toNat * 3)).off + 2,none⟩ = some (.slice A321_2 ((rd_T25 l1_2 x5_1).f2).length c321_2)) (ds:=[]) #[false,false,false,false,false,false,false] (by kernel_rfl) rfl rfl ⟨(blk_cell BK319.out 0).trans rfl,(blk_cell BK319.out 1).trans rfl,(blk_cell BK319.out 2).trans rfl,(blk_cell BK320.out 0).trans rfl,(blk_cell BK320.out 1).trans rfl,(blk_cell BK320.out 2).trans rfl,((HB.out.cell (World.block_lt_of_cell? w _ hw321_0)).trans hw321_0),((HB.out.cell (World.block_lt_of_cell? w _ hw321_1)).trans hw321_1),((HB.out.cell (World.block_lt_of_cell? w _ hw321_2)).trans hw321_2)⟩ (fun hHeld=>?_)
      generalize wr.drew = w11 at BK319 BK320 HB HR321_2 hx321_0 hx321_1 hx321_2 hHeld ⊢
      refine pure_ (i:=1) (N:=some 14) (v:=?_) (a':=?_) #[false,true,false,false,false,false,false] rfl rfl (by kernel_rfl) (fun _ _ _ h=>h) (Or.inl ⟨by rfl,?_⟩) ?_ ?_
      rotate_left;·intro w';go_simp;with_reducible rfl
      rotate_left;·simp only [Act.put,List.setIfInBounds_toArray,List.set_cons_zero,List.set_cons_succ,i64_w,i32_w];rfl
      refine pure_ (i:=3) (N:=some 16) (v:=?_) (a':=?_) #[false,true,false,true,false,false,false] rfl rfl (by kernel_rfl) (fun _ _ _ h=>h) (Or.inl ⟨by rfl,?_⟩) ?_ ?_
      rotate_left;·intro w';go_simp;with_reducible rfl
      rotate_left;·simp only [Act.put,List.setIfInBounds_toArray,List.set_cons_zero,List.set_cons_succ,i64_w,i32_w];rfl
      refine take_ (i:=0) (N:=some 13) (v:=?_) (a':=?_) #[true,true,false,true,false,false,false] rfl rfl (by kernel_rfl) (fun _ _ _ h=>h) (Or.inl ⟨by rfl,?_⟩) hHeld ?_ ?_
      rotate_left;·rintro w' ⟨s0,s1,s2,s3,s4,s5,s6,s7,s8⟩;go_simp;with_reducible rfl
      rotate_left;·simp only [Act.put,List.setIfInBounds_toArray,List.set_cons_zero,List.set_cons_succ,i64_w,i32_w];rfl
      refine take_ (i:=2) (N:=some 15) (v:=?_) (a':=?_) #[true,true,true,true,false,false,false] rfl rfl (by kernel_rfl) (fun _ _ _ h=>h) (Or.inl ⟨by rfl,?_⟩) hHeld ?_ ?_
      rotate_left;·rintro w' ⟨s0,s1,s2,s3,s4,s5,s6,s7,s8⟩;go_simp;with_reducible rfl
      rotate_left;·simp only [Act.put,List.setIfInBounds_toArray,List.set_cons_zero,List.set_cons_succ,i64_w,i32_w];rfl
      refine pure_ (i:=4) (N:=some 17) (v:=?_) (a':=?_) #[true,true,true,true,true,false,false] rfl rfl (by kernel_rfl) (fun _ _ _ h=>h) (Or.inl ⟨by rfl,?_⟩) ?_ ?_
      rotate_left;·intro w';go_simp;with_reducible rfl
      rotate_left;·simp only [Act.put,List.setIfInBounds_toArray,List.set_cons_zero,List.set_cons_succ,i64_w,i32_w];rfl
      refine take_ (i:=5) (N:=some 18) (v:=?_) (a':=?_) #[true,true,true,true,true,true,false] rfl rfl (by kernel_rfl) (fun _ _ _ h=>h) (Or.inl ⟨by rfl,?_⟩) hHeld ?_ ?_
      rotate_left;·rintro w' ⟨s0,s1,s2,s3,s4,s5,s6,s7,s8⟩;go_simp;with_reducible rfl
      rotate_left;·simp only [Act.put,List.setIfInBounds_toArray,List.set_cons_zero,List.set_cons_succ,i64_w,i32_w];rfl
      refine one_ (i:=6) (N:=some 19) #[true,true,true,true,true,true,true] rfl rfl (by kernel_rfl) (by decide) (fun K hK=>?_)
      refine goes_ Tryd.func49 (by kernel_rfl) rfl #[.agg #[.int .i64 a0_0,.int .i64 a0_1,.slice A0_2 l0_2.length c0_2],.agg #[.int .i64 ((rd_T25 l1_2 x5_1).f0),.int .i64 ((rd_T25 l1_2 x5_1).f1),.slice A321_2 ((rd_T25 l1_2 x5_1).f2).length c321_2]] (by rfl) rfl rfl (by (try simp only [List.map_toArray,List.map_cons,List.map_nil]);first | done | rfl | (simp only [List.length_drop,List.length_take];rfl)) ?_
      with_reducible refine (ih k1 (by have:=HK1.out;omega) a0_0 a0_1 _ _ l0_2 ((rd_T25 l1_2 x5_1).f0) ((rd_T25 l1_2 x5_1).f1) _ _ ((rd_T25 l1_2 x5_1).f2) true _ ?side1 ?side2 ?side3 ?side4 A7.out).mono ?_
      (case side1=>repeat (first | exact (Kd.C_below HR0_2.out HB.out) | (with_reducible refine Kd.C_alloc ?_ _) | (with_reducible refine Kd.C_drewN ?_ _) | (with_reducible refine Kd.C_drew ?_)))
      (case side2=>exact HC0_2.out)
      (case side3=>repeat (first | exact (Kd.C_below HR321_2.out HB.out) | (with_reducible refine Kd.C_alloc ?_ _) | (with_reducible refine Kd.C_drewN ?_ _) | (with_reducible refine Kd.C_drew ?_)))
      (case side4=>exact HC321_2.out)
      rintro e w12 ⟨rfl,hb⟩
      refine ⟨_,rfl,?_⟩
      have n0_:=Aside0.mk (blk_below (g:=gb319) (o:=.cells #[.int .i64 a0_0,.int .i64 a0_1,.slice A0_2 l0_2.length c0_2] 25 (0,0)) (by (with_reducible repeat (first | refine blk_drewN ?_ _ | refine blk_drew ?_ | refine blk_alloc ?_ _));exact BK319.out) hb)
      have n1_:=Aside0.mk (blk_below (g:=gb320) (o:=.cells #[.int .i64 a1_0,.int .i64 a1_1,.slice (some ad321) l1_2.length c1_2] 25 (0,0)) (by (with_reducible repeat (first | refine blk_drewN ?_ _ | refine blk_drew ?_ | refine blk_alloc ?_ _));exact BK320.out) hb)
      have n2_:=Aside0.mk (below_step (by repeat (first | (with_reducible first | exact HB.out | apply below_alloc | apply pw_below_drewN | apply below_drew1 | refine below_set ?_ GE319.out | refine below_set ?_ GE320.out) | exact HB.out)) hb)
      clear BK319
      clear BK320
      clear HB
      have BK319:=n0_
      have BK320:=n1_
      have HB:=n2_
      clear n0_ n1_ n2_
      (try clear hb)
      (try clear hb2)
      (try clear hk)
      (try clear hi)
      refine hK.out _ _ ⟨(blk_cell BK319.out 0).trans rfl,(blk_cell BK319.out 1).trans rfl,(blk_cell BK319.out 2).trans rfl,(blk_cell BK320.out 0).trans rfl,(blk_cell BK320.out 1).trans rfl,(blk_cell BK320.out 2).trans rfl,((HB.out.cell (World.block_lt_of_cell? w _ hw321_0)).trans hw321_0),((HB.out.cell (World.block_lt_of_cell? w _ hw321_1)).trans hw321_1),((HB.out.cell (World.block_lt_of_cell? w _ hw321_2)).trans hw321_2)⟩ (fun hHeld=>?_)
      clear hK K
      refine norm_ (a':=?_) ?_ ?_
      rotate_left
      ·show Act.put _ (some 19) _ = _
       simp only [Act.put,List.setIfInBounds_toArray,List.set_cons_zero,List.set_cons_succ,i64_w,i32_w]
       rfl
      refine done_ (by kernel_rfl) ?_
      try go_wp2
      go_ret
      exact ⟨by first | rfl | (simp [errW_none,errW_some] <;> rfl) | (simp [*,errW_none,errW_some] <;> rfl),by repeat (first | (with_reducible first | exact HB.out | apply below_alloc | apply pw_below_drewN | apply below_drew1 | refine below_set ?_ GE319.out | refine below_set ?_ GE320.out) | exact HB.out)⟩
     ·replace c8:=Bool.eq_false_iff.mpr c8
      subst c8
      have H1:(spec_l20Under.l0 k1 (wrap64 (x5_1 + 1)) a0_0 a0_1 l0_2 a1_0 a1_1 l1_2) = some r:=by rw [if_neg (show ¬ (false = true) by decide)] at H;exact H
      clear H
      have H:=H1
      clear H1
      have H':=Aside0.mk H
      clear H
      have hnb13:=NB320_319.out
      have hnc13:=NB319_320.out
      have hcz14_0:wr.cell? ⟨gb320,0,none⟩ = some (.int .i64 a1_0):=(blk_cell BK320.out 0).trans rfl
      have hcz14_1:wr.cell? ⟨gb320,1,none⟩ = some (.int .i64 a1_1):=(blk_cell BK320.out 1).trans rfl
      have hcz14_2:wr.cell? ⟨gb320,2,none⟩ = some (.slice A1_2 l1_2.length c1_2):=(blk_cell BK320.out 2).trans rfl
      have hfz14_0:=blk_frozen BK320.out 0
      have hfz14_1:=blk_frozen BK320.out 1
      have hfz14_2:=blk_frozen BK320.out 2
      try go_wp2
      have n0_:=Aside0.mk (blk_drew BK319.out)
      have n1_:=Aside0.mk (blk_drew BK320.out)
      have n2_:=Aside0.mk (below_drew1 HB.out)
      clear BK319
      clear BK320
      clear HB
      have BK319:=n0_
      have BK320:=n1_
      have HB:=n2_
      clear n0_ n1_ n2_
      have p321:0 ≤ (x5_1:Int):=of_decide_eq_true (by first | (with_reducible assumption) | assumption)
      have q321:x5_1 < (l1_2.length:Int):=of_decide_eq_true (by first | (with_reducible assumption) | assumption)
      obtain ⟨ad321,A321_2,c321_2,e321,hx321_0,hx321_1,hx321_2,hl321_2,hi321_2⟩:=at_T25 HR1_2.out x5_1 p321 q321
      have hw321_2:=hx321_2
      have hw321_1:=hx321_1
      have hw321_0:=hx321_0
      cases e321
      replace hx321_0:=(HB.out.cell (World.block_lt_of_cell? w _ hx321_0)).trans hx321_0
      replace hx321_1:=(HB.out.cell (World.block_lt_of_cell? w _ hx321_1)).trans hx321_1
      replace hx321_2:=(HB.out.cell (World.block_lt_of_cell? w _ hx321_2)).trans hx321_2
      have HR321_2:=Aside0.mk hi321_2
      have HC321_2:=Aside0.mk hl321_2
      clear hi321_2 hl321_2
      replace p321:=eq_true p321
      replace q321:=eq_true q321
      refine start_ (n:=7) (S:=fun w'=>w'.cell? ⟨gb319,0,none⟩ = some (.int .i64 a0_0)∧w'.cell? ⟨gb319,1,none⟩ = some (.int .i64 a0_1)∧w'.cell? ⟨gb319,2,none⟩ = some (.slice A0_2 l0_2.length c0_2)∧w'.cell? ⟨gb320,0,none⟩ = some (.int .i64 a1_0)∧w'.cell? ⟨gb320,1,none⟩ = some (.int .i64 a1_1)∧w'.cell? ⟨gb320,2,none⟩ = some (.slice (some ad321) l1_2.length c1_2)∧w'.cell? (ad321.add ((x5_1).toNat * 3)) = some (.int .i64 ((rd_T25 l1_2 x5_1).f0))∧w'.cell? ⟨(ad321.add ((x5_1).toNat * 3)).block,(ad321.add ((x5_1).toNat * 3)).off + 1,none⟩ = some (.int .i64 ((rd_T25 l1_2 x5_1).f1))∧w'.cell? ⟨(ad321.add ((x5_1).toNat * 3)).block,(ad321.add ((x5_1).toNat * 3)).off + 2,none⟩ = some (.slice A321_2 ((rd_T25 l1_2 x5_1).f2).length c321_2)) (ds:=[]) #[false,false,false,false,false,false,false] (by kernel_rfl) rfl rfl ⟨(blk_cell BK319.out 0).trans rfl,(blk_cell BK319.out 1).trans rfl,(blk_cell BK319.out 2).trans rfl,(blk_cell BK320.out 0).trans rfl,(blk_cell BK320.out 1).trans rfl,(blk_cell BK320.out 2).trans rfl,((HB.out.cell (World.block_lt_of_cell? w _ hw321_0)).trans hw321_0),((HB.out.cell (World.block_lt_of_cell? w _ hw321_1)).trans hw321_1),((HB.out.cell (World.block_lt_of_cell? w _ hw321_2)).trans hw321_2)⟩ (fun hHeld=>?_)
      generalize wr.drew = w15 at BK319 BK320 HB HR321_2 hx321_0 hx321_1 hx321_2 hHeld ⊢
      refine pure_ (i:=1) (N:=some 14) (v:=?_) (a':=?_) #[false,true,false,false,false,false,false] rfl rfl (by kernel_rfl) (fun _ _ _ h=>h) (Or.inl ⟨by rfl,?_⟩) ?_ ?_
      rotate_left;·intro w';go_simp;with_reducible rfl
      rotate_left;·simp only [Act.put,List.setIfInBounds_toArray,List.set_cons_zero,List.set_cons_succ,i64_w,i32_w];rfl
      refine pure_ (i:=3) (N:=some 16) (v:=?_) (a':=?_) #[false,true,false,true,false,false,false] rfl rfl (by kernel_rfl) (fun _ _ _ h=>h) (Or.inl ⟨by rfl,?_⟩) ?_ ?_
      rotate_left;·intro w';go_simp;with_reducible rfl
      rotate_left;·simp only [Act.put,List.setIfInBounds_toArray,List.set_cons_zero,List.set_cons_succ,i64_w,i32_w];rfl
      refine take_ (i:=0) (N:=some 13) (v:=?_) (a':=?_) #[true,true,false,true,false,false,false] rfl rfl (by kernel_rfl) (fun _ _ _ h=>h) (Or.inl ⟨by rfl,?_⟩) hHeld ?_ ?_
      rotate_left;·rintro w' ⟨s0,s1,s2,s3,s4,s5,s6,s7,s8⟩;go_simp;with_reducible rfl
      rotate_left;·simp only [Act.put,List.setIfInBounds_toArray,List.set_cons_zero,List.set_cons_succ,i64_w,i32_w];rfl
      refine take_ (i:=2) (N:=some 15) (v:=?_) (a':=?_) #[true,true,true,true,false,false,false] rfl rfl (by kernel_rfl) (fun _ _ _ h=>h) (Or.inl ⟨by rfl,?_⟩) hHeld ?_ ?_
      rotate_left;·rintro w' ⟨s0,s1,s2,s3,s4,s5,s6,s7,s8⟩;go_simp;with_reducible rfl
      rotate_left;·simp only [Act.put,List.setIfInBounds_toArray,List.set_cons_zero,List.set_cons_succ,i64_w,i32_w];rfl
      refine pure_ (i:=4) (N:=some 17) (v:=?_) (a':=?_) #[true,true,true,true,true,false,false] rfl rfl (by kernel_rfl) (fun _ _ _ h=>h) (Or.inl ⟨by rfl,?_⟩) ?_ ?_
      rotate_left;·intro w';go_simp;with_reducible rfl
      rotate_left;·simp only [Act.put,List.setIfInBounds_toArray,List.set_cons_zero,List.set_cons_succ,i64_w,i32_w];rfl
      refine take_ (i:=5) (N:=some 18) (v:=?_) (a':=?_) #[true,true,true,true,true,true,false] rfl rfl (by kernel_rfl) (fun _ _ _ h=>h) (Or.inl ⟨by rfl,?_⟩) hHeld ?_ ?_
      rotate_left;·rintro w' ⟨s0,s1,s2,s3,s4,s5,s6,s7,s8⟩;go_simp;with_reducible rfl
      rotate_left;·simp only [Act.put,List.setIfInBounds_toArray,List.set_cons_zero,List.set_cons_succ,i64_w,i32_w];rfl
      refine one_ (i:=6) (N:=some 19) #[true,true,true,true,true,true,true] rfl rfl (by kernel_rfl) (by decide) (fun K hK=>?_)
      refine goes_ Tryd.func49 (by kernel_rfl) rfl #[.agg #[.int .i64 a0_0,.int .i64 a0_1,.slice A0_2 l0_2.length c0_2],.agg #[.int .i64 ((rd_T25 l1_2 x5_1).f0),.int .i64 ((rd_T25 l1_2 x5_1).f1),.slice A321_2 ((rd_T25 l1_2 x5_1).f2).length c321_2]] (by rfl) rfl rfl (by (try simp only [List.map_toArray,List.map_cons,List.map_nil]);first | done | rfl | (simp only [List.length_drop,List.length_take];rfl)) ?_
      with_reducible refine (ih k1 (by have:=HK1.out;omega) a0_0 a0_1 _ _ l0_2 ((rd_T25 l1_2 x5_1).f0) ((rd_T25 l1_2 x5_1).f1) _ _ ((rd_T25 l1_2 x5_1).f2) false _ ?side1 ?side2 ?side3 ?side4 A7.out).mono ?_
      (case side1=>repeat (first | exact (Kd.C_below HR0_2.out HB.out) | (with_reducible refine Kd.C_alloc ?_ _) | (with_reducible refine Kd.C_drewN ?_ _) | (with_reducible refine Kd.C_drew ?_)))
      (case side2=>exact HC0_2.out)
      (case side3=>repeat (first | exact (Kd.C_below HR321_2.out HB.out) | (with_reducible refine Kd.C_alloc ?_ _) | (with_reducible refine Kd.C_drewN ?_ _) | (with_reducible refine Kd.C_drew ?_)))
      (case side4=>exact HC321_2.out)
      rintro e w16 ⟨rfl,hb⟩
      refine ⟨_,rfl,?_⟩
      have n0_:=Aside0.mk (blk_below (g:=gb319) (o:=.cells #[.int .i64 a0_0,.int .i64 a0_1,.slice A0_2 l0_2.length c0_2] 25 (0,0)) (by (with_reducible repeat (first | refine blk_drewN ?_ _ | refine blk_drew ?_ | refine blk_alloc ?_ _));exact BK319.out) hb)
      have n1_:=Aside0.mk (blk_below (g:=gb320) (o:=.cells #[.int .i64 a1_0,.int .i64 a1_1,.slice (some ad321) l1_2.length c1_2] 25 (0,0)) (by (with_reducible repeat (first | refine blk_drewN ?_ _ | refine blk_drew ?_ | refine blk_alloc ?_ _));exact BK320.out) hb)
      have n2_:=Aside0.mk (below_step (by repeat (first | (with_reducible first | exact HB.out | apply below_alloc | apply pw_below_drewN | apply below_drew1 | refine below_set ?_ GE319.out | refine below_set ?_ GE320.out) | exact HB.out)) hb)
      clear BK319
      clear BK320
      clear HB
      have BK319:=n0_
      have BK320:=n1_
      have HB:=n2_
      clear n0_ n1_ n2_
      (try clear hb)
      (try clear hb2)
      (try clear hk)
      (try clear hi)
      refine hK.out _ _ ⟨(blk_cell BK319.out 0).trans rfl,(blk_cell BK319.out 1).trans rfl,(blk_cell BK319.out 2).trans rfl,(blk_cell BK320.out 0).trans rfl,(blk_cell BK320.out 1).trans rfl,(blk_cell BK320.out 2).trans rfl,((HB.out.cell (World.block_lt_of_cell? w _ hw321_0)).trans hw321_0),((HB.out.cell (World.block_lt_of_cell? w _ hw321_1)).trans hw321_1),((HB.out.cell (World.block_lt_of_cell? w _ hw321_2)).trans hw321_2)⟩ (fun hHeld=>?_)
      clear hK K
      refine norm_ (a':=?_) ?_ ?_
      rotate_left
      ·show Act.put _ (some 19) _ = _
       simp only [Act.put,List.setIfInBounds_toArray,List.set_cons_zero,List.set_cons_succ,i64_w,i32_w]
       rfl
      refine done_ (by kernel_rfl) ?_
      try go_wp2
      go_roundg k1
      case measure=>have:=HK1.out;omega
      case rel=>exact ⟨(wrap64 (x5_1 + 1)),(by first | rfl | (simp;done) | (simp [*];done)),H',⟨by have:=HK1.out;omega⟩,⟨by (with_reducible repeat (first | refine blk_drewN ?_ _ | refine blk_drew ?_ | refine blk_alloc ?_ _));exact BK319.out⟩,⟨by (with_reducible repeat (first | refine blk_drewN ?_ _ | refine blk_drew ?_ | refine blk_alloc ?_ _));exact BK320.out⟩,⟨by repeat (first | (with_reducible first | exact HB.out | apply below_alloc | apply pw_below_drewN | apply below_drew1 | refine below_set ?_ GE319.out | refine below_set ?_ GE320.out) | exact HB.out)⟩⟩
    ·rw [if_neg c6] at H
     exact absurd H (by simp)
   ·rw [if_neg c5] at H
    have c5b0:decide (x5_1 < (l1_2.length:Int)) = false:=decide_eq_false c5
    clear c5
    replace H:=Option.bind_eq_some_iff.mp H
    obtain ⟨t323,A170,H⟩:=H
    replace H:((spec_l20Text.f k1 a1_0 a1_1 l1_2).bind fun t324=>(some (t323.toList == t324.toList))) = some r:=H
    have A17:=Aside0.mk A170
    clear A170
    replace H:=Option.bind_eq_some_iff.mp H
    obtain ⟨t324,A180,H⟩:=H
    replace H:(some (t323.toList == t324.toList)) = some r:=H
    have A18:=Aside0.mk A180
    clear A180
    obtain rfl:=Option.some.inj H
    have hnb19:=NB320_319.out
    have hnc19:=NB319_320.out
    have hcz20_0:wr.cell? ⟨gb320,0,none⟩ = some (.int .i64 a1_0):=(blk_cell BK320.out 0).trans rfl
    have hcz20_1:wr.cell? ⟨gb320,1,none⟩ = some (.int .i64 a1_1):=(blk_cell BK320.out 1).trans rfl
    have hcz20_2:wr.cell? ⟨gb320,2,none⟩ = some (.slice A1_2 l1_2.length c1_2):=(blk_cell BK320.out 2).trans rfl
    have hfz20_0:=blk_frozen BK320.out 0
    have hfz20_1:=blk_frozen BK320.out 1
    have hfz20_2:=blk_frozen BK320.out 2
    try go_wp2
    have n0_:=Aside0.mk (blk_drew BK319.out)
    have n1_:=Aside0.mk (blk_drew BK320.out)
    have n2_:=Aside0.mk (below_drew1 HB.out)
    clear BK319
    clear BK320
    clear HB
    have BK319:=n0_
    have BK320:=n1_
    have HB:=n2_
    clear n0_ n1_ n2_
    refine start_ (n:=6) (S:=fun w'=>w'.cell? ⟨gb319,0,none⟩ = some (.int .i64 a0_0)∧w'.cell? ⟨gb319,1,none⟩ = some (.int .i64 a0_1)∧w'.cell? ⟨gb319,2,none⟩ = some (.slice A0_2 l0_2.length c0_2)∧w'.cell? ⟨gb320,0,none⟩ = some (.int .i64 a1_0)∧w'.cell? ⟨gb320,1,none⟩ = some (.int .i64 a1_1)∧w'.cell? ⟨gb320,2,none⟩ = some (.slice A1_2 l1_2.length c1_2)) (ds:=[]) #[false,false,false,false,false,false] (by kernel_rfl) rfl rfl ⟨(blk_cell BK319.out 0).trans rfl,(blk_cell BK319.out 1).trans rfl,(blk_cell BK319.out 2).trans rfl,(blk_cell BK320.out 0).trans rfl,(blk_cell BK320.out 1).trans rfl,(blk_cell BK320.out 2).trans rfl⟩ (fun hHeld=>?_)
    generalize wr.drew = w21 at BK319 BK320 HB hHeld ⊢
    refine take_ (i:=0) (N:=some 20) (v:=?_) (a':=?_) #[true,false,false,false,false,false] rfl rfl (by kernel_rfl) (fun _ _ _ h=>h) (Or.inl ⟨by rfl,?_⟩) hHeld ?_ ?_
    rotate_left;·rintro w' ⟨s0,s1,s2,s3,s4,s5⟩;go_simp;with_reducible rfl
    rotate_left;·simp only [Act.put,List.setIfInBounds_toArray,List.set_cons_zero,List.set_cons_succ,i64_w,i32_w];rfl
    refine take_ (i:=2) (N:=some 22) (v:=?_) (a':=?_) #[true,false,true,false,false,false] rfl rfl (by kernel_rfl) (fun _ _ _ h=>h) (Or.inl ⟨by rfl,?_⟩) hHeld ?_ ?_
    rotate_left;·rintro w' ⟨s0,s1,s2,s3,s4,s5⟩;go_simp;with_reducible rfl
    rotate_left;·simp only [Act.put,List.setIfInBounds_toArray,List.set_cons_zero,List.set_cons_succ,i64_w,i32_w];rfl
    refine one_ (i:=1) (N:=some 21) #[true,true,true,false,false,false] rfl rfl (by kernel_rfl) (by decide) (fun K hK=>?_)
    refine goes_ Tryd.func48 (by kernel_rfl) rfl #[.agg #[.int .i64 a0_0,.int .i64 a0_1,.slice A0_2 l0_2.length c0_2]] (by rfl) rfl rfl (by (try simp only [List.map_toArray,List.map_cons,List.map_nil]);first | done | rfl | (simp only [List.length_drop,List.length_take];rfl)) ?_
    with_reducible refine (spec_l20Text.calls k1 a0_0 a0_1 _ _ l0_2 t323 _ ?side1 ?side2 A17.out).mono ?_
    (case side1=>repeat (first | exact (Kd.C_below HR0_2.out HB.out) | (with_reducible refine Kd.C_alloc ?_ _) | (with_reducible refine Kd.C_drewN ?_ _) | (with_reducible refine Kd.C_drew ?_)))
    (case side2=>exact HC0_2.out)
    rintro e w22 ⟨rfl,hb⟩
    refine ⟨_,rfl,?_⟩
    have n0_:=Aside0.mk (blk_below (g:=gb319) (o:=.cells #[.int .i64 a0_0,.int .i64 a0_1,.slice A0_2 l0_2.length c0_2] 25 (0,0)) (by (with_reducible repeat (first | refine blk_drewN ?_ _ | refine blk_drew ?_ | refine blk_alloc ?_ _));exact BK319.out) hb)
    have n1_:=Aside0.mk (blk_below (g:=gb320) (o:=.cells #[.int .i64 a1_0,.int .i64 a1_1,.slice A1_2 l1_2.length c1_2] 25 (0,0)) (by (with_reducible repeat (first | refine blk_drewN ?_ _ | refine blk_drew ?_ | refine blk_alloc ?_ _));exact BK320.out) hb)
    have n2_:=Aside0.mk (below_step (by repeat (first | (with_reducible first | exact HB.out | apply below_alloc | apply pw_below_drewN | apply below_drew1 | refine below_set ?_ GE319.out | refine below_set ?_ GE320.out) | exact HB.out)) hb)
    clear BK319
    clear BK320
    clear HB
    have BK319:=n0_
    have BK320:=n1_
    have HB:=n2_
    clear n0_ n1_ n2_
    (try clear hb)
    (try clear hb2)
    (try clear hk)
    (try clear hi)
    refine hK.out _ _ ⟨(blk_cell BK319.out 0).trans rfl,(blk_cell BK319.out 1).trans rfl,(blk_cell BK319.out 2).trans rfl,(blk_cell BK320.out 0).trans rfl,(blk_cell BK320.out 1).trans rfl,(blk_cell BK320.out 2).trans rfl⟩ (fun hHeld=>?_)
    clear hK K
    refine norm_ (a':=?_) ?_ ?_
    rotate_left
    ·show Act.put _ (some 21) _ = _
     simp only [Act.put,List.setIfInBounds_toArray,List.set_cons_zero,List.set_cons_succ,i64_w,i32_w]
     rfl
    refine one_ (i:=3) (N:=some 23) #[true,true,true,true,false,false] rfl rfl (by kernel_rfl) (by decide) (fun K hK=>?_)
    refine goes_ Tryd.func48 (by kernel_rfl) rfl #[.agg #[.int .i64 a1_0,.int .i64 a1_1,.slice A1_2 l1_2.length c1_2]] (by rfl) rfl rfl (by (try simp only [List.map_toArray,List.map_cons,List.map_nil]);first | done | rfl | (simp only [List.length_drop,List.length_take];rfl)) ?_
    with_reducible refine (spec_l20Text.calls k1 a1_0 a1_1 _ _ l1_2 t324 _ ?side1 ?side2 A18.out).mono ?_
    (case side1=>repeat (first | exact (Kd.C_below HR1_2.out HB.out) | (with_reducible refine Kd.C_alloc ?_ _) | (with_reducible refine Kd.C_drewN ?_ _) | (with_reducible refine Kd.C_drew ?_)))
    (case side2=>exact HC1_2.out)
    rintro e w23 ⟨rfl,hb⟩
    refine ⟨_,rfl,?_⟩
    have n0_:=Aside0.mk (blk_below (g:=gb319) (o:=.cells #[.int .i64 a0_0,.int .i64 a0_1,.slice A0_2 l0_2.length c0_2] 25 (0,0)) (by (with_reducible repeat (first | refine blk_drewN ?_ _ | refine blk_drew ?_ | refine blk_alloc ?_ _));exact BK319.out) hb)
    have n1_:=Aside0.mk (blk_below (g:=gb320) (o:=.cells #[.int .i64 a1_0,.int .i64 a1_1,.slice A1_2 l1_2.length c1_2] 25 (0,0)) (by (with_reducible repeat (first | refine blk_drewN ?_ _ | refine blk_drew ?_ | refine blk_alloc ?_ _));exact BK320.out) hb)
    have n2_:=Aside0.mk (below_step (by repeat (first | (with_reducible first | exact HB.out | apply below_alloc | apply pw_below_drewN | apply below_drew1 | refine below_set ?_ GE319.out | refine below_set ?_ GE320.out) | exact HB.out)) hb)
    clear BK319
    clear BK320
    clear HB
    have BK319:=n0_
    have BK320:=n1_
    have HB:=n2_
    clear n0_ n1_ n2_
    (try clear hb)
    (try clear hb2)
    (try clear hk)
    (try clear hi)
    refine hK.out _ _ ⟨(blk_cell BK319.out 0).trans rfl,(blk_cell BK319.out 1).trans rfl,(blk_cell BK319.out 2).trans rfl,(blk_cell BK320.out 0).trans rfl,(blk_cell BK320.out 1).trans rfl,(blk_cell BK320.out 2).trans rfl⟩ (fun hHeld=>?_)
    clear hK K
    refine norm_ (a':=?_) ?_ ?_
    rotate_left
    ·show Act.put _ (some 23) _ = _
     simp only [Act.put,List.setIfInBounds_toArray,List.set_cons_zero,List.set_cons_succ,i64_w,i32_w]
     rfl
    refine pure_ (i:=4) (N:=some 24) (v:=?_) (a':=?_) #[true,true,true,true,true,false] rfl rfl (by kernel_rfl) (fun _ _ _ h=>h) (Or.inl ⟨by rfl,?_⟩) ?_ ?_
    rotate_left;·intro w';go_simp;with_reducible rfl
    rotate_left;·simp only [Act.put,List.setIfInBounds_toArray,List.set_cons_zero,List.set_cons_succ,i64_w,i32_w];rfl
    refine pure_ (i:=5) (N:=some 4) (v:=?_) (a':=?_) #[true,true,true,true,true,true] rfl rfl (by kernel_rfl) (fun _ _ _ h=>h) (Or.inl ⟨by rfl,?_⟩) ?_ ?_
    rotate_left;·intro w';go_simp;with_reducible rfl
    rotate_left;·simp only [Act.put,List.setIfInBounds_toArray,List.set_cons_zero,List.set_cons_succ,i64_w,i32_w];rfl
    refine done_ (by kernel_rfl) ?_
    try go_wp2
    go_ret
    exact ⟨by first | rfl | (simp [errW_none,errW_some] <;> rfl) | (simp [*,errW_none,errW_some] <;> rfl),by repeat (first | (with_reducible first | exact HB.out | apply below_alloc | apply pw_below_drewN | apply below_drew1 | refine below_set ?_ GE319.out | refine below_set ?_ GE320.out) | exact HB.out)⟩
def spec_SealUnder.f (k:Nat) (a0_0:Int) (a0_1:Int) (l0_2:List (S25)) (a1_0:Int) (a1_1:Int) (l1_2:List (S25)):Option (Bool):=(spec_SealOk.f k a0_0 a0_1 l0_2).bind fun t327=>(if t327 = true then ((spec_SealOk.f k a1_0 a1_1 l1_2).bind fun t328=>(if t328 = true then ((spec_l20Under.f k a0_0 a0_1 l0_2 a1_0 a1_1 l1_2).bind fun t329=>(some t329)) else (some false))) else (some false))
theorem spec_SealUnder.mono:∀ a0 a1 a2 a3 a4 a5 k,LeO (spec_SealUnder.f k a0 a1 a2 a3 a4 a5) (spec_SealUnder.f (k + 1) a0 a1 a2 a3 a4 a5):=by
 intro a0 a1 a2 a3 a4 a5 k
 unfold spec_SealUnder.f
 repeat' first
   | (with_reducible exact spec_SealOk.mono _ _ _ _)
   | (with_reducible exact spec_l20Under.mono _ _ _ _ _ _ _)
   | (with_reducible exact LeO.refl _)
   | (with_reducible exact LeO.none _)
   | (with_reducible refine LeO.ite ?_ ?_)
   | (with_reducible refine LeO.bind ?_ (fun _=>?_))
   | exact spec_SealOk.mono _ _ _ _
   | exact spec_l20Under.mono _ _ _ _ _ _ _
   | exact LeO.none _
   | refine LeO.ite ?_ ?_
   | refine LeO.bind ?_ (fun _=>?_)
set_option maxHeartbeats 8000000 in
set_option maxRecDepth 100000 in
theorem spec_SealUnder.calls (k:Nat) (a0_0:Int) (a0_1:Int) (A0_2:Option Addr) (c0_2:Nat) (l0_2:List (S25)) (a1_0:Int) (a1_1:Int) (A1_2:Option Addr) (c1_2:Nat) (l1_2:List (S25)) (r:Bool) (w:World) (hr0_2:Kd.C k25 w A0_2 l0_2.length l0_2) (hc0_2:l0_2.length ≤ c0_2) (hr1_2:Kd.C k25 w A1_2 l1_2.length l1_2) (hc1_2:l1_2.length ≤ c1_2) (h:spec_SealUnder.f k a0_0 a0_1 l0_2 a1_0 a1_1 l1_2 = some r) :
  Calls Tryd.prog 23 #[.agg #[.int .i64 a0_0,.int .i64 a0_1,.slice A0_2 l0_2.length c0_2],.agg #[.int .i64 a1_0,.int .i64 a1_1,.slice A1_2 l1_2.length c1_2]] w fun e w'=>e = .returned (.bool r)∧Below w.heap.size w w':=by
 have hu25:=Tryd.underlying25
 have HR0_2:=Aside0.mk hr0_2
 have HC0_2:=Aside0.mk hc0_2
 clear hr0_2 hc0_2
 have HR1_2:=Aside0.mk hr1_2
 have HC1_2:=Aside0.mk hc1_2
 clear hr1_2 hc1_2
 have HB:=Aside0.mk (Below.refl w.heap.size w)
 have H:((spec_SealOk.f k a0_0 a0_1 l0_2).bind fun t327=>(if t327 = true then ((spec_SealOk.f k a1_0 a1_1 l1_2).bind fun t328=>(if t328 = true then ((spec_l20Under.f k a0_0 a0_1 l0_2 a1_0 a1_1 l1_2).bind fun t329=>(some t329)) else (some false))) else (some false))) = some r:=h
 clear h
 replace H:=Option.bind_eq_some_iff.mp H
 obtain ⟨t327,A30,H⟩:=H
 replace H:(if t327 = true then ((spec_SealOk.f k a1_0 a1_1 l1_2).bind fun t328=>(if t328 = true then ((spec_l20Under.f k a0_0 a0_1 l0_2 a1_0 a1_1 l1_2).bind fun t329=>(some t329)) else (some false))) else (some false)) = some r:=H
 have A3:=Aside0.mk A30
 clear A30
 by_cases c4:t327 = true
 ·subst c4
  have H1:((spec_SealOk.f k a1_0 a1_1 l1_2).bind fun t328=>(if t328 = true then ((spec_l20Under.f k a0_0 a0_1 l0_2 a1_0 a1_1 l1_2).bind fun t329=>(some t329)) else (some false))) = some r:=by rw [if_pos rfl] at H;exact H
  clear H
  have H:=H1
  clear H1
  replace H:=Option.bind_eq_some_iff.mp H
  obtain ⟨t328,A50,H⟩:=H
  replace H:(if t328 = true then ((spec_l20Under.f k a0_0 a0_1 l0_2 a1_0 a1_1 l1_2).bind fun t329=>(some t329)) else (some false)) = some r:=H
  have A5:=Aside0.mk A50
  clear A50
  by_cases c6:t328 = true
  ·subst c6
   have H1:((spec_l20Under.f k a0_0 a0_1 l0_2 a1_0 a1_1 l1_2).bind fun t329=>(some t329)) = some r:=by rw [if_pos rfl] at H;exact H
   clear H
   have H:=H1
   clear H1
   replace H:=Option.bind_eq_some_iff.mp H
   obtain ⟨t329,A70,H⟩:=H
   replace H:(some t329) = some r:=H
   have A7:=Aside0.mk A70
   clear A70
   obtain rfl:=Option.some.inj H
   go_enter Tryd.func23,Tryd.ntmps23
   go_wp2_with (first | ((with_reducible refine gate_dst (N:=2) rfl ?_);refine box_event ?hg (N:=2) ?hd (cs:=#[.int .i64 a0_0,.int .i64 a0_1,.slice A0_2 l0_2.length c0_2]) (t:=25) ?hr ?_;(case hd=>rfl);(case hg=>rfl);(case hr=>first | (go_simp;done) | (go_simp;rfl));intro gb325 hg w8 hbox hb;have n0_:=Aside0.mk (below_step (by repeat (first | (with_reducible first | exact HB.out | apply below_alloc | apply pw_below_drewN | apply below_drew1) | exact HB.out)) hb);have n1_:=Aside0.mk (hbox);have n2_:=Aside0.mk ((by rw [hg];exact (below_size (by repeat (first | (with_reducible first | exact HB.out | apply below_alloc | apply pw_below_drewN | apply below_drew1) | exact HB.out))):w.heap.size ≤ gb325));have n3_:=Aside0.mk ((by rw [hg];exact (below_size (by repeat (first | (with_reducible first | exact HB.out | apply below_alloc | apply pw_below_drewN | apply below_drew1) | exact HB.out))):w.heap.size ≤ gb325));clear HB;have HB:=n0_;have BK325:=n1_;have GW325:=n2_;have GE325:=n3_;clear n0_ n1_ n2_ n3_;clear hb hbox hg) | ((with_reducible refine gate_dst (N:=3) rfl ?_);refine box_event ?hg (N:=3) ?hd (cs:=#[.int .i64 a1_0,.int .i64 a1_1,.slice A1_2 l1_2.length c1_2]) (t:=25) ?hr ?_;(case hd=>rfl);(case hg=>rfl);(case hr=>first | (go_simp;done) | (go_simp;rfl));intro gb326 hg w9 hbox hb;have n0_:=Aside0.mk (blk_below (g:=gb325) (o:=.cells #[.int .i64 a0_0,.int .i64 a0_1,.slice A0_2 l0_2.length c0_2] 25 (0,0)) (by (with_reducible repeat (first | refine blk_drewN ?_ _ | refine blk_drew ?_ | refine blk_alloc ?_ _));exact BK325.out) hb);have n1_:=Aside0.mk (below_step (by repeat (first | (with_reducible first | exact HB.out | apply below_alloc | apply pw_below_drewN | apply below_drew1 | refine below_set ?_ GE325.out) | exact HB.out)) hb);have n2_:=Aside0.mk (hbox);have n3_:=Aside0.mk ((by rw [hg];exact (below_size (by repeat (first | (with_reducible first | exact HB.out | apply below_alloc | apply pw_below_drewN | apply below_drew1 | refine below_set ?_ GE325.out) | exact HB.out))):w.heap.size ≤ gb326));have n4_:=Aside0.mk ((by rw [hg];exact (below_size (by repeat (first | (with_reducible first | exact HB.out | apply below_alloc | apply pw_below_drewN | apply below_drew1 | refine below_set ?_ GE325.out) | exact HB.out))):w.heap.size ≤ gb326));have n5_:=Aside0.mk ((by rw [hg];exact Nat.ne_of_lt (blk_lt (g:=gb325) (o:=.cells #[.int .i64 a0_0,.int .i64 a0_1,.slice A0_2 l0_2.length c0_2] 25 (0,0)) (by (with_reducible repeat (first | refine blk_drewN ?_ _ | refine blk_drew ?_ | refine blk_alloc ?_ _));exact BK325.out)):gb325 ≠ gb326));have n6_:=Aside0.mk ((by rw [hg];exact Nat.ne_of_gt (blk_lt (g:=gb325) (o:=.cells #[.int .i64 a0_0,.int .i64 a0_1,.slice A0_2 l0_2.length c0_2] 25 (0,0)) (by (with_reducible repeat (first | refine blk_drewN ?_ _ | refine blk_drew ?_ | refine blk_alloc ?_ _));exact BK325.out)):gb326 ≠ gb325));clear BK325;clear HB;have BK325:=n0_;have HB:=n1_;have BK326:=n2_;have GW326:=n3_;have GE326:=n4_;have NB325_326:=n5_;have NB326_325:=n6_;clear n0_ n1_ n2_ n3_ n4_ n5_ n6_;clear hb hbox hg;have hnb10:=NB325_326.out;have hnc10:=NB326_325.out;have hcz11_0:w9.cell? ⟨gb325,0,none⟩ = some (.int .i64 a0_0):=(blk_cell BK325.out 0).trans rfl;have hcz11_1:w9.cell? ⟨gb325,1,none⟩ = some (.int .i64 a0_1):=(blk_cell BK325.out 1).trans rfl;have hcz11_2:w9.cell? ⟨gb325,2,none⟩ = some (.slice A0_2 l0_2.length c0_2):=(blk_cell BK325.out 2).trans rfl;have hfz11_0:=blk_frozen BK325.out 0;have hfz11_1:=blk_frozen BK325.out 1;have hfz11_2:=blk_frozen BK325.out 2) | ((with_reducible refine gate_callee (f:=15) rfl ?_);refine goesL_ (some 6) rfl rfl Tryd.func15 (by kernel_rfl) rfl #[.agg #[.int .i64 a0_0,.int .i64 a0_1,.slice A0_2 l0_2.length c0_2]] rfl (by (try simp only [List.map_toArray,List.map_cons,List.map_nil]);first | done | rfl | (simp only [List.length_drop,List.length_take];rfl)) ?_;(with_reducible refine (spec_SealOk.calls k a0_0 a0_1 _ _ l0_2 true _ ?side1 ?side2 A3.out).mono ?_);(case side1=>repeat (first | exact (Kd.C_below HR0_2.out HB.out) | (with_reducible refine Kd.C_alloc ?_ _) | (with_reducible refine Kd.C_drewN ?_ _) | (with_reducible refine Kd.C_drew ?_)));(case side2=>exact HC0_2.out);rintro e w12 ⟨rfl,hb⟩;refine ⟨_,rfl,?_⟩;have n0_:=Aside0.mk (blk_below (g:=gb325) (o:=.cells #[.int .i64 a0_0,.int .i64 a0_1,.slice A0_2 l0_2.length c0_2] 25 (0,0)) (by (with_reducible repeat (first | refine blk_drewN ?_ _ | refine blk_drew ?_ | refine blk_alloc ?_ _));exact BK325.out) hb);have n1_:=Aside0.mk (blk_below (g:=gb326) (o:=.cells #[.int .i64 a1_0,.int .i64 a1_1,.slice A1_2 l1_2.length c1_2] 25 (0,0)) (by (with_reducible repeat (first | refine blk_drewN ?_ _ | refine blk_drew ?_ | refine blk_alloc ?_ _));exact BK326.out) hb);have n2_:=Aside0.mk (below_step (by repeat (first | (with_reducible first | exact HB.out | apply below_alloc | apply pw_below_drewN | apply below_drew1 | refine below_set ?_ GE325.out | refine below_set ?_ GE326.out) | exact HB.out)) hb);clear BK325;clear BK326;clear HB;have BK325:=n0_;have BK326:=n1_;have HB:=n2_;clear n0_ n1_ n2_;(try clear hb);(try clear hb2);(try clear hk);(try clear hi);have hcz13_0:w12.cell? ⟨gb326,0,none⟩ = some (.int .i64 a1_0):=(blk_cell BK326.out 0).trans rfl;have hcz13_1:w12.cell? ⟨gb326,1,none⟩ = some (.int .i64 a1_1):=(blk_cell BK326.out 1).trans rfl;have hcz13_2:w12.cell? ⟨gb326,2,none⟩ = some (.slice A1_2 l1_2.length c1_2):=(blk_cell BK326.out 2).trans rfl;have hfz13_0:=blk_frozen BK326.out 0;have hfz13_1:=blk_frozen BK326.out 1;have hfz13_2:=blk_frozen BK326.out 2) | (go_at_call 15;(with_reducible refine (spec_SealOk.calls k a1_0 a1_1 _ _ l1_2 true _ ?side1 ?side2 A5.out).mono ?_);(case side1=>repeat (first | exact (Kd.C_below HR1_2.out HB.out) | (with_reducible refine Kd.C_alloc ?_ _) | (with_reducible refine Kd.C_drewN ?_ _) | (with_reducible refine Kd.C_drew ?_)));(case side2=>exact HC1_2.out);rintro e w14 ⟨rfl,hb⟩;have n0_:=Aside0.mk (blk_below (g:=gb325) (o:=.cells #[.int .i64 a0_0,.int .i64 a0_1,.slice A0_2 l0_2.length c0_2] 25 (0,0)) (by (with_reducible repeat (first | refine blk_drewN ?_ _ | refine blk_drew ?_ | refine blk_alloc ?_ _));exact BK325.out) hb);have n1_:=Aside0.mk (blk_below (g:=gb326) (o:=.cells #[.int .i64 a1_0,.int .i64 a1_1,.slice A1_2 l1_2.length c1_2] 25 (0,0)) (by (with_reducible repeat (first | refine blk_drewN ?_ _ | refine blk_drew ?_ | refine blk_alloc ?_ _));exact BK326.out) hb);have n2_:=Aside0.mk (below_step (by repeat (first | (with_reducible first | exact HB.out | apply below_alloc | apply pw_below_drewN | apply below_drew1 | refine below_set ?_ GE325.out | refine below_set ?_ GE326.out) | exact HB.out)) hb);clear BK325;clear BK326;clear HB;have BK325:=n0_;have BK326:=n1_;have HB:=n2_;clear n0_ n1_ n2_;(try clear hb);(try clear hb2);(try clear hk);(try clear hi);have hcz15_0:w14.cell? ⟨gb325,0,none⟩ = some (.int .i64 a0_0):=(blk_cell BK325.out 0).trans rfl;have hcz15_1:w14.cell? ⟨gb325,1,none⟩ = some (.int .i64 a0_1):=(blk_cell BK325.out 1).trans rfl;have hcz15_2:w14.cell? ⟨gb325,2,none⟩ = some (.slice A0_2 l0_2.length c0_2):=(blk_cell BK325.out 2).trans rfl;have hfz15_0:=blk_frozen BK325.out 0;have hfz15_1:=blk_frozen BK325.out 1;have hfz15_2:=blk_frozen BK325.out 2;have hcz16_0:w14.cell? ⟨gb326,0,none⟩ = some (.int .i64 a1_0):=(blk_cell BK326.out 0).trans rfl;have hcz16_1:w14.cell? ⟨gb326,1,none⟩ = some (.int .i64 a1_1):=(blk_cell BK326.out 1).trans rfl;have hcz16_2:w14.cell? ⟨gb326,2,none⟩ = some (.slice A1_2 l1_2.length c1_2):=(blk_cell BK326.out 2).trans rfl;have hfz16_0:=blk_frozen BK326.out 0;have hfz16_1:=blk_frozen BK326.out 1;have hfz16_2:=blk_frozen BK326.out 2) | (go_at_call 49;(with_reducible refine (spec_l20Under.calls k a0_0 a0_1 _ _ l0_2 a1_0 a1_1 _ _ l1_2 t329 _ ?side1 ?side2 ?side3 ?side4 A7.out).mono ?_);(case side1=>repeat (first | exact (Kd.C_below HR0_2.out HB.out) | (with_reducible refine Kd.C_alloc ?_ _) | (with_reducible refine Kd.C_drewN ?_ _) | (with_reducible refine Kd.C_drew ?_)));(case side2=>exact HC0_2.out);(case side3=>repeat (first | exact (Kd.C_below HR1_2.out HB.out) | (with_reducible refine Kd.C_alloc ?_ _) | (with_reducible refine Kd.C_drewN ?_ _) | (with_reducible refine Kd.C_drew ?_)));(case side4=>exact HC1_2.out);rintro e w17 ⟨rfl,hb⟩;have n0_:=Aside0.mk (blk_below (g:=gb325) (o:=.cells #[.int .i64 a0_0,.int .i64 a0_1,.slice A0_2 l0_2.length c0_2] 25 (0,0)) (by (with_reducible repeat (first | refine blk_drewN ?_ _ | refine blk_drew ?_ | refine blk_alloc ?_ _));exact BK325.out) hb);have n1_:=Aside0.mk (blk_below (g:=gb326) (o:=.cells #[.int .i64 a1_0,.int .i64 a1_1,.slice A1_2 l1_2.length c1_2] 25 (0,0)) (by (with_reducible repeat (first | refine blk_drewN ?_ _ | refine blk_drew ?_ | refine blk_alloc ?_ _));exact BK326.out) hb);have n2_:=Aside0.mk (below_step (by repeat (first | (with_reducible first | exact HB.out | apply below_alloc | apply pw_below_drewN | apply below_drew1 | refine below_set ?_ GE325.out | refine below_set ?_ GE326.out) | exact HB.out)) hb);clear BK325;clear BK326;clear HB;have BK325:=n0_;have BK326:=n1_;have HB:=n2_;clear n0_ n1_ n2_;(try clear hb);(try clear hb2);(try clear hk);(try clear hi)))
   go_ret
   exact ⟨by first | rfl | (simp [errW_none,errW_some] <;> rfl) | (simp [*,errW_none,errW_some] <;> rfl),by repeat (first | (with_reducible first | exact HB.out | apply below_alloc | apply pw_below_drewN | apply below_drew1 | refine below_set ?_ GE325.out | refine below_set ?_ GE326.out) | exact HB.out)⟩
  ·replace c6:=Bool.eq_false_iff.mpr c6
   subst c6
   have H1:(some false) = some r:=by rw [if_neg (show ¬ (false = true) by decide)] at H;exact H
   clear H
   have H:=H1
   clear H1
   obtain rfl:=Option.some.inj H
   go_enter Tryd.func23,Tryd.ntmps23
   go_wp2_with (first | ((with_reducible refine gate_dst (N:=2) rfl ?_);refine box_event ?hg (N:=2) ?hd (cs:=#[.int .i64 a0_0,.int .i64 a0_1,.slice A0_2 l0_2.length c0_2]) (t:=25) ?hr ?_;(case hd=>rfl);(case hg=>rfl);(case hr=>first | (go_simp;done) | (go_simp;rfl));intro gb325 hg w18 hbox hb;have n0_:=Aside0.mk (below_step (by repeat (first | (with_reducible first | exact HB.out | apply below_alloc | apply pw_below_drewN | apply below_drew1) | exact HB.out)) hb);have n1_:=Aside0.mk (hbox);have n2_:=Aside0.mk ((by rw [hg];exact (below_size (by repeat (first | (with_reducible first | exact HB.out | apply below_alloc | apply pw_below_drewN | apply below_drew1) | exact HB.out))):w.heap.size ≤ gb325));have n3_:=Aside0.mk ((by rw [hg];exact (below_size (by repeat (first | (with_reducible first | exact HB.out | apply below_alloc | apply pw_below_drewN | apply below_drew1) | exact HB.out))):w.heap.size ≤ gb325));clear HB;have HB:=n0_;have BK325:=n1_;have GW325:=n2_;have GE325:=n3_;clear n0_ n1_ n2_ n3_;clear hb hbox hg) | ((with_reducible refine gate_dst (N:=3) rfl ?_);refine box_event ?hg (N:=3) ?hd (cs:=#[.int .i64 a1_0,.int .i64 a1_1,.slice A1_2 l1_2.length c1_2]) (t:=25) ?hr ?_;(case hd=>rfl);(case hg=>rfl);(case hr=>first | (go_simp;done) | (go_simp;rfl));intro gb326 hg w19 hbox hb;have n0_:=Aside0.mk (blk_below (g:=gb325) (o:=.cells #[.int .i64 a0_0,.int .i64 a0_1,.slice A0_2 l0_2.length c0_2] 25 (0,0)) (by (with_reducible repeat (first | refine blk_drewN ?_ _ | refine blk_drew ?_ | refine blk_alloc ?_ _));exact BK325.out) hb);have n1_:=Aside0.mk (below_step (by repeat (first | (with_reducible first | exact HB.out | apply below_alloc | apply pw_below_drewN | apply below_drew1 | refine below_set ?_ GE325.out) | exact HB.out)) hb);have n2_:=Aside0.mk (hbox);have n3_:=Aside0.mk ((by rw [hg];exact (below_size (by repeat (first | (with_reducible first | exact HB.out | apply below_alloc | apply pw_below_drewN | apply below_drew1 | refine below_set ?_ GE325.out) | exact HB.out))):w.heap.size ≤ gb326));have n4_:=Aside0.mk ((by rw [hg];exact (below_size (by repeat (first | (with_reducible first | exact HB.out | apply below_alloc | apply pw_below_drewN | apply below_drew1 | refine below_set ?_ GE325.out) | exact HB.out))):w.heap.size ≤ gb326));have n5_:=Aside0.mk ((by rw [hg];exact Nat.ne_of_lt (blk_lt (g:=gb325) (o:=.cells #[.int .i64 a0_0,.int .i64 a0_1,.slice A0_2 l0_2.length c0_2] 25 (0,0)) (by (with_reducible repeat (first | refine blk_drewN ?_ _ | refine blk_drew ?_ | refine blk_alloc ?_ _));exact BK325.out)):gb325 ≠ gb326));have n6_:=Aside0.mk ((by rw [hg];exact Nat.ne_of_gt (blk_lt (g:=gb325) (o:=.cells #[.int .i64 a0_0,.int .i64 a0_1,.slice A0_2 l0_2.length c0_2] 25 (0,0)) (by (with_reducible repeat (first | refine blk_drewN ?_ _ | refine blk_drew ?_ | refine blk_alloc ?_ _));exact BK325.out)):gb326 ≠ gb325));clear BK325;clear HB;have BK325:=n0_;have HB:=n1_;have BK326:=n2_;have GW326:=n3_;have GE326:=n4_;have NB325_326:=n5_;have NB326_325:=n6_;clear n0_ n1_ n2_ n3_ n4_ n5_ n6_;clear hb hbox hg;have hnb20:=NB325_326.out;have hnc20:=NB326_325.out;have hcz21_0:w19.cell? ⟨gb325,0,none⟩ = some (.int .i64 a0_0):=(blk_cell BK325.out 0).trans rfl;have hcz21_1:w19.cell? ⟨gb325,1,none⟩ = some (.int .i64 a0_1):=(blk_cell BK325.out 1).trans rfl;have hcz21_2:w19.cell? ⟨gb325,2,none⟩ = some (.slice A0_2 l0_2.length c0_2):=(blk_cell BK325.out 2).trans rfl;have hfz21_0:=blk_frozen BK325.out 0;have hfz21_1:=blk_frozen BK325.out 1;have hfz21_2:=blk_frozen BK325.out 2) | ((with_reducible refine gate_callee (f:=15) rfl ?_);refine goesL_ (some 6) rfl rfl Tryd.func15 (by kernel_rfl) rfl #[.agg #[.int .i64 a0_0,.int .i64 a0_1,.slice A0_2 l0_2.length c0_2]] rfl (by (try simp only [List.map_toArray,List.map_cons,List.map_nil]);first | done | rfl | (simp only [List.length_drop,List.length_take];rfl)) ?_;(with_reducible refine (spec_SealOk.calls k a0_0 a0_1 _ _ l0_2 true _ ?side1 ?side2 A3.out).mono ?_);(case side1=>repeat (first | exact (Kd.C_below HR0_2.out HB.out) | (with_reducible refine Kd.C_alloc ?_ _) | (with_reducible refine Kd.C_drewN ?_ _) | (with_reducible refine Kd.C_drew ?_)));(case side2=>exact HC0_2.out);rintro e w22 ⟨rfl,hb⟩;refine ⟨_,rfl,?_⟩;have n0_:=Aside0.mk (blk_below (g:=gb325) (o:=.cells #[.int .i64 a0_0,.int .i64 a0_1,.slice A0_2 l0_2.length c0_2] 25 (0,0)) (by (with_reducible repeat (first | refine blk_drewN ?_ _ | refine blk_drew ?_ | refine blk_alloc ?_ _));exact BK325.out) hb);have n1_:=Aside0.mk (blk_below (g:=gb326) (o:=.cells #[.int .i64 a1_0,.int .i64 a1_1,.slice A1_2 l1_2.length c1_2] 25 (0,0)) (by (with_reducible repeat (first | refine blk_drewN ?_ _ | refine blk_drew ?_ | refine blk_alloc ?_ _));exact BK326.out) hb);have n2_:=Aside0.mk (below_step (by repeat (first | (with_reducible first | exact HB.out | apply below_alloc | apply pw_below_drewN | apply below_drew1 | refine below_set ?_ GE325.out | refine below_set ?_ GE326.out) | exact HB.out)) hb);clear BK325;clear BK326;clear HB;have BK325:=n0_;have BK326:=n1_;have HB:=n2_;clear n0_ n1_ n2_;(try clear hb);(try clear hb2);(try clear hk);(try clear hi);have hcz23_0:w22.cell? ⟨gb326,0,none⟩ = some (.int .i64 a1_0):=(blk_cell BK326.out 0).trans rfl;have hcz23_1:w22.cell? ⟨gb326,1,none⟩ = some (.int .i64 a1_1):=(blk_cell BK326.out 1).trans rfl;have hcz23_2:w22.cell? ⟨gb326,2,none⟩ = some (.slice A1_2 l1_2.length c1_2):=(blk_cell BK326.out 2).trans rfl;have hfz23_0:=blk_frozen BK326.out 0;have hfz23_1:=blk_frozen BK326.out 1;have hfz23_2:=blk_frozen BK326.out 2) | (go_at_call 15;(with_reducible refine (spec_SealOk.calls k a1_0 a1_1 _ _ l1_2 false _ ?side1 ?side2 A5.out).mono ?_);(case side1=>repeat (first | exact (Kd.C_below HR1_2.out HB.out) | (with_reducible refine Kd.C_alloc ?_ _) | (with_reducible refine Kd.C_drewN ?_ _) | (with_reducible refine Kd.C_drew ?_)));(case side2=>exact HC1_2.out);rintro e w24 ⟨rfl,hb⟩;have n0_:=Aside0.mk (blk_below (g:=gb325) (o:=.cells #[.int .i64 a0_0,.int .i64 a0_1,.slice A0_2 l0_2.length c0_2] 25 (0,0)) (by (with_reducible repeat (first | refine blk_drewN ?_ _ | refine blk_drew ?_ | refine blk_alloc ?_ _));exact BK325.out) hb);have n1_:=Aside0.mk (blk_below (g:=gb326) (o:=.cells #[.int .i64 a1_0,.int .i64 a1_1,.slice A1_2 l1_2.length c1_2] 25 (0,0)) (by (with_reducible repeat (first | refine blk_drewN ?_ _ | refine blk_drew ?_ | refine blk_alloc ?_ _));exact BK326.out) hb);have n2_:=Aside0.mk (below_step (by repeat (first | (with_reducible first | exact HB.out | apply below_alloc | apply pw_below_drewN | apply below_drew1 | refine below_set ?_ GE325.out | refine below_set ?_ GE326.out) | exact HB.out)) hb);clear BK325;clear BK326;clear HB;have BK325:=n0_;have BK326:=n1_;have HB:=n2_;clear n0_ n1_ n2_;(try clear hb);(try clear hb2);(try clear hk);(try clear hi)))
   go_ret
   exact ⟨by first | rfl | (simp [errW_none,errW_some] <;> rfl) | (simp [*,errW_none,errW_some] <;> rfl),by repeat (first | (with_reducible first | exact HB.out | apply below_alloc | apply pw_below_drewN | apply below_drew1 | refine below_set ?_ GE325.out | refine below_set ?_ GE326.out) | exact HB.out)⟩
 ·replace c4:=Bool.eq_false_iff.mpr c4
  subst c4
  have H1:(some false) = some r:=by rw [if_neg (show ¬ (false = true) by decide)] at H;exact H
  clear H
  have H:=H1
  clear H1
  obtain rfl:=Option.some.inj H
  go_enter Tryd.func23,Tryd.ntmps23
  go_wp2_with (first | ((with_reducible refine gate_dst (N:=2) rfl ?_);refine box_event ?hg (N:=2) ?hd (cs:=#[.int .i64 a0_0,.int .i64 a0_1,.slice A0_2 l0_2.length c0_2]) (t:=25) ?hr ?_;(case hd=>rfl);(case hg=>rfl);(case hr=>first | (go_simp;done) | (go_simp;rfl));intro gb325 hg w25 hbox hb;have n0_:=Aside0.mk (below_step (by repeat (first | (with_reducible first | exact HB.out | apply below_alloc | apply pw_below_drewN | apply below_drew1) | exact HB.out)) hb);have n1_:=Aside0.mk (hbox);have n2_:=Aside0.mk ((by rw [hg];exact (below_size (by repeat (first | (with_reducible first | exact HB.out | apply below_alloc | apply pw_below_drewN | apply below_drew1) | exact HB.out))):w.heap.size ≤ gb325));have n3_:=Aside0.mk ((by rw [hg];exact (below_size (by repeat (first | (with_reducible first | exact HB.out | apply below_alloc | apply pw_below_drewN | apply below_drew1) | exact HB.out))):w.heap.size ≤ gb325));clear HB;have HB:=n0_;have BK325:=n1_;have GW325:=n2_;have GE325:=n3_;clear n0_ n1_ n2_ n3_;clear hb hbox hg) | ((with_reducible refine gate_dst (N:=3) rfl ?_);refine box_event ?hg (N:=3) ?hd (cs:=#[.int .i64 a1_0,.int .i64 a1_1,.slice A1_2 l1_2.length c1_2]) (t:=25) ?hr ?_;(case hd=>rfl);(case hg=>rfl);(case hr=>first | (go_simp;done) | (go_simp;rfl));intro gb326 hg w26 hbox hb;have n0_:=Aside0.mk (blk_below (g:=gb325) (o:=.cells #[.int .i64 a0_0,.int .i64 a0_1,.slice A0_2 l0_2.length c0_2] 25 (0,0)) (by (with_reducible repeat (first | refine blk_drewN ?_ _ | refine blk_drew ?_ | refine blk_alloc ?_ _));exact BK325.out) hb);have n1_:=Aside0.mk (below_step (by repeat (first | (with_reducible first | exact HB.out | apply below_alloc | apply pw_below_drewN | apply below_drew1 | refine below_set ?_ GE325.out) | exact HB.out)) hb);have n2_:=Aside0.mk (hbox);have n3_:=Aside0.mk ((by rw [hg];exact (below_size (by repeat (first | (with_reducible first | exact HB.out | apply below_alloc | apply pw_below_drewN | apply below_drew1 | refine below_set ?_ GE325.out) | exact HB.out))):w.heap.size ≤ gb326));have n4_:=Aside0.mk ((by rw [hg];exact (below_size (by repeat (first | (with_reducible first | exact HB.out | apply below_alloc | apply pw_below_drewN | apply below_drew1 | refine below_set ?_ GE325.out) | exact HB.out))):w.heap.size ≤ gb326));have n5_:=Aside0.mk ((by rw [hg];exact Nat.ne_of_lt (blk_lt (g:=gb325) (o:=.cells #[.int .i64 a0_0,.int .i64 a0_1,.slice A0_2 l0_2.length c0_2] 25 (0,0)) (by (with_reducible repeat (first | refine blk_drewN ?_ _ | refine blk_drew ?_ | refine blk_alloc ?_ _));exact BK325.out)):gb325 ≠ gb326));have n6_:=Aside0.mk ((by rw [hg];exact Nat.ne_of_gt (blk_lt (g:=gb325) (o:=.cells #[.int .i64 a0_0,.int .i64 a0_1,.slice A0_2 l0_2.length c0_2] 25 (0,0)) (by (with_reducible repeat (first | refine blk_drewN ?_ _ | refine blk_drew ?_ | refine blk_alloc ?_ _));exact BK325.out)):gb326 ≠ gb325));clear BK325;clear HB;have BK325:=n0_;have HB:=n1_;have BK326:=n2_;have GW326:=n3_;have GE326:=n4_;have NB325_326:=n5_;have NB326_325:=n6_;clear n0_ n1_ n2_ n3_ n4_ n5_ n6_;clear hb hbox hg;have hnb27:=NB325_326.out;have hnc27:=NB326_325.out;have hcz28_0:w26.cell? ⟨gb325,0,none⟩ = some (.int .i64 a0_0):=(blk_cell BK325.out 0).trans rfl;have hcz28_1:w26.cell? ⟨gb325,1,none⟩ = some (.int .i64 a0_1):=(blk_cell BK325.out 1).trans rfl;have hcz28_2:w26.cell? ⟨gb325,2,none⟩ = some (.slice A0_2 l0_2.length c0_2):=(blk_cell BK325.out 2).trans rfl;have hfz28_0:=blk_frozen BK325.out 0;have hfz28_1:=blk_frozen BK325.out 1;have hfz28_2:=blk_frozen BK325.out 2) | ((with_reducible refine gate_callee (f:=15) rfl ?_);refine goesL_ (some 6) rfl rfl Tryd.func15 (by kernel_rfl) rfl #[.agg #[.int .i64 a0_0,.int .i64 a0_1,.slice A0_2 l0_2.length c0_2]] rfl (by (try simp only [List.map_toArray,List.map_cons,List.map_nil]);first | done | rfl | (simp only [List.length_drop,List.length_take];rfl)) ?_;(with_reducible refine (spec_SealOk.calls k a0_0 a0_1 _ _ l0_2 false _ ?side1 ?side2 A3.out).mono ?_);(case side1=>repeat (first | exact (Kd.C_below HR0_2.out HB.out) | (with_reducible refine Kd.C_alloc ?_ _) | (with_reducible refine Kd.C_drewN ?_ _) | (with_reducible refine Kd.C_drew ?_)));(case side2=>exact HC0_2.out);rintro e w29 ⟨rfl,hb⟩;refine ⟨_,rfl,?_⟩;have n0_:=Aside0.mk (blk_below (g:=gb325) (o:=.cells #[.int .i64 a0_0,.int .i64 a0_1,.slice A0_2 l0_2.length c0_2] 25 (0,0)) (by (with_reducible repeat (first | refine blk_drewN ?_ _ | refine blk_drew ?_ | refine blk_alloc ?_ _));exact BK325.out) hb);have n1_:=Aside0.mk (blk_below (g:=gb326) (o:=.cells #[.int .i64 a1_0,.int .i64 a1_1,.slice A1_2 l1_2.length c1_2] 25 (0,0)) (by (with_reducible repeat (first | refine blk_drewN ?_ _ | refine blk_drew ?_ | refine blk_alloc ?_ _));exact BK326.out) hb);have n2_:=Aside0.mk (below_step (by repeat (first | (with_reducible first | exact HB.out | apply below_alloc | apply pw_below_drewN | apply below_drew1 | refine below_set ?_ GE325.out | refine below_set ?_ GE326.out) | exact HB.out)) hb);clear BK325;clear BK326;clear HB;have BK325:=n0_;have BK326:=n1_;have HB:=n2_;clear n0_ n1_ n2_;(try clear hb);(try clear hb2);(try clear hk);(try clear hi)))
  go_ret
  exact ⟨by first | rfl | (simp [errW_none,errW_some] <;> rfl) | (simp [*,errW_none,errW_some] <;> rfl),by repeat (first | (with_reducible first | exact HB.out | apply below_alloc | apply pw_below_drewN | apply below_drew1 | refine below_set ?_ GE325.out | refine below_set ?_ GE326.out) | exact HB.out)⟩
def impl_sealText.f:Nat → Int → Int → List (S25) → Option (ByteArray)
 | 0,_,_,_=>none
 | k + 1,a0_0,a0_1,l0_2=>if a0_0 = 1 then (if 0 < (l0_2.length:Int) then ((impl_sealText.f k ((rd_T25 l0_2 0).f0) ((rd_T25 l0_2 0).f1) ((rd_T25 l0_2 0).f2)).bind fun t167=>(if 1 + t167.size ≤ 9223372036854775807 then (if ((⟨#[40]⟩:ByteArray) ++ t167).size + 1 ≤ 9223372036854775807 then (if 1 < (l0_2.length:Int) then ((impl_sealText.f k ((rd_T25 l0_2 1).f0) ((rd_T25 l0_2 1).f1) ((rd_T25 l0_2 1).f2)).bind fun t169=>(if (((⟨#[40]⟩:ByteArray) ++ t167) ++ (⟨#[32]⟩:ByteArray)).size + t169.size ≤ 9223372036854775807 then (if ((((⟨#[40]⟩:ByteArray) ++ t167) ++ (⟨#[32]⟩:ByteArray)) ++ t169).size + 1 ≤ 9223372036854775807 then (some (((((⟨#[40]⟩:ByteArray) ++ t167) ++ (⟨#[32]⟩:ByteArray)) ++ t169) ++ (⟨#[41]⟩:ByteArray))) else (none)) else (none))) else (none)) else (none)) else (none))) else (none)) else (if a0_0 = 2 then (if 1 < (l0_2.length:Int) then ((impl_sealText.f k ((rd_T25 l0_2 1).f0) ((rd_T25 l0_2 1).f1) ((rd_T25 l0_2 1).f2)).bind fun t171=>(if 1 + t171.size ≤ 9223372036854775807 then (if ((⟨#[123]⟩:ByteArray) ++ t171).size + 1 ≤ 9223372036854775807 then (if 0 < (l0_2.length:Int) then ((impl_sealText.f k ((rd_T25 l0_2 0).f0) ((rd_T25 l0_2 0).f1) ((rd_T25 l0_2 0).f2)).bind fun t173=>(if (((⟨#[123]⟩:ByteArray) ++ t171) ++ (⟨#[125]⟩:ByteArray)).size + t173.size ≤ 9223372036854775807 then (some ((((⟨#[123]⟩:ByteArray) ++ t171) ++ (⟨#[125]⟩:ByteArray)) ++ t173)) else (none))) else (none)) else (none)) else (none))) else (none)) else ((strconv_Itoa_59.f a0_1).bind fun t174=>(if 1 + t174.size ≤ 9223372036854775807 then (some ((⟨#[109]⟩:ByteArray) ++ t174)) else (none))))
theorem impl_sealText.mono_l:∀ k,(∀ y0 y1 y2,LeO (impl_sealText.f k y0 y1 y2) (impl_sealText.f (k + 1) y0 y1 y2))
 | 0=>fun _ _ _ r h=>by simp [impl_sealText.f] at h
 | k + 1=>by
  have ih0:=impl_sealText.mono_l k
  ·intro y0 y1 y2
   unfold impl_sealText.f
   repeat' first
   | (with_reducible exact ih0 _ _ _)
   | (with_reducible exact LeO.refl _)
   | (with_reducible exact LeO.none _)
   | (with_reducible refine LeO.ite ?_ ?_)
   | (with_reducible refine LeO.bind ?_ (fun _=>?_))
   | exact ih0 _ _ _
   | exact LeO.none _
   | refine LeO.ite ?_ ?_
   | refine LeO.bind ?_ (fun _=>?_)
theorem impl_sealText.mono:∀ a0 a1 a2 k,LeO (impl_sealText.f k a0 a1 a2) (impl_sealText.f (k + 1) a0 a1 a2):=by
 intro a0 a1 a2 k
 have ih0:=impl_sealText.mono_l k
 exact ih0 a0 a1 a2
def impl_sealText.T3:Bool × List (List Nat × List Nat):=(true,[([],[]),([0],[0]),([1],[1]),([2],[2]),([3],[3]),([4],[4]),([5],[5]),([],[]),([7],[7]),([8],[8]),([9],[9]),([10,4],[10]),([6,11],[6,11]),([12],[12]),([13,11,0,1,2,3,4,5,6,7,8,9,10,11,12,13],[13])])
def impl_sealText.B3:List Nat:=[0,1,3,7,15,31,63,0,128,384,896,1951,4095,8191,16383]
theorem impl_sealText.tab3:rtab .any (opsOf Tryd.f46 3) = impl_sealText.T3:=by kernel_rfl
theorem impl_sealText.bits3:waitsOk impl_sealText.T3.2 impl_sealText.B3 = true:=by kernel_rfl
def impl_sealText.T5:Bool × List (List Nat × List Nat):=(true,[([],[]),([0],[0]),([1],[1]),([2],[2]),([3],[3]),([4],[4]),([5],[5]),([],[]),([7],[7]),([8],[8]),([9],[9]),([10,4],[10]),([6,11],[6,11]),([12,11,0,1,2,3,4,5,6,7,8,9,10,11,12],[12])])
def impl_sealText.B5:List Nat:=[0,1,3,7,15,31,63,0,128,384,896,1951,4095,8191]
theorem impl_sealText.tab5:rtab .any (opsOf Tryd.f46 5) = impl_sealText.T5:=by kernel_rfl
theorem impl_sealText.bits5:waitsOk impl_sealText.T5.2 impl_sealText.B5 = true:=by kernel_rfl
set_option maxHeartbeats 8000000 in
set_option maxRecDepth 100000 in
theorem impl_sealText.calls (k:Nat):∀ (a0_0:Int) (a0_1:Int) (A0_2:Option Addr) (c0_2:Nat) (l0_2:List (S25)) (r:ByteArray) (w:World) (hr0_2:Kd.C k25 w A0_2 l0_2.length l0_2) (hc0_2:l0_2.length ≤ c0_2) (h:impl_sealText.f k a0_0 a0_1 l0_2 = some r),
  Calls Tryd.prog 46 #[.agg #[.int .i64 a0_0,.int .i64 a0_1,.slice A0_2 l0_2.length c0_2]] w fun e w'=>e = .returned (.string r)∧Below w.heap.size w w':=by
 induction k using Nat.strongRecOn with
 | _ k ih =>
 intro a0_0 a0_1 A0_2 c0_2 l0_2 r w hr0_2 hc0_2 h
 cases k with
 | zero=>exact absurd h (by simp [impl_sealText.f])
 | succ k =>
 simp only [impl_sealText.f] at h
 have hu25:=Tryd.underlying25
 have HR0_2:=Aside0.mk hr0_2
 have HC0_2:=Aside0.mk hc0_2
 clear hr0_2 hc0_2
 have HB:=Aside0.mk (Below.refl w.heap.size w)
 have H:(if a0_0 = 1 then (if 0 < (l0_2.length:Int) then ((impl_sealText.f k ((rd_T25 l0_2 0).f0) ((rd_T25 l0_2 0).f1) ((rd_T25 l0_2 0).f2)).bind fun t167=>(if 1 + t167.size ≤ 9223372036854775807 then (if ((⟨#[40]⟩:ByteArray) ++ t167).size + 1 ≤ 9223372036854775807 then (if 1 < (l0_2.length:Int) then ((impl_sealText.f k ((rd_T25 l0_2 1).f0) ((rd_T25 l0_2 1).f1) ((rd_T25 l0_2 1).f2)).bind fun t169=>(if (((⟨#[40]⟩:ByteArray) ++ t167) ++ (⟨#[32]⟩:ByteArray)).size + t169.size ≤ 9223372036854775807 then (if ((((⟨#[40]⟩:ByteArray) ++ t167) ++ (⟨#[32]⟩:ByteArray)) ++ t169).size + 1 ≤ 9223372036854775807 then (some (((((⟨#[40]⟩:ByteArray) ++ t167) ++ (⟨#[32]⟩:ByteArray)) ++ t169) ++ (⟨#[41]⟩:ByteArray))) else (none)) else (none))) else (none)) else (none)) else (none))) else (none)) else (if a0_0 = 2 then (if 1 < (l0_2.length:Int) then ((impl_sealText.f k ((rd_T25 l0_2 1).f0) ((rd_T25 l0_2 1).f1) ((rd_T25 l0_2 1).f2)).bind fun t171=>(if 1 + t171.size ≤ 9223372036854775807 then (if ((⟨#[123]⟩:ByteArray) ++ t171).size + 1 ≤ 9223372036854775807 then (if 0 < (l0_2.length:Int) then ((impl_sealText.f k ((rd_T25 l0_2 0).f0) ((rd_T25 l0_2 0).f1) ((rd_T25 l0_2 0).f2)).bind fun t173=>(if (((⟨#[123]⟩:ByteArray) ++ t171) ++ (⟨#[125]⟩:ByteArray)).size + t173.size ≤ 9223372036854775807 then (some ((((⟨#[123]⟩:ByteArray) ++ t171) ++ (⟨#[125]⟩:ByteArray)) ++ t173)) else (none))) else (none)) else (none)) else (none))) else (none)) else ((strconv_Itoa_59.f a0_1).bind fun t174=>(if 1 + t174.size ≤ 9223372036854775807 then (some ((⟨#[109]⟩:ByteArray) ++ t174)) else (none))))) = some r:=h
 clear h
 by_cases c2:a0_0 = 1
 ·rw [if_pos c2] at H
  have c2b0:(a0_0 == 1) = true:=beq_iff_eq.mpr c2
  have c2b1:(a0_0 != 1) = false:=bne_eq_false_iff_eq.mpr c2
  clear c2
  by_cases c3:0 < (l0_2.length:Int)
  ·rw [if_pos c3] at H
   have c3b0:decide (0 < (l0_2.length:Int)) = true:=decide_eq_true c3
   have c3b1:decide (0 < l0_2.length) = true:=decide_eq_true (by omega)
   clear c3
   replace H:=Option.bind_eq_some_iff.mp H
   obtain ⟨t167,A40,H⟩:=H
   replace H:(if 1 + t167.size ≤ 9223372036854775807 then (if ((⟨#[40]⟩:ByteArray) ++ t167).size + 1 ≤ 9223372036854775807 then (if 1 < (l0_2.length:Int) then ((impl_sealText.f k ((rd_T25 l0_2 1).f0) ((rd_T25 l0_2 1).f1) ((rd_T25 l0_2 1).f2)).bind fun t169=>(if (((⟨#[40]⟩:ByteArray) ++ t167) ++ (⟨#[32]⟩:ByteArray)).size + t169.size ≤ 9223372036854775807 then (if ((((⟨#[40]⟩:ByteArray) ++ t167) ++ (⟨#[32]⟩:ByteArray)) ++ t169).size + 1 ≤ 9223372036854775807 then (some (((((⟨#[40]⟩:ByteArray) ++ t167) ++ (⟨#[32]⟩:ByteArray)) ++ t169) ++ (⟨#[41]⟩:ByteArray))) else (none)) else (none))) else (none)) else (none)) else (none)) = some r:=H
   have A4:=Aside0.mk A40
   clear A40
   by_cases c5:1 + t167.size ≤ 9223372036854775807
   ·rw [if_pos c5] at H
    have c5b0:=eq_true c5
    have c5b1:decide (1 + t167.size ≤ 9223372036854775807) = true:=decide_eq_true c5
    try have c5b2:(9223372036854775807 < 1 + t167.size) = False:=eq_false (Nat.not_lt.2 c5)
    by_cases c6:((⟨#[40]⟩:ByteArray) ++ t167).size + 1 ≤ 9223372036854775807
    ·rw [if_pos c6] at H
     have c6b0:=eq_true c6
     have c6b1:decide (((⟨#[40]⟩:ByteArray) ++ t167).size + 1 ≤ 9223372036854775807) = true:=decide_eq_true c6
     try have c6b2:(9223372036854775807 < ((⟨#[40]⟩:ByteArray) ++ t167).size + 1) = False:=eq_false (Nat.not_lt.2 c6)
     try (have c6b3:=c6b2;simp only [ByteArray.size_append,show (⟨#[40]⟩:ByteArray).size = 1 from rfl] at c6b3)
     by_cases c7:1 < (l0_2.length:Int)
     ·rw [if_pos c7] at H
      have c7b0:decide (1 < (l0_2.length:Int)) = true:=decide_eq_true c7
      have c7b1:decide (1 < l0_2.length) = true:=decide_eq_true (by omega)
      clear c7
      replace H:=Option.bind_eq_some_iff.mp H
      obtain ⟨t169,A80,H⟩:=H
      replace H:(if (((⟨#[40]⟩:ByteArray) ++ t167) ++ (⟨#[32]⟩:ByteArray)).size + t169.size ≤ 9223372036854775807 then (if ((((⟨#[40]⟩:ByteArray) ++ t167) ++ (⟨#[32]⟩:ByteArray)) ++ t169).size + 1 ≤ 9223372036854775807 then (some (((((⟨#[40]⟩:ByteArray) ++ t167) ++ (⟨#[32]⟩:ByteArray)) ++ t169) ++ (⟨#[41]⟩:ByteArray))) else (none)) else (none)) = some r:=H
      have A8:=Aside0.mk A80
      clear A80
      by_cases c9:(((⟨#[40]⟩:ByteArray) ++ t167) ++ (⟨#[32]⟩:ByteArray)).size + t169.size ≤ 9223372036854775807
      ·rw [if_pos c9] at H
       have c9b0:=eq_true c9
       have c9b1:decide ((((⟨#[40]⟩:ByteArray) ++ t167) ++ (⟨#[32]⟩:ByteArray)).size + t169.size ≤ 9223372036854775807) = true:=decide_eq_true c9
       try have c9b2:(9223372036854775807 < (((⟨#[40]⟩:ByteArray) ++ t167) ++ (⟨#[32]⟩:ByteArray)).size + t169.size) = False:=eq_false (Nat.not_lt.2 c9)
       try (have c9b3:=c9b2;simp only [ByteArray.size_append,show (⟨#[32]⟩:ByteArray).size = 1 from rfl,show (⟨#[40]⟩:ByteArray).size = 1 from rfl] at c9b3)
       by_cases c10:((((⟨#[40]⟩:ByteArray) ++ t167) ++ (⟨#[32]⟩:ByteArray)) ++ t169).size + 1 ≤ 9223372036854775807
       ·rw [if_pos c10] at H
        have c10b0:=eq_true c10
        have c10b1:decide (((((⟨#[40]⟩:ByteArray) ++ t167) ++ (⟨#[32]⟩:ByteArray)) ++ t169).size + 1 ≤ 9223372036854775807) = true:=decide_eq_true c10
        try have c10b2:(9223372036854775807 < ((((⟨#[40]⟩:ByteArray) ++ t167) ++ (⟨#[32]⟩:ByteArray)) ++ t169).size + 1) = False:=eq_false (Nat.not_lt.2 c10)
        try (have c10b3:=c10b2;simp only [ByteArray.size_append,show (⟨#[32]⟩:ByteArray).size = 1 from rfl,show (⟨#[40]⟩:ByteArray).size = 1 from rfl] at c10b3)
        obtain rfl:=Option.some.inj H
        go_enter Tryd.func46,Tryd.ntmps46
        try go_wp2_with (first | ((with_reducible refine gate_dst (N:=1) rfl ?_);refine box_event ?hg (N:=1) ?hd (cs:=#[.int .i64 a0_0,.int .i64 a0_1,.slice A0_2 l0_2.length c0_2]) (t:=25) ?hr ?_;(case hd=>rfl);(case hg=>rfl);(case hr=>first | (go_simp;done) | (go_simp;rfl));intro gb165 hg w11 hbox hb;have n0_:=Aside0.mk (below_step (by repeat (first | (with_reducible first | exact HB.out | apply below_alloc | apply pw_below_drewN | apply below_drew1) | exact HB.out)) hb);have n1_:=Aside0.mk (hbox);have n2_:=Aside0.mk ((by rw [hg];exact (below_size (by repeat (first | (with_reducible first | exact HB.out | apply below_alloc | apply pw_below_drewN | apply below_drew1) | exact HB.out))):w.heap.size ≤ gb165));have n3_:=Aside0.mk ((by rw [hg];exact (below_size (by repeat (first | (with_reducible first | exact HB.out | apply below_alloc | apply pw_below_drewN | apply below_drew1) | exact HB.out))):w.heap.size ≤ gb165));clear HB;have HB:=n0_;have BK165:=n1_;have GW165:=n2_;have GE165:=n3_;clear n0_ n1_ n2_ n3_;clear hb hbox hg;have hcz12_0:w11.cell? ⟨gb165,0,none⟩ = some (.int .i64 a0_0):=(blk_cell BK165.out 0).trans rfl;have hcz12_1:w11.cell? ⟨gb165,1,none⟩ = some (.int .i64 a0_1):=(blk_cell BK165.out 1).trans rfl;have hcz12_2:w11.cell? ⟨gb165,2,none⟩ = some (.slice A0_2 l0_2.length c0_2):=(blk_cell BK165.out 2).trans rfl;have hfz12_0:=blk_frozen BK165.out 0;have hfz12_1:=blk_frozen BK165.out 1;have hfz12_2:=blk_frozen BK165.out 2))
        have n0_:=Aside0.mk (blk_drew BK165.out)
        have n1_:=Aside0.mk (below_drew1 HB.out)
        clear BK165
        clear HB
        have BK165:=n0_
        have HB:=n1_
        clear n0_ n1_
        have p166:0 ≤ (0:Int):=(by omega)
        have q166:0 < (l0_2.length:Int):=of_decide_eq_true (by first | (with_reducible assumption) | assumption)
        obtain ⟨ad166,A166_2,c166_2,e166,hx166_0,hx166_1,hx166_2,hl166_2,hi166_2⟩:=at_T25 HR0_2.out 0 p166 q166
        have hw166_2:=hx166_2
        (try rw [show ((0:Int)).toNat = 0 from rfl] at hw166_2)
        (try rw [show 0 * 3 = 0 from rfl] at hw166_2)
        (try rw [Addr.add_zero'] at hw166_2)
        have hw166_1:=hx166_1
        (try rw [show ((0:Int)).toNat = 0 from rfl] at hw166_1)
        (try rw [show 0 * 3 = 0 from rfl] at hw166_1)
        (try rw [Addr.add_zero'] at hw166_1)
        have hw166_0:=hx166_0
        (try rw [show ((0:Int)).toNat = 0 from rfl] at hw166_0)
        (try rw [show 0 * 3 = 0 from rfl] at hw166_0)
        (try rw [Addr.add_zero'] at hw166_0)
        cases e166
        have qi166:(0 < l0_2.length) = True:=eq_true (by omega)
        (try rw [show ((0:Int)).toNat = 0 from rfl] at hx166_0)
        (try rw [show 0 * 3 = 0 from rfl] at hx166_0)
        (try rw [Addr.add_zero'] at hx166_0)
        (try rw [show ((0:Int)).toNat = 0 from rfl] at hx166_1)
        (try rw [show 0 * 3 = 0 from rfl] at hx166_1)
        (try rw [Addr.add_zero'] at hx166_1)
        (try rw [show ((0:Int)).toNat = 0 from rfl] at hx166_2)
        (try rw [show 0 * 3 = 0 from rfl] at hx166_2)
        (try rw [Addr.add_zero'] at hx166_2)
        replace hx166_0:=(HB.out.cell (World.block_lt_of_cell? w _ hx166_0)).trans hx166_0
        replace hx166_1:=(HB.out.cell (World.block_lt_of_cell? w _ hx166_1)).trans hx166_1
        replace hx166_2:=(HB.out.cell (World.block_lt_of_cell? w _ hx166_2)).trans hx166_2
        have HR166_2:=Aside0.mk hi166_2
        have HC166_2:=Aside0.mk hl166_2
        clear hi166_2 hl166_2
        replace p166:=eq_true p166
        replace q166:=eq_true q166
        have p168:0 ≤ (1:Int):=(by omega)
        have q168:1 < (l0_2.length:Int):=of_decide_eq_true (by first | (with_reducible assumption) | assumption)
        obtain ⟨ad168,A168_2,c168_2,e168,hx168_0,hx168_1,hx168_2,hl168_2,hi168_2⟩:=at_T25 HR0_2.out 1 p168 q168
        have hw168_2:=hx168_2
        (try rw [show ((1:Int)).toNat = 1 from rfl] at hw168_2)
        (try rw [show 1 * 3 = 3 from rfl] at hw168_2)
        (try simp only [Nat.reduceMul,Nat.reduceEqDiff,Go.Addr.add,↓reduceIte] at hw168_2)
        have hw168_1:=hx168_1
        (try rw [show ((1:Int)).toNat = 1 from rfl] at hw168_1)
        (try rw [show 1 * 3 = 3 from rfl] at hw168_1)
        (try simp only [Nat.reduceMul,Nat.reduceEqDiff,Go.Addr.add,↓reduceIte] at hw168_1)
        have hw168_0:=hx168_0
        (try rw [show ((1:Int)).toNat = 1 from rfl] at hw168_0)
        (try rw [show 1 * 3 = 3 from rfl] at hw168_0)
        (try simp only [Nat.reduceMul,Nat.reduceEqDiff,Go.Addr.add,↓reduceIte] at hw168_0)
        obtain rfl:ad166 = ad168:=(by injection e168)
        (try simp only [show (1:Int).toNat = 1 from rfl,Nat.reduceMul,Nat.reduceEqDiff,Go.Addr.add,↓reduceIte] at hx168_0)
        (try simp only [show (1:Int).toNat = 1 from rfl,Nat.reduceMul,Nat.reduceEqDiff,Go.Addr.add,↓reduceIte] at hx168_1)
        (try simp only [show (1:Int).toNat = 1 from rfl,Nat.reduceMul,Nat.reduceEqDiff,Go.Addr.add,↓reduceIte] at hx168_2)
        have qi168:(1 < l0_2.length) = True:=eq_true (by omega)
        (try rw [show ((1:Int)).toNat = 1 from rfl] at hx168_0)
        (try rw [show 1 * 3 = 3 from rfl] at hx168_0)
        (try rw [show ((1:Int)).toNat = 1 from rfl] at hx168_1)
        (try rw [show 1 * 3 = 3 from rfl] at hx168_1)
        (try rw [show ((1:Int)).toNat = 1 from rfl] at hx168_2)
        (try rw [show 1 * 3 = 3 from rfl] at hx168_2)
        replace hx168_0:=(HB.out.cell (World.block_lt_of_cell? w _ hx168_0)).trans hx168_0
        replace hx168_1:=(HB.out.cell (World.block_lt_of_cell? w _ hx168_1)).trans hx168_1
        replace hx168_2:=(HB.out.cell (World.block_lt_of_cell? w _ hx168_2)).trans hx168_2
        have HR168_2:=Aside0.mk hi168_2
        have HC168_2:=Aside0.mk hl168_2
        clear hi168_2 hl168_2
        replace p168:=eq_true p168
        replace q168:=eq_true q168
        refine start_ (n:=15) (S:=fun w'=>w'.cell? ⟨gb165,0,none⟩ = some (.int .i64 a0_0)∧w'.cell? ⟨gb165,1,none⟩ = some (.int .i64 a0_1)∧w'.cell? ⟨gb165,2,none⟩ = some (.slice (some ad166) l0_2.length c0_2)∧w'.cell? ad166 = some (.int .i64 ((rd_T25 l0_2 0).f0))∧w'.cell? ⟨ad166.block,ad166.off + 1,none⟩ = some (.int .i64 ((rd_T25 l0_2 0).f1))∧w'.cell? ⟨ad166.block,ad166.off + 2,none⟩ = some (.slice A166_2 ((rd_T25 l0_2 0).f2).length c166_2)∧w'.cell? ⟨ad166.block,ad166.off + 3,none⟩ = some (.int .i64 ((rd_T25 l0_2 1).f0))∧w'.cell? ⟨ad166.block,ad166.off + 3 + 1,none⟩ = some (.int .i64 ((rd_T25 l0_2 1).f1))∧w'.cell? ⟨ad166.block,ad166.off + 3 + 2,none⟩ = some (.slice A168_2 ((rd_T25 l0_2 1).f2).length c168_2)) (ds:=[]) #[false,false,false,false,false,false,false,false,false,false,false,false,false,false,false] (by kernel_rfl) rfl rfl ⟨(blk_cell BK165.out 0).trans rfl,(blk_cell BK165.out 1).trans rfl,(blk_cell BK165.out 2).trans rfl,((HB.out.cell (World.block_lt_of_cell? w _ hw166_0)).trans hw166_0),((HB.out.cell (World.block_lt_of_cell? w _ hw166_1)).trans hw166_1),((HB.out.cell (World.block_lt_of_cell? w _ hw166_2)).trans hw166_2),((HB.out.cell (World.block_lt_of_cell? w _ hw168_0)).trans hw168_0),((HB.out.cell (World.block_lt_of_cell? w _ hw168_1)).trans hw168_1),((HB.out.cell (World.block_lt_of_cell? w _ hw168_2)).trans hw168_2)⟩ (fun hHeld=>?_);refine with_tabW impl_sealText.tab3 impl_sealText.bits3 (fun HT_ HW_=>?_)
        generalize w11.drew = w13 at BK165 HB HR166_2 HR168_2 hx166_0 hx166_1 hx166_2 hx168_0 hx168_1 hx168_2 hHeld ⊢
        refine pure_ (i:=0) (N:=some 7) (v:=?_) (a':=?_) #[true,false,false,false,false,false,false,false,false,false,false,false,false,false,false] rfl rfl (any_of HT_.out (by kernel_rfl)) (fun _ _ _ h=>h) (Or.inl ⟨by rfl,?_⟩) ?_ ?_
        rotate_left;·intro w';go_simp;with_reducible rfl
        rotate_left;·simp only [Act.put,List.setIfInBounds_toArray,List.set_cons_zero,List.set_cons_succ,i64_w,i32_w];rfl
        refine pure_ (i:=7) (N:=some 14) (v:=?_) (a':=?_) #[true,false,false,false,false,false,false,true,false,false,false,false,false,false,false] rfl rfl (any_of HT_.out (by kernel_rfl)) (fun _ _ _ h=>h) (Or.inl ⟨by rfl,?_⟩) ?_ ?_
        rotate_left;·intro w';go_simp;with_reducible rfl
        rotate_left;·simp only [Act.put,List.setIfInBounds_toArray,List.set_cons_zero,List.set_cons_succ,i64_w,i32_w];rfl
        refine take_ (i:=1) (N:=some 8) (v:=?_) (a':=?_) #[true,true,false,false,false,false,false,true,false,false,false,false,false,false,false] rfl rfl (take_ofW HT_.out HW_.out (by kernel_rfl)) (fun _ _ _ h=>h) (Or.inl ⟨by rfl,?_⟩) hHeld ?_ ?_
        rotate_left;·rintro w' ⟨s0,s1,s2,s3,s4,s5,s6,s7,s8⟩;go_simp;with_reducible rfl
        rotate_left;·simp only [Act.put,List.setIfInBounds_toArray,List.set_cons_zero,List.set_cons_succ,i64_w,i32_w];rfl
        refine pure_ (i:=2) (N:=some 9) (v:=?_) (a':=?_) #[true,true,true,false,false,false,false,true,false,false,false,false,false,false,false] rfl rfl (any_of HT_.out (by kernel_rfl)) (fun _ _ _ h=>h) (Or.inl ⟨by rfl,?_⟩) ?_ ?_
        rotate_left;·intro w';go_simp;with_reducible rfl
        rotate_left;·simp only [Act.put,List.setIfInBounds_toArray,List.set_cons_zero,List.set_cons_succ,i64_w,i32_w];rfl
        refine take_ (i:=3) (N:=some 10) (v:=?_) (a':=?_) #[true,true,true,true,false,false,false,true,false,false,false,false,false,false,false] rfl rfl (take_ofW HT_.out HW_.out (by kernel_rfl)) (fun _ _ _ h=>h) (Or.inl ⟨by rfl,?_⟩) hHeld ?_ ?_
        rotate_left;·rintro w' ⟨s0,s1,s2,s3,s4,s5,s6,s7,s8⟩;go_simp;with_reducible rfl
        rotate_left;·simp only [Act.put,List.setIfInBounds_toArray,List.set_cons_zero,List.set_cons_succ,i64_w,i32_w];rfl
        refine take_ (i:=8) (N:=some 15) (v:=?_) (a':=?_) #[true,true,true,true,false,false,false,true,true,false,false,false,false,false,false] rfl rfl (take_ofW HT_.out HW_.out (by kernel_rfl)) (fun _ _ _ h=>h) (Or.inl ⟨by rfl,?_⟩) hHeld ?_ ?_
        rotate_left;·rintro w' ⟨s0,s1,s2,s3,s4,s5,s6,s7,s8⟩;go_simp;with_reducible rfl
        rotate_left;·simp only [Act.put,List.setIfInBounds_toArray,List.set_cons_zero,List.set_cons_succ,i64_w,i32_w];rfl
        refine pure_ (i:=9) (N:=some 16) (v:=?_) (a':=?_) #[true,true,true,true,false,false,false,true,true,true,false,false,false,false,false] rfl rfl (any_of HT_.out (by kernel_rfl)) (fun _ _ _ h=>h) (Or.inl ⟨by rfl,?_⟩) ?_ ?_
        rotate_left;·intro w';go_simp;with_reducible rfl
        rotate_left;·simp only [Act.put,List.setIfInBounds_toArray,List.set_cons_zero,List.set_cons_succ,i64_w,i32_w];rfl
        refine take_ (i:=10) (N:=some 17) (v:=?_) (a':=?_) #[true,true,true,true,false,false,false,true,true,true,true,false,false,false,false] rfl rfl (take_ofW HT_.out HW_.out (by kernel_rfl)) (fun _ _ _ h=>h) (Or.inl ⟨by rfl,?_⟩) hHeld ?_ ?_
        rotate_left;·rintro w' ⟨s0,s1,s2,s3,s4,s5,s6,s7,s8⟩;go_simp;with_reducible rfl
        rotate_left;·simp only [Act.put,List.setIfInBounds_toArray,List.set_cons_zero,List.set_cons_succ,i64_w,i32_w];rfl
        refine one_ (i:=4) (N:=some 11) #[true,true,true,true,true,false,false,true,true,true,true,false,false,false,false] rfl rfl (one_of HT_.out (by kernel_rfl)) (by decide) (fun K hK=>?_)
        refine goes_ Tryd.func46 (by kernel_rfl) rfl #[.agg #[.int .i64 ((rd_T25 l0_2 0).f0),.int .i64 ((rd_T25 l0_2 0).f1),.slice A166_2 ((rd_T25 l0_2 0).f2).length c166_2]] (by rfl) rfl rfl (by (try simp only [List.map_toArray,List.map_cons,List.map_nil]);first | done | rfl | (simp only [List.length_drop,List.length_take];rfl)) ?_
        with_reducible refine (ih k (by omega) ((rd_T25 l0_2 0).f0) ((rd_T25 l0_2 0).f1) _ _ ((rd_T25 l0_2 0).f2) t167 _ ?side1 ?side2 A4.out).mono ?_
        (case side1=>repeat (first | exact (Kd.C_below HR166_2.out HB.out) | (with_reducible refine Kd.C_alloc ?_ _) | (with_reducible refine Kd.C_drewN ?_ _) | (with_reducible refine Kd.C_drew ?_)))
        (case side2=>exact HC166_2.out)
        rintro e w14 ⟨rfl,hb⟩
        refine ⟨_,rfl,?_⟩
        have n0_:=Aside0.mk (blk_below (g:=gb165) (o:=.cells #[.int .i64 a0_0,.int .i64 a0_1,.slice (some ad166) l0_2.length c0_2] 25 (0,0)) (by (with_reducible repeat (first | refine blk_drewN ?_ _ | refine blk_drew ?_ | refine blk_alloc ?_ _));exact BK165.out) hb)
        have n1_:=Aside0.mk (below_step (by repeat (first | (with_reducible first | exact HB.out | apply below_alloc | apply pw_below_drewN | apply below_drew1 | refine below_set ?_ GE165.out) | exact HB.out)) hb)
        clear BK165
        clear HB
        have BK165:=n0_
        have HB:=n1_
        clear n0_ n1_
        (try clear hb)
        (try clear hb2)
        (try clear hk)
        (try clear hi)
        refine hK.out _ _ ⟨(blk_cell BK165.out 0).trans rfl,(blk_cell BK165.out 1).trans rfl,(blk_cell BK165.out 2).trans rfl,((HB.out.cell (World.block_lt_of_cell? w _ hw166_0)).trans hw166_0),((HB.out.cell (World.block_lt_of_cell? w _ hw166_1)).trans hw166_1),((HB.out.cell (World.block_lt_of_cell? w _ hw166_2)).trans hw166_2),((HB.out.cell (World.block_lt_of_cell? w _ hw168_0)).trans hw168_0),((HB.out.cell (World.block_lt_of_cell? w _ hw168_1)).trans hw168_1),((HB.out.cell (World.block_lt_of_cell? w _ hw168_2)).trans hw168_2)⟩ (fun hHeld=>?_)
        clear hK K
        refine norm_ (a':=?_) ?_ ?_
        rotate_left
        ·show Act.put _ (some 11) _ = _
         simp only [Act.put,List.setIfInBounds_toArray,List.set_cons_zero,List.set_cons_succ,i64_w,i32_w]
         rfl
        refine pure_ (i:=5) (N:=some 12) (v:=?_) (a':=?_) #[true,true,true,true,true,true,false,true,true,true,true,false,false,false,false] rfl rfl (any_of HT_.out (by kernel_rfl)) (fun _ _ _ h=>h) (Or.inl ⟨by rfl,?_⟩) ?_ ?_
        rotate_left;·intro w';go_simp;with_reducible rfl
        rotate_left;·simp only [Act.put,List.setIfInBounds_toArray,List.set_cons_zero,List.set_cons_succ,i64_w,i32_w];rfl
        refine pure_ (i:=6) (N:=some 13) (v:=?_) (a':=?_) #[true,true,true,true,true,true,true,true,true,true,true,false,false,false,false] rfl rfl (any_of HT_.out (by kernel_rfl)) (fun _ _ _ h=>h) (Or.inl ⟨by rfl,?_⟩) ?_ ?_
        rotate_left;·intro w';go_simp;with_reducible rfl
        rotate_left;·simp only [Act.put,List.setIfInBounds_toArray,List.set_cons_zero,List.set_cons_succ,i64_w,i32_w];rfl
        refine one_ (i:=11) (N:=some 18) #[true,true,true,true,true,true,true,true,true,true,true,true,false,false,false] rfl rfl (one_of HT_.out (by kernel_rfl)) (by decide) (fun K hK=>?_)
        refine goes_ Tryd.func46 (by kernel_rfl) rfl #[.agg #[.int .i64 ((rd_T25 l0_2 1).f0),.int .i64 ((rd_T25 l0_2 1).f1),.slice A168_2 ((rd_T25 l0_2 1).f2).length c168_2]] (by rfl) rfl rfl (by (try simp only [List.map_toArray,List.map_cons,List.map_nil]);first | done | rfl | (simp only [List.length_drop,List.length_take];rfl)) ?_
        with_reducible refine (ih k (by omega) ((rd_T25 l0_2 1).f0) ((rd_T25 l0_2 1).f1) _ _ ((rd_T25 l0_2 1).f2) t169 _ ?side1 ?side2 A8.out).mono ?_
        (case side1=>repeat (first | exact (Kd.C_below HR168_2.out HB.out) | (with_reducible refine Kd.C_alloc ?_ _) | (with_reducible refine Kd.C_drewN ?_ _) | (with_reducible refine Kd.C_drew ?_)))
        (case side2=>exact HC168_2.out)
        rintro e w15 ⟨rfl,hb⟩
        refine ⟨_,rfl,?_⟩
        have n0_:=Aside0.mk (blk_below (g:=gb165) (o:=.cells #[.int .i64 a0_0,.int .i64 a0_1,.slice (some ad166) l0_2.length c0_2] 25 (0,0)) (by (with_reducible repeat (first | refine blk_drewN ?_ _ | refine blk_drew ?_ | refine blk_alloc ?_ _));exact BK165.out) hb)
        have n1_:=Aside0.mk (below_step (by repeat (first | (with_reducible first | exact HB.out | apply below_alloc | apply pw_below_drewN | apply below_drew1 | refine below_set ?_ GE165.out) | exact HB.out)) hb)
        clear BK165
        clear HB
        have BK165:=n0_
        have HB:=n1_
        clear n0_ n1_
        (try clear hb)
        (try clear hb2)
        (try clear hk)
        (try clear hi)
        refine hK.out _ _ ⟨(blk_cell BK165.out 0).trans rfl,(blk_cell BK165.out 1).trans rfl,(blk_cell BK165.out 2).trans rfl,((HB.out.cell (World.block_lt_of_cell? w _ hw166_0)).trans hw166_0),((HB.out.cell (World.block_lt_of_cell? w _ hw166_1)).trans hw166_1),((HB.out.cell (World.block_lt_of_cell? w _ hw166_2)).trans hw166_2),((HB.out.cell (World.block_lt_of_cell? w _ hw168_0)).trans hw168_0),((HB.out.cell (World.block_lt_of_cell? w _ hw168_1)).trans hw168_1),((HB.out.cell (World.block_lt_of_cell? w _ hw168_2)).trans hw168_2)⟩ (fun hHeld=>?_)
        clear hK K
        refine norm_ (a':=?_) ?_ ?_
        rotate_left
        ·show Act.put _ (some 18) _ = _
         simp only [Act.put,List.setIfInBounds_toArray,List.set_cons_zero,List.set_cons_succ,i64_w,i32_w]
         rfl
        refine pure_ (i:=12) (N:=some 19) (v:=?_) (a':=?_) #[true,true,true,true,true,true,true,true,true,true,true,true,true,false,false] rfl rfl (any_of HT_.out (by kernel_rfl)) (fun _ _ _ h=>h) (Or.inl ⟨by rfl,?_⟩) ?_ ?_
        rotate_left;·intro w';go_simp;with_reducible rfl
        rotate_left;·simp only [Act.put,List.setIfInBounds_toArray,List.set_cons_zero,List.set_cons_succ,i64_w,i32_w];rfl
        refine pure_ (i:=13) (N:=some 20) (v:=?_) (a':=?_) #[true,true,true,true,true,true,true,true,true,true,true,true,true,true,false] rfl rfl (any_of HT_.out (by kernel_rfl)) (fun _ _ _ h=>h) (Or.inl ⟨by rfl,?_⟩) ?_ ?_
        rotate_left;·intro w';go_simp;with_reducible rfl
        rotate_left;·simp only [Act.put,List.setIfInBounds_toArray,List.set_cons_zero,List.set_cons_succ,i64_w,i32_w];rfl
        refine pure_ (i:=14) (N:=some 2) (v:=?_) (a':=?_) #[true,true,true,true,true,true,true,true,true,true,true,true,true,true,true] rfl rfl (any_of HT_.out (by kernel_rfl)) (fun _ _ _ h=>h) (Or.inl ⟨by rfl,?_⟩) ?_ ?_
        rotate_left;·intro w';go_simp;with_reducible rfl
        rotate_left;·simp only [Act.put,List.setIfInBounds_toArray,List.set_cons_zero,List.set_cons_succ,i64_w,i32_w];rfl
        refine done_ (done_of HT_.out (by kernel_rfl)) ?_
        try go_wp2
        go_ret
        exact ⟨by first | rfl | (simp [errW_none,errW_some] <;> rfl) | (simp [*,errW_none,errW_some] <;> rfl),by repeat (first | (with_reducible first | exact HB.out | apply below_alloc | apply pw_below_drewN | apply below_drew1 | refine below_set ?_ GE165.out) | exact HB.out)⟩
       ·rw [if_neg c10] at H
        exact absurd H (by simp)
      ·rw [if_neg c9] at H
       exact absurd H (by simp)
     ·rw [if_neg c7] at H
      exact absurd H (by simp)
    ·rw [if_neg c6] at H
     exact absurd H (by simp)
   ·rw [if_neg c5] at H
    exact absurd H (by simp)
  ·rw [if_neg c3] at H
   exact absurd H (by simp)
 ·rw [if_neg c2] at H
  have c2b0:(a0_0 == 1) = false:=beq_eq_false_iff_ne.mpr c2
  have c2b1:(a0_0 != 1) = true:=bne_iff_ne.mpr c2
  by_cases c16:a0_0 = 2
  ·rw [if_pos c16] at H
   have c16b0:(a0_0 == 2) = true:=beq_iff_eq.mpr c16
   have c16b1:(a0_0 != 2) = false:=bne_eq_false_iff_eq.mpr c16
   clear c16
   by_cases c17:1 < (l0_2.length:Int)
   ·rw [if_pos c17] at H
    have c17b0:decide (1 < (l0_2.length:Int)) = true:=decide_eq_true c17
    have c17b1:decide (1 < l0_2.length) = true:=decide_eq_true (by omega)
    clear c17
    replace H:=Option.bind_eq_some_iff.mp H
    obtain ⟨t171,A180,H⟩:=H
    replace H:(if 1 + t171.size ≤ 9223372036854775807 then (if ((⟨#[123]⟩:ByteArray) ++ t171).size + 1 ≤ 9223372036854775807 then (if 0 < (l0_2.length:Int) then ((impl_sealText.f k ((rd_T25 l0_2 0).f0) ((rd_T25 l0_2 0).f1) ((rd_T25 l0_2 0).f2)).bind fun t173=>(if (((⟨#[123]⟩:ByteArray) ++ t171) ++ (⟨#[125]⟩:ByteArray)).size + t173.size ≤ 9223372036854775807 then (some ((((⟨#[123]⟩:ByteArray) ++ t171) ++ (⟨#[125]⟩:ByteArray)) ++ t173)) else (none))) else (none)) else (none)) else (none)) = some r:=H
    have A18:=Aside0.mk A180
    clear A180
    by_cases c19:1 + t171.size ≤ 9223372036854775807
    ·rw [if_pos c19] at H
     have c19b0:=eq_true c19
     have c19b1:decide (1 + t171.size ≤ 9223372036854775807) = true:=decide_eq_true c19
     try have c19b2:(9223372036854775807 < 1 + t171.size) = False:=eq_false (Nat.not_lt.2 c19)
     by_cases c20:((⟨#[123]⟩:ByteArray) ++ t171).size + 1 ≤ 9223372036854775807
     ·rw [if_pos c20] at H
      have c20b0:=eq_true c20
      have c20b1:decide (((⟨#[123]⟩:ByteArray) ++ t171).size + 1 ≤ 9223372036854775807) = true:=decide_eq_true c20
      try have c20b2:(9223372036854775807 < ((⟨#[123]⟩:ByteArray) ++ t171).size + 1) = False:=eq_false (Nat.not_lt.2 c20)
      try (have c20b3:=c20b2;simp only [ByteArray.size_append,show (⟨#[123]⟩:ByteArray).size = 1 from rfl] at c20b3)
      by_cases c21:0 < (l0_2.length:Int)
      ·rw [if_pos c21] at H
       have c21b0:decide (0 < (l0_2.length:Int)) = true:=decide_eq_true c21
       have c21b1:decide (0 < l0_2.length) = true:=decide_eq_true (by omega)
       clear c21
       replace H:=Option.bind_eq_some_iff.mp H
       obtain ⟨t173,A220,H⟩:=H
       replace H:(if (((⟨#[123]⟩:ByteArray) ++ t171) ++ (⟨#[125]⟩:ByteArray)).size + t173.size ≤ 9223372036854775807 then (some ((((⟨#[123]⟩:ByteArray) ++ t171) ++ (⟨#[125]⟩:ByteArray)) ++ t173)) else (none)) = some r:=H
       have A22:=Aside0.mk A220
       clear A220
       by_cases c23:(((⟨#[123]⟩:ByteArray) ++ t171) ++ (⟨#[125]⟩:ByteArray)).size + t173.size ≤ 9223372036854775807
       ·rw [if_pos c23] at H
        have c23b0:=eq_true c23
        have c23b1:decide ((((⟨#[123]⟩:ByteArray) ++ t171) ++ (⟨#[125]⟩:ByteArray)).size + t173.size ≤ 9223372036854775807) = true:=decide_eq_true c23
        try have c23b2:(9223372036854775807 < (((⟨#[123]⟩:ByteArray) ++ t171) ++ (⟨#[125]⟩:ByteArray)).size + t173.size) = False:=eq_false (Nat.not_lt.2 c23)
        try (have c23b3:=c23b2;simp only [ByteArray.size_append,show (⟨#[123]⟩:ByteArray).size = 1 from rfl,show (⟨#[125]⟩:ByteArray).size = 1 from rfl] at c23b3)
        obtain rfl:=Option.some.inj H
        go_enter Tryd.func46,Tryd.ntmps46
        try go_wp2_with (first | ((with_reducible refine gate_dst (N:=1) rfl ?_);refine box_event ?hg (N:=1) ?hd (cs:=#[.int .i64 a0_0,.int .i64 a0_1,.slice A0_2 l0_2.length c0_2]) (t:=25) ?hr ?_;(case hd=>rfl);(case hg=>rfl);(case hr=>first | (go_simp;done) | (go_simp;rfl));intro gb165 hg w24 hbox hb;have n0_:=Aside0.mk (below_step (by repeat (first | (with_reducible first | exact HB.out | apply below_alloc | apply pw_below_drewN | apply below_drew1) | exact HB.out)) hb);have n1_:=Aside0.mk (hbox);have n2_:=Aside0.mk ((by rw [hg];exact (below_size (by repeat (first | (with_reducible first | exact HB.out | apply below_alloc | apply pw_below_drewN | apply below_drew1) | exact HB.out))):w.heap.size ≤ gb165));have n3_:=Aside0.mk ((by rw [hg];exact (below_size (by repeat (first | (with_reducible first | exact HB.out | apply below_alloc | apply pw_below_drewN | apply below_drew1) | exact HB.out))):w.heap.size ≤ gb165));clear HB;have HB:=n0_;have BK165:=n1_;have GW165:=n2_;have GE165:=n3_;clear n0_ n1_ n2_ n3_;clear hb hbox hg;have hcz25_0:w24.cell? ⟨gb165,0,none⟩ = some (.int .i64 a0_0):=(blk_cell BK165.out 0).trans rfl;have hcz25_1:w24.cell? ⟨gb165,1,none⟩ = some (.int .i64 a0_1):=(blk_cell BK165.out 1).trans rfl;have hcz25_2:w24.cell? ⟨gb165,2,none⟩ = some (.slice A0_2 l0_2.length c0_2):=(blk_cell BK165.out 2).trans rfl;have hfz25_0:=blk_frozen BK165.out 0;have hfz25_1:=blk_frozen BK165.out 1;have hfz25_2:=blk_frozen BK165.out 2))
        have n0_:=Aside0.mk (blk_drew BK165.out)
        have n1_:=Aside0.mk (below_drew1 HB.out)
        clear BK165
        clear HB
        have BK165:=n0_
        have HB:=n1_
        clear n0_ n1_
        have p170:0 ≤ (1:Int):=(by omega)
        have q170:1 < (l0_2.length:Int):=of_decide_eq_true (by first | (with_reducible assumption) | assumption)
        obtain ⟨ad170,A170_2,c170_2,e170,hx170_0,hx170_1,hx170_2,hl170_2,hi170_2⟩:=at_T25 HR0_2.out 1 p170 q170
        have hw170_2:=hx170_2
        (try rw [show ((1:Int)).toNat = 1 from rfl] at hw170_2)
        (try rw [show 1 * 3 = 3 from rfl] at hw170_2)
        (try simp only [Nat.reduceMul,Nat.reduceEqDiff,Go.Addr.add,↓reduceIte] at hw170_2)
        have hw170_1:=hx170_1
        (try rw [show ((1:Int)).toNat = 1 from rfl] at hw170_1)
        (try rw [show 1 * 3 = 3 from rfl] at hw170_1)
        (try simp only [Nat.reduceMul,Nat.reduceEqDiff,Go.Addr.add,↓reduceIte] at hw170_1)
        have hw170_0:=hx170_0
        (try rw [show ((1:Int)).toNat = 1 from rfl] at hw170_0)
        (try rw [show 1 * 3 = 3 from rfl] at hw170_0)
        (try simp only [Nat.reduceMul,Nat.reduceEqDiff,Go.Addr.add,↓reduceIte] at hw170_0)
        cases e170
        (try simp only [show (1:Int).toNat = 1 from rfl,Nat.reduceMul,Nat.reduceEqDiff,Go.Addr.add,↓reduceIte] at hx170_0)
        (try simp only [show (1:Int).toNat = 1 from rfl,Nat.reduceMul,Nat.reduceEqDiff,Go.Addr.add,↓reduceIte] at hx170_1)
        (try simp only [show (1:Int).toNat = 1 from rfl,Nat.reduceMul,Nat.reduceEqDiff,Go.Addr.add,↓reduceIte] at hx170_2)
        have qi170:(1 < l0_2.length) = True:=eq_true (by omega)
        (try rw [show ((1:Int)).toNat = 1 from rfl] at hx170_0)
        (try rw [show 1 * 3 = 3 from rfl] at hx170_0)
        (try rw [show ((1:Int)).toNat = 1 from rfl] at hx170_1)
        (try rw [show 1 * 3 = 3 from rfl] at hx170_1)
        (try rw [show ((1:Int)).toNat = 1 from rfl] at hx170_2)
        (try rw [show 1 * 3 = 3 from rfl] at hx170_2)
        replace hx170_0:=(HB.out.cell (World.block_lt_of_cell? w _ hx170_0)).trans hx170_0
        replace hx170_1:=(HB.out.cell (World.block_lt_of_cell? w _ hx170_1)).trans hx170_1
        replace hx170_2:=(HB.out.cell (World.block_lt_of_cell? w _ hx170_2)).trans hx170_2
        have HR170_2:=Aside0.mk hi170_2
        have HC170_2:=Aside0.mk hl170_2
        clear hi170_2 hl170_2
        replace p170:=eq_true p170
        replace q170:=eq_true q170
        have p172:0 ≤ (0:Int):=(by omega)
        have q172:0 < (l0_2.length:Int):=of_decide_eq_true (by first | (with_reducible assumption) | assumption)
        obtain ⟨ad172,A172_2,c172_2,e172,hx172_0,hx172_1,hx172_2,hl172_2,hi172_2⟩:=at_T25 HR0_2.out 0 p172 q172
        have hw172_2:=hx172_2
        (try rw [show ((0:Int)).toNat = 0 from rfl] at hw172_2)
        (try rw [show 0 * 3 = 0 from rfl] at hw172_2)
        (try rw [Addr.add_zero'] at hw172_2)
        have hw172_1:=hx172_1
        (try rw [show ((0:Int)).toNat = 0 from rfl] at hw172_1)
        (try rw [show 0 * 3 = 0 from rfl] at hw172_1)
        (try rw [Addr.add_zero'] at hw172_1)
        have hw172_0:=hx172_0
        (try rw [show ((0:Int)).toNat = 0 from rfl] at hw172_0)
        (try rw [show 0 * 3 = 0 from rfl] at hw172_0)
        (try rw [Addr.add_zero'] at hw172_0)
        obtain rfl:ad170 = ad172:=(by injection e172)
        have qi172:(0 < l0_2.length) = True:=eq_true (by omega)
        (try rw [show ((0:Int)).toNat = 0 from rfl] at hx172_0)
        (try rw [show 0 * 3 = 0 from rfl] at hx172_0)
        (try rw [Addr.add_zero'] at hx172_0)
        (try rw [show ((0:Int)).toNat = 0 from rfl] at hx172_1)
        (try rw [show 0 * 3 = 0 from rfl] at hx172_1)
        (try rw [Addr.add_zero'] at hx172_1)
        (try rw [show ((0:Int)).toNat = 0 from rfl] at hx172_2)
        (try rw [show 0 * 3 = 0 from rfl] at hx172_2)
        (try rw [Addr.add_zero'] at hx172_2)
        replace hx172_0:=(HB.out.cell (World.block_lt_of_cell? w _ hx172_0)).trans hx172_0
        replace hx172_1:=(HB.out.cell (World.block_lt_of_cell? w _ hx172_1)).trans hx172_1
        replace hx172_2:=(HB.out.cell (World.block_lt_of_cell? w _ hx172_2)).trans hx172_2
        have HR172_2:=Aside0.mk hi172_2
        have HC172_2:=Aside0.mk hl172_2
        clear hi172_2 hl172_2
        replace p172:=eq_true p172
        replace q172:=eq_true q172
        refine start_ (n:=14) (S:=fun w'=>w'.cell? ⟨gb165,0,none⟩ = some (.int .i64 a0_0)∧w'.cell? ⟨gb165,1,none⟩ = some (.int .i64 a0_1)∧w'.cell? ⟨gb165,2,none⟩ = some (.slice (some ad170) l0_2.length c0_2)∧w'.cell? ⟨ad170.block,ad170.off + 3,none⟩ = some (.int .i64 ((rd_T25 l0_2 1).f0))∧w'.cell? ⟨ad170.block,ad170.off + 3 + 1,none⟩ = some (.int .i64 ((rd_T25 l0_2 1).f1))∧w'.cell? ⟨ad170.block,ad170.off + 3 + 2,none⟩ = some (.slice A170_2 ((rd_T25 l0_2 1).f2).length c170_2)∧w'.cell? ad170 = some (.int .i64 ((rd_T25 l0_2 0).f0))∧w'.cell? ⟨ad170.block,ad170.off + 1,none⟩ = some (.int .i64 ((rd_T25 l0_2 0).f1))∧w'.cell? ⟨ad170.block,ad170.off + 2,none⟩ = some (.slice A172_2 ((rd_T25 l0_2 0).f2).length c172_2)) (ds:=[]) #[false,false,false,false,false,false,false,false,false,false,false,false,false,false] (by kernel_rfl) rfl rfl ⟨(blk_cell BK165.out 0).trans rfl,(blk_cell BK165.out 1).trans rfl,(blk_cell BK165.out 2).trans rfl,((HB.out.cell (World.block_lt_of_cell? w _ hw170_0)).trans hw170_0),((HB.out.cell (World.block_lt_of_cell? w _ hw170_1)).trans hw170_1),((HB.out.cell (World.block_lt_of_cell? w _ hw170_2)).trans hw170_2),((HB.out.cell (World.block_lt_of_cell? w _ hw172_0)).trans hw172_0),((HB.out.cell (World.block_lt_of_cell? w _ hw172_1)).trans hw172_1),((HB.out.cell (World.block_lt_of_cell? w _ hw172_2)).trans hw172_2)⟩ (fun hHeld=>?_);refine with_tabW impl_sealText.tab5 impl_sealText.bits5 (fun HT_ HW_=>?_)
        generalize w24.drew = w26 at BK165 HB HR170_2 HR172_2 hx170_0 hx170_1 hx170_2 hx172_0 hx172_1 hx172_2 hHeld ⊢
        refine pure_ (i:=0) (N:=some 23) (v:=?_) (a':=?_) #[true,false,false,false,false,false,false,false,false,false,false,false,false,false] rfl rfl (any_of HT_.out (by kernel_rfl)) (fun _ _ _ h=>h) (Or.inl ⟨by rfl,?_⟩) ?_ ?_
        rotate_left;·intro w';go_simp;with_reducible rfl
        rotate_left;·simp only [Act.put,List.setIfInBounds_toArray,List.set_cons_zero,List.set_cons_succ,i64_w,i32_w];rfl
        refine pure_ (i:=7) (N:=some 30) (v:=?_) (a':=?_) #[true,false,false,false,false,false,false,true,false,false,false,false,false,false] rfl rfl (any_of HT_.out (by kernel_rfl)) (fun _ _ _ h=>h) (Or.inl ⟨by rfl,?_⟩) ?_ ?_
        rotate_left;·intro w';go_simp;with_reducible rfl
        rotate_left;·simp only [Act.put,List.setIfInBounds_toArray,List.set_cons_zero,List.set_cons_succ,i64_w,i32_w];rfl
        refine take_ (i:=1) (N:=some 24) (v:=?_) (a':=?_) #[true,true,false,false,false,false,false,true,false,false,false,false,false,false] rfl rfl (take_ofW HT_.out HW_.out (by kernel_rfl)) (fun _ _ _ h=>h) (Or.inl ⟨by rfl,?_⟩) hHeld ?_ ?_
        rotate_left;·rintro w' ⟨s0,s1,s2,s3,s4,s5,s6,s7,s8⟩;go_simp;with_reducible rfl
        rotate_left;·simp only [Act.put,List.setIfInBounds_toArray,List.set_cons_zero,List.set_cons_succ,i64_w,i32_w];rfl
        refine pure_ (i:=2) (N:=some 25) (v:=?_) (a':=?_) #[true,true,true,false,false,false,false,true,false,false,false,false,false,false] rfl rfl (any_of HT_.out (by kernel_rfl)) (fun _ _ _ h=>h) (Or.inl ⟨by rfl,?_⟩) ?_ ?_
        rotate_left;·intro w';go_simp;with_reducible rfl
        rotate_left;·simp only [Act.put,List.setIfInBounds_toArray,List.set_cons_zero,List.set_cons_succ,i64_w,i32_w];rfl
        refine take_ (i:=3) (N:=some 26) (v:=?_) (a':=?_) #[true,true,true,true,false,false,false,true,false,false,false,false,false,false] rfl rfl (take_ofW HT_.out HW_.out (by kernel_rfl)) (fun _ _ _ h=>h) (Or.inl ⟨by rfl,?_⟩) hHeld ?_ ?_
        rotate_left;·rintro w' ⟨s0,s1,s2,s3,s4,s5,s6,s7,s8⟩;go_simp;with_reducible rfl
        rotate_left;·simp only [Act.put,List.setIfInBounds_toArray,List.set_cons_zero,List.set_cons_succ,i64_w,i32_w];rfl
        refine take_ (i:=8) (N:=some 31) (v:=?_) (a':=?_) #[true,true,true,true,false,false,false,true,true,false,false,false,false,false] rfl rfl (take_ofW HT_.out HW_.out (by kernel_rfl)) (fun _ _ _ h=>h) (Or.inl ⟨by rfl,?_⟩) hHeld ?_ ?_
        rotate_left;·rintro w' ⟨s0,s1,s2,s3,s4,s5,s6,s7,s8⟩;go_simp;with_reducible rfl
        rotate_left;·simp only [Act.put,List.setIfInBounds_toArray,List.set_cons_zero,List.set_cons_succ,i64_w,i32_w];rfl
        refine pure_ (i:=9) (N:=some 32) (v:=?_) (a':=?_) #[true,true,true,true,false,false,false,true,true,true,false,false,false,false] rfl rfl (any_of HT_.out (by kernel_rfl)) (fun _ _ _ h=>h) (Or.inl ⟨by rfl,?_⟩) ?_ ?_
        rotate_left;·intro w';go_simp;with_reducible rfl
        rotate_left;·simp only [Act.put,List.setIfInBounds_toArray,List.set_cons_zero,List.set_cons_succ,i64_w,i32_w];rfl
        refine take_ (i:=10) (N:=some 33) (v:=?_) (a':=?_) #[true,true,true,true,false,false,false,true,true,true,true,false,false,false] rfl rfl (take_ofW HT_.out HW_.out (by kernel_rfl)) (fun _ _ _ h=>h) (Or.inl ⟨by rfl,?_⟩) hHeld ?_ ?_
        rotate_left;·rintro w' ⟨s0,s1,s2,s3,s4,s5,s6,s7,s8⟩;go_simp;with_reducible rfl
        rotate_left;·simp only [Act.put,List.setIfInBounds_toArray,List.set_cons_zero,List.set_cons_succ,i64_w,i32_w];rfl
        refine one_ (i:=4) (N:=some 27) #[true,true,true,true,true,false,false,true,true,true,true,false,false,false] rfl rfl (one_of HT_.out (by kernel_rfl)) (by decide) (fun K hK=>?_)
        refine goes_ Tryd.func46 (by kernel_rfl) rfl #[.agg #[.int .i64 ((rd_T25 l0_2 1).f0),.int .i64 ((rd_T25 l0_2 1).f1),.slice A170_2 ((rd_T25 l0_2 1).f2).length c170_2]] (by rfl) rfl rfl (by (try simp only [List.map_toArray,List.map_cons,List.map_nil]);first | done | rfl | (simp only [List.length_drop,List.length_take];rfl)) ?_
        with_reducible refine (ih k (by omega) ((rd_T25 l0_2 1).f0) ((rd_T25 l0_2 1).f1) _ _ ((rd_T25 l0_2 1).f2) t171 _ ?side1 ?side2 A18.out).mono ?_
        (case side1=>repeat (first | exact (Kd.C_below HR170_2.out HB.out) | (with_reducible refine Kd.C_alloc ?_ _) | (with_reducible refine Kd.C_drewN ?_ _) | (with_reducible refine Kd.C_drew ?_)))
        (case side2=>exact HC170_2.out)
        rintro e w27 ⟨rfl,hb⟩
        refine ⟨_,rfl,?_⟩
        have n0_:=Aside0.mk (blk_below (g:=gb165) (o:=.cells #[.int .i64 a0_0,.int .i64 a0_1,.slice (some ad170) l0_2.length c0_2] 25 (0,0)) (by (with_reducible repeat (first | refine blk_drewN ?_ _ | refine blk_drew ?_ | refine blk_alloc ?_ _));exact BK165.out) hb)
        have n1_:=Aside0.mk (below_step (by repeat (first | (with_reducible first | exact HB.out | apply below_alloc | apply pw_below_drewN | apply below_drew1 | refine below_set ?_ GE165.out) | exact HB.out)) hb)
        clear BK165
        clear HB
        have BK165:=n0_
        have HB:=n1_
        clear n0_ n1_
        (try clear hb)
        (try clear hb2)
        (try clear hk)
        (try clear hi)
        refine hK.out _ _ ⟨(blk_cell BK165.out 0).trans rfl,(blk_cell BK165.out 1).trans rfl,(blk_cell BK165.out 2).trans rfl,((HB.out.cell (World.block_lt_of_cell? w _ hw170_0)).trans hw170_0),((HB.out.cell (World.block_lt_of_cell? w _ hw170_1)).trans hw170_1),((HB.out.cell (World.block_lt_of_cell? w _ hw170_2)).trans hw170_2),((HB.out.cell (World.block_lt_of_cell? w _ hw172_0)).trans hw172_0),((HB.out.cell (World.block_lt_of_cell? w _ hw172_1)).trans hw172_1),((HB.out.cell (World.block_lt_of_cell? w _ hw172_2)).trans hw172_2)⟩ (fun hHeld=>?_)
        clear hK K
        refine norm_ (a':=?_) ?_ ?_
        rotate_left
        ·show Act.put _ (some 27) _ = _
         simp only [Act.put,List.setIfInBounds_toArray,List.set_cons_zero,List.set_cons_succ,i64_w,i32_w]
         rfl
        refine pure_ (i:=5) (N:=some 28) (v:=?_) (a':=?_) #[true,true,true,true,true,true,false,true,true,true,true,false,false,false] rfl rfl (any_of HT_.out (by kernel_rfl)) (fun _ _ _ h=>h) (Or.inl ⟨by rfl,?_⟩) ?_ ?_
        rotate_left;·intro w';go_simp;with_reducible rfl
        rotate_left;·simp only [Act.put,List.setIfInBounds_toArray,List.set_cons_zero,List.set_cons_succ,i64_w,i32_w];rfl
        refine pure_ (i:=6) (N:=some 29) (v:=?_) (a':=?_) #[true,true,true,true,true,true,true,true,true,true,true,false,false,false] rfl rfl (any_of HT_.out (by kernel_rfl)) (fun _ _ _ h=>h) (Or.inl ⟨by rfl,?_⟩) ?_ ?_
        rotate_left;·intro w';go_simp;with_reducible rfl
        rotate_left;·simp only [Act.put,List.setIfInBounds_toArray,List.set_cons_zero,List.set_cons_succ,i64_w,i32_w];rfl
        refine one_ (i:=11) (N:=some 34) #[true,true,true,true,true,true,true,true,true,true,true,true,false,false] rfl rfl (one_of HT_.out (by kernel_rfl)) (by decide) (fun K hK=>?_)
        refine goes_ Tryd.func46 (by kernel_rfl) rfl #[.agg #[.int .i64 ((rd_T25 l0_2 0).f0),.int .i64 ((rd_T25 l0_2 0).f1),.slice A172_2 ((rd_T25 l0_2 0).f2).length c172_2]] (by rfl) rfl rfl (by (try simp only [List.map_toArray,List.map_cons,List.map_nil]);first | done | rfl | (simp only [List.length_drop,List.length_take];rfl)) ?_
        with_reducible refine (ih k (by omega) ((rd_T25 l0_2 0).f0) ((rd_T25 l0_2 0).f1) _ _ ((rd_T25 l0_2 0).f2) t173 _ ?side1 ?side2 A22.out).mono ?_
        (case side1=>repeat (first | exact (Kd.C_below HR172_2.out HB.out) | (with_reducible refine Kd.C_alloc ?_ _) | (with_reducible refine Kd.C_drewN ?_ _) | (with_reducible refine Kd.C_drew ?_)))
        (case side2=>exact HC172_2.out)
        rintro e w28 ⟨rfl,hb⟩
        refine ⟨_,rfl,?_⟩
        have n0_:=Aside0.mk (blk_below (g:=gb165) (o:=.cells #[.int .i64 a0_0,.int .i64 a0_1,.slice (some ad170) l0_2.length c0_2] 25 (0,0)) (by (with_reducible repeat (first | refine blk_drewN ?_ _ | refine blk_drew ?_ | refine blk_alloc ?_ _));exact BK165.out) hb)
        have n1_:=Aside0.mk (below_step (by repeat (first | (with_reducible first | exact HB.out | apply below_alloc | apply pw_below_drewN | apply below_drew1 | refine below_set ?_ GE165.out) | exact HB.out)) hb)
        clear BK165
        clear HB
        have BK165:=n0_
        have HB:=n1_
        clear n0_ n1_
        (try clear hb)
        (try clear hb2)
        (try clear hk)
        (try clear hi)
        refine hK.out _ _ ⟨(blk_cell BK165.out 0).trans rfl,(blk_cell BK165.out 1).trans rfl,(blk_cell BK165.out 2).trans rfl,((HB.out.cell (World.block_lt_of_cell? w _ hw170_0)).trans hw170_0),((HB.out.cell (World.block_lt_of_cell? w _ hw170_1)).trans hw170_1),((HB.out.cell (World.block_lt_of_cell? w _ hw170_2)).trans hw170_2),((HB.out.cell (World.block_lt_of_cell? w _ hw172_0)).trans hw172_0),((HB.out.cell (World.block_lt_of_cell? w _ hw172_1)).trans hw172_1),((HB.out.cell (World.block_lt_of_cell? w _ hw172_2)).trans hw172_2)⟩ (fun hHeld=>?_)
        clear hK K
        refine norm_ (a':=?_) ?_ ?_
        rotate_left
        ·show Act.put _ (some 34) _ = _
         simp only [Act.put,List.setIfInBounds_toArray,List.set_cons_zero,List.set_cons_succ,i64_w,i32_w]
         rfl
        refine pure_ (i:=12) (N:=some 35) (v:=?_) (a':=?_) #[true,true,true,true,true,true,true,true,true,true,true,true,true,false] rfl rfl (any_of HT_.out (by kernel_rfl)) (fun _ _ _ h=>h) (Or.inl ⟨by rfl,?_⟩) ?_ ?_
        rotate_left;·intro w';go_simp;with_reducible rfl
        rotate_left;·simp only [Act.put,List.setIfInBounds_toArray,List.set_cons_zero,List.set_cons_succ,i64_w,i32_w];rfl
        refine pure_ (i:=13) (N:=some 2) (v:=?_) (a':=?_) #[true,true,true,true,true,true,true,true,true,true,true,true,true,true] rfl rfl (any_of HT_.out (by kernel_rfl)) (fun _ _ _ h=>h) (Or.inl ⟨by rfl,?_⟩) ?_ ?_
        rotate_left;·intro w';go_simp;with_reducible rfl
        rotate_left;·simp only [Act.put,List.setIfInBounds_toArray,List.set_cons_zero,List.set_cons_succ,i64_w,i32_w];rfl
        refine done_ (done_of HT_.out (by kernel_rfl)) ?_
        try go_wp2
        go_ret
        exact ⟨by first | rfl | (simp [errW_none,errW_some] <;> rfl) | (simp [*,errW_none,errW_some] <;> rfl),by repeat (first | (with_reducible first | exact HB.out | apply below_alloc | apply pw_below_drewN | apply below_drew1 | refine below_set ?_ GE165.out) | exact HB.out)⟩
       ·rw [if_neg c23] at H
        exact absurd H (by simp)
      ·rw [if_neg c21] at H
       exact absurd H (by simp)
     ·rw [if_neg c20] at H
      exact absurd H (by simp)
    ·rw [if_neg c19] at H
     exact absurd H (by simp)
   ·rw [if_neg c17] at H
    exact absurd H (by simp)
  ·rw [if_neg c16] at H
   have c16b0:(a0_0 == 2) = false:=beq_eq_false_iff_ne.mpr c16
   have c16b1:(a0_0 != 2) = true:=bne_iff_ne.mpr c16
   replace H:=Option.bind_eq_some_iff.mp H
   obtain ⟨t174,A290,H⟩:=H
   replace H:(if 1 + t174.size ≤ 9223372036854775807 then (some ((⟨#[109]⟩:ByteArray) ++ t174)) else (none)) = some r:=H
   have A29:=Aside0.mk A290
   clear A290
   by_cases c30:1 + t174.size ≤ 9223372036854775807
   ·rw [if_pos c30] at H
    have c30b0:=eq_true c30
    have c30b1:decide (1 + t174.size ≤ 9223372036854775807) = true:=decide_eq_true c30
    try have c30b2:(9223372036854775807 < 1 + t174.size) = False:=eq_false (Nat.not_lt.2 c30)
    obtain rfl:=Option.some.inj H
    go_enter Tryd.func46,Tryd.ntmps46
    go_wp2_with (first | ((with_reducible refine gate_dst (N:=1) rfl ?_);refine box_event ?hg (N:=1) ?hd (cs:=#[.int .i64 a0_0,.int .i64 a0_1,.slice A0_2 l0_2.length c0_2]) (t:=25) ?hr ?_;(case hd=>rfl);(case hg=>rfl);(case hr=>first | (go_simp;done) | (go_simp;rfl));intro gb165 hg w31 hbox hb;have n0_:=Aside0.mk (below_step (by repeat (first | (with_reducible first | exact HB.out | apply below_alloc | apply pw_below_drewN | apply below_drew1) | exact HB.out)) hb);have n1_:=Aside0.mk (hbox);have n2_:=Aside0.mk ((by rw [hg];exact (below_size (by repeat (first | (with_reducible first | exact HB.out | apply below_alloc | apply pw_below_drewN | apply below_drew1) | exact HB.out))):w.heap.size ≤ gb165));have n3_:=Aside0.mk ((by rw [hg];exact (below_size (by repeat (first | (with_reducible first | exact HB.out | apply below_alloc | apply pw_below_drewN | apply below_drew1) | exact HB.out))):w.heap.size ≤ gb165));clear HB;have HB:=n0_;have BK165:=n1_;have GW165:=n2_;have GE165:=n3_;clear n0_ n1_ n2_ n3_;clear hb hbox hg;have hcz32_0:w31.cell? ⟨gb165,0,none⟩ = some (.int .i64 a0_0):=(blk_cell BK165.out 0).trans rfl;have hcz32_1:w31.cell? ⟨gb165,1,none⟩ = some (.int .i64 a0_1):=(blk_cell BK165.out 1).trans rfl;have hcz32_2:w31.cell? ⟨gb165,2,none⟩ = some (.slice A0_2 l0_2.length c0_2):=(blk_cell BK165.out 2).trans rfl;have hfz32_0:=blk_frozen BK165.out 0;have hfz32_1:=blk_frozen BK165.out 1;have hfz32_2:=blk_frozen BK165.out 2) | ((with_reducible refine gate_callee (f:=59) rfl ?_);refine goesL_ (some 38) rfl rfl Tryd.func59 (by kernel_rfl) rfl #[.int .i64 a0_1] rfl (by (try simp only [List.map_toArray,List.map_cons,List.map_nil]);first | done | rfl | (simp only [List.length_drop,List.length_take];rfl)) ?_;(with_reducible refine (strconv_Itoa_59.calls a0_1 t174 _ A29.out).mono ?_);rintro e w33 ⟨rfl,hb⟩;refine ⟨_,rfl,?_⟩;have n0_:=Aside0.mk (blk_below (g:=gb165) (o:=.cells #[.int .i64 a0_0,.int .i64 a0_1,.slice A0_2 l0_2.length c0_2] 25 (0,0)) (by (with_reducible repeat (first | refine blk_drewN ?_ _ | refine blk_drew ?_ | refine blk_alloc ?_ _));exact BK165.out) hb);have n1_:=Aside0.mk (below_step (by repeat (first | (with_reducible first | exact HB.out | apply below_alloc | apply pw_below_drewN | apply below_drew1 | refine below_set ?_ GE165.out) | exact HB.out)) hb);clear BK165;clear HB;have BK165:=n0_;have HB:=n1_;clear n0_ n1_;(try clear hb);(try clear hb2);(try clear hk);(try clear hi)))
    go_ret
    exact ⟨by first | rfl | (simp [errW_none,errW_some] <;> rfl) | (simp [*,errW_none,errW_some] <;> rfl),by repeat (first | (with_reducible first | exact HB.out | apply below_alloc | apply pw_below_drewN | apply below_drew1 | refine below_set ?_ GE165.out) | exact HB.out)⟩
   ·rw [if_neg c30] at H
    exact absurd H (by simp)
end Go.Proofs.YtbcjpdahdecehaaDoor.P
