/- What the Go functions that the laws reach compute, and that their calls come to just that: told by a program of this session (aprint.py). No condition. -/
import Derived.Test.YtbcjpdahdecehaaDoorP0
import Derived.Test.YtbcjpdahdecehaaDoorP1
import Derived.Test.YtbcjpdahdecehaaDoorP2
import Derived.Test.YtbcjpdahdecehaaDoorP3
import Derived.Test.YtbcjpdahdecehaaDoorHKnown
import Derived.Test.YtbcjpdahdecehaaDoorHMade
import Derived.Test.YtbcjpdahdecehaaDoorHSort
noncomputable section
namespace Go.Proofs.YtbcjpdahdecehaaDoor.P
open Go.RowKit Go.Proofs.YtbcjpdahdecehaaDoorW.PrintWords Go.Proofs.YtbcjpdahdecehaaDoorW.PrintLast Go.Proofs.YtbcjpdahdecehaaDoorW.PrintMore
attribute [local go_sem] max2_int min2_int max_two min_two max_three min_three max_four min_four
set_option linter.unusedVariables false
set_option linter.unusedSimpArgs false
mutual
def laws_FnSealKnown.j0:Nat → List (S25) → List ByteArray → Bool → Bool → Option (Bool)
 | 0,_,_,_,_=>none
 | k + 1,x3,x4,x5,x36=>if x36 = true then (some false) else (laws_FnSealKnown.l0 k x3 x4 x5 0)
def laws_FnSealKnown.l0:Nat → List (S25) → List ByteArray → Bool → Int → Option (Bool)
 | 0,_,_,_,_=>none
 | k + 1,x3,x4,x5,x8=>if x8 < (x3.length:Int) then (laws_FnSealKnown.j2 k x3 x4 x5 x8 x5) else (laws_FnSealKnown.j2 k x3 x4 x5 x8 false)
def laws_FnSealKnown.j2:Nat → List (S25) → List ByteArray → Bool → Int → Bool → Option (Bool)
 | 0,_,_,_,_,_=>none
 | k + 1,x3,x4,x5,x8,x43=>if x43 = true then (laws_FnSealKnown.l1 k x3 x4 x5 x8 false 0) else (laws_FnSealKnown.l2 k x4 1)
def laws_FnSealKnown.l1:Nat → List (S25) → List ByteArray → Bool → Int → Bool → Int → Option (Bool)
 | 0,_,_,_,_,_,_=>none
 | k + 1,x3,x4,x5,x8,x9,x10=>if x10 < (x4.length:Int) then (if x9 = true then (laws_FnSealKnown.l1 k x3 x4 x5 x8 true (wrap64 (x10 + 1))) else (if 0 ≤ x10 then (if 0 ≤ x8 then (if x8 < (x3.length:Int) then ((impl_SealText.f k ((rd_T25 x3 x8).f0) ((rd_T25 x3 x8).f1) ((rd_T25 x3 x8).f2)).bind fun t818=>(laws_FnSealKnown.l1 k x3 x4 x5 x8 ((rdOf ByteArray.empty x4 x10).toList == t818.toList) (wrap64 (x10 + 1)))) else (none)) else (none)) else (none))) else (if 0 ≤ x8 then (if x8 < (x3.length:Int) then (if x9 = true then ((impl_SealMade.f x3 ((rd_T25 x3 x8).f0) ((rd_T25 x3 x8).f1) ((rd_T25 x3 x8).f2)).bind fun t821=>(if t821 = true then (if ((rd_T25 x3 x8).f0) = 1 then (if 0 < (((rd_T25 x3 x8).f2).length:Int) then ((impl_SealMade.f x3 ((rd_T25 ((rd_T25 x3 x8).f2) 0).f0) ((rd_T25 ((rd_T25 x3 x8).f2) 0).f1) ((rd_T25 ((rd_T25 x3 x8).f2) 0).f2)).bind fun t824=>(if t824 = true then (if 1 < (((rd_T25 x3 x8).f2).length:Int) then ((impl_SealMade.f x3 ((rd_T25 ((rd_T25 x3 x8).f2) 1).f0) ((rd_T25 ((rd_T25 x3 x8).f2) 1).f1) ((rd_T25 ((rd_T25 x3 x8).f2) 1).f2)).bind fun t826=>(if t826 = true then (laws_FnSealKnown.l0 k x3 x4 x5 (wrap64 (x8 + 1))) else (some false))) else (none)) else (some false))) else (none)) else (laws_FnSealKnown.l0 k x3 x4 x5 (wrap64 (x8 + 1)))) else (some false))) else (some false)) else (none)) else (none))
def laws_FnSealKnown.l2:Nat → List ByteArray → Int → Option (Bool)
 | 0,_,_=>none
 | k + 1,x4,x12=>if x12 < (x4.length:Int) then (if 0 ≤ (wrap64 (x12 - 1)) then (if (wrap64 (x12 - 1)) < (x4.length:Int) then (if 0 ≤ x12 then (if ((Op.bytesLess ((rdOf ByteArray.empty x4 (wrap64 (x12 - 1))).toList) ((rdOf ByteArray.empty x4 x12).toList)) = true) then (laws_FnSealKnown.l2 k x4 (wrap64 (x12 + 1))) else (some false)) else (none)) else (none)) else (none)) else (some true)
end
def laws_FnSealKnown.f (k:Nat) (l0:List Int):Option (Bool):=if (l0.length:Int) > 1048576 then (some true) else ((spec_DrawSealKnown.f k l0).bind fun t804=>((impl_SealKnown.f t804).bind fun bt807=>((spec_SealKnown.f k t804).bind fun bt811=>((laws_mnTexts.f k bt807.1 bt811.1).bind fun t815=>(if t815 = true then (laws_FnSealKnown.j0 k t804 bt807.1 bt807.2 (bt807.2 != bt811.2)) else (laws_FnSealKnown.j0 k t804 bt807.1 bt807.2 true))))))
theorem laws_FnSealKnown.mono_l:∀ k,(∀ y0 y1 y2 y3,LeO (laws_FnSealKnown.j0 k y0 y1 y2 y3) (laws_FnSealKnown.j0 (k + 1) y0 y1 y2 y3))∧(∀ y0 y1 y2 y3,LeO (laws_FnSealKnown.l0 k y0 y1 y2 y3) (laws_FnSealKnown.l0 (k + 1) y0 y1 y2 y3))∧(∀ y0 y1 y2 y3 y4,LeO (laws_FnSealKnown.j2 k y0 y1 y2 y3 y4) (laws_FnSealKnown.j2 (k + 1) y0 y1 y2 y3 y4))∧(∀ y0 y1 y2 y3 y4 y5,LeO (laws_FnSealKnown.l1 k y0 y1 y2 y3 y4 y5) (laws_FnSealKnown.l1 (k + 1) y0 y1 y2 y3 y4 y5))∧(∀ y0 y1,LeO (laws_FnSealKnown.l2 k y0 y1) (laws_FnSealKnown.l2 (k + 1) y0 y1))
 | 0=>⟨fun _ _ _ _ r h=>by simp [laws_FnSealKnown.j0] at h,fun _ _ _ _ r h=>by simp [laws_FnSealKnown.l0] at h,fun _ _ _ _ _ r h=>by simp [laws_FnSealKnown.j2] at h,fun _ _ _ _ _ _ r h=>by simp [laws_FnSealKnown.l1] at h,fun _ _ r h=>by simp [laws_FnSealKnown.l2] at h⟩
 | k + 1=>by
  obtain ⟨ih0,ih1,ih2,ih3,ih4⟩:=laws_FnSealKnown.mono_l k
  refine ⟨?_,?_,?_,?_,?_⟩
  ·intro y0 y1 y2 y3
   unfold laws_FnSealKnown.j0
   repeat' first
   | (with_reducible exact ih0 _ _ _ _)
   | (with_reducible exact ih1 _ _ _ _)
   | (with_reducible exact ih2 _ _ _ _ _)
   | (with_reducible exact ih3 _ _ _ _ _ _)
   | (with_reducible exact ih4 _ _)
   | (with_reducible exact impl_SealText.mono _ _ _ _)
   | (with_reducible exact laws_mnTexts.mono _ _ _)
   | (with_reducible exact spec_DrawSealKnown.mono _ _)
   | (with_reducible exact spec_SealKnown.mono _ _)
   | (with_reducible exact LeO.refl _)
   | (with_reducible exact LeO.none _)
   | (with_reducible refine LeO.ite ?_ ?_)
   | (with_reducible refine LeO.bind ?_ (fun _=>?_))
   | exact ih0 _ _ _ _
   | exact ih1 _ _ _ _
   | exact ih2 _ _ _ _ _
   | exact ih3 _ _ _ _ _ _
   | exact ih4 _ _
   | exact impl_SealText.mono _ _ _ _
   | exact laws_mnTexts.mono _ _ _
   | exact spec_DrawSealKnown.mono _ _
   | exact spec_SealKnown.mono _ _
   | exact LeO.none _
   | refine LeO.ite ?_ ?_
   | refine LeO.bind ?_ (fun _=>?_)
  ·intro y0 y1 y2 y3
   unfold laws_FnSealKnown.l0
   repeat' first
   | (with_reducible exact ih0 _ _ _ _)
   | (with_reducible exact ih1 _ _ _ _)
   | (with_reducible exact ih2 _ _ _ _ _)
   | (with_reducible exact ih3 _ _ _ _ _ _)
   | (with_reducible exact ih4 _ _)
   | (with_reducible exact impl_SealText.mono _ _ _ _)
   | (with_reducible exact laws_mnTexts.mono _ _ _)
   | (with_reducible exact spec_DrawSealKnown.mono _ _)
   | (with_reducible exact spec_SealKnown.mono _ _)
   | (with_reducible exact LeO.refl _)
   | (with_reducible exact LeO.none _)
   | (with_reducible refine LeO.ite ?_ ?_)
   | (with_reducible refine LeO.bind ?_ (fun _=>?_))
   | exact ih0 _ _ _ _
   | exact ih1 _ _ _ _
   | exact ih2 _ _ _ _ _
   | exact ih3 _ _ _ _ _ _
   | exact ih4 _ _
   | exact impl_SealText.mono _ _ _ _
   | exact laws_mnTexts.mono _ _ _
   | exact spec_DrawSealKnown.mono _ _
   | exact spec_SealKnown.mono _ _
   | exact LeO.none _
   | refine LeO.ite ?_ ?_
   | refine LeO.bind ?_ (fun _=>?_)
  ·intro y0 y1 y2 y3 y4
   unfold laws_FnSealKnown.j2
   repeat' first
   | (with_reducible exact ih0 _ _ _ _)
   | (with_reducible exact ih1 _ _ _ _)
   | (with_reducible exact ih2 _ _ _ _ _)
   | (with_reducible exact ih3 _ _ _ _ _ _)
   | (with_reducible exact ih4 _ _)
   | (with_reducible exact impl_SealText.mono _ _ _ _)
   | (with_reducible exact laws_mnTexts.mono _ _ _)
   | (with_reducible exact spec_DrawSealKnown.mono _ _)
   | (with_reducible exact spec_SealKnown.mono _ _)
   | (with_reducible exact LeO.refl _)
   | (with_reducible exact LeO.none _)
   | (with_reducible refine LeO.ite ?_ ?_)
   | (with_reducible refine LeO.bind ?_ (fun _=>?_))
   | exact ih0 _ _ _ _
   | exact ih1 _ _ _ _
   | exact ih2 _ _ _ _ _
   | exact ih3 _ _ _ _ _ _
   | exact ih4 _ _
   | exact impl_SealText.mono _ _ _ _
   | exact laws_mnTexts.mono _ _ _
   | exact spec_DrawSealKnown.mono _ _
   | exact spec_SealKnown.mono _ _
   | exact LeO.none _
   | refine LeO.ite ?_ ?_
   | refine LeO.bind ?_ (fun _=>?_)
  ·intro y0 y1 y2 y3 y4 y5
   unfold laws_FnSealKnown.l1
   repeat' first
   | (with_reducible exact ih0 _ _ _ _)
   | (with_reducible exact ih1 _ _ _ _)
   | (with_reducible exact ih2 _ _ _ _ _)
   | (with_reducible exact ih3 _ _ _ _ _ _)
   | (with_reducible exact ih4 _ _)
   | (with_reducible exact impl_SealText.mono _ _ _ _)
   | (with_reducible exact laws_mnTexts.mono _ _ _)
   | (with_reducible exact spec_DrawSealKnown.mono _ _)
   | (with_reducible exact spec_SealKnown.mono _ _)
   | (with_reducible exact LeO.refl _)
   | (with_reducible exact LeO.none _)
   | (with_reducible refine LeO.ite ?_ ?_)
   | (with_reducible refine LeO.bind ?_ (fun _=>?_))
   | exact ih0 _ _ _ _
   | exact ih1 _ _ _ _
   | exact ih2 _ _ _ _ _
   | exact ih3 _ _ _ _ _ _
   | exact ih4 _ _
   | exact impl_SealText.mono _ _ _ _
   | exact laws_mnTexts.mono _ _ _
   | exact spec_DrawSealKnown.mono _ _
   | exact spec_SealKnown.mono _ _
   | exact LeO.none _
   | refine LeO.ite ?_ ?_
   | refine LeO.bind ?_ (fun _=>?_)
  ·intro y0 y1
   unfold laws_FnSealKnown.l2
   repeat' first
   | (with_reducible exact ih0 _ _ _ _)
   | (with_reducible exact ih1 _ _ _ _)
   | (with_reducible exact ih2 _ _ _ _ _)
   | (with_reducible exact ih3 _ _ _ _ _ _)
   | (with_reducible exact ih4 _ _)
   | (with_reducible exact impl_SealText.mono _ _ _ _)
   | (with_reducible exact laws_mnTexts.mono _ _ _)
   | (with_reducible exact spec_DrawSealKnown.mono _ _)
   | (with_reducible exact spec_SealKnown.mono _ _)
   | (with_reducible exact LeO.refl _)
   | (with_reducible exact LeO.none _)
   | (with_reducible refine LeO.ite ?_ ?_)
   | (with_reducible refine LeO.bind ?_ (fun _=>?_))
   | exact ih0 _ _ _ _
   | exact ih1 _ _ _ _
   | exact ih2 _ _ _ _ _
   | exact ih3 _ _ _ _ _ _
   | exact ih4 _ _
   | exact impl_SealText.mono _ _ _ _
   | exact laws_mnTexts.mono _ _ _
   | exact spec_DrawSealKnown.mono _ _
   | exact spec_SealKnown.mono _ _
   | exact LeO.none _
   | refine LeO.ite ?_ ?_
   | refine LeO.bind ?_ (fun _=>?_)
theorem laws_FnSealKnown.mono:∀ a0 k,LeO (laws_FnSealKnown.f k a0) (laws_FnSealKnown.f (k + 1) a0):=by
 intro a0 k
 obtain ⟨ih0,ih1,ih2,ih3,ih4⟩:=laws_FnSealKnown.mono_l k
 unfold laws_FnSealKnown.f
 repeat' first
   | (with_reducible exact ih0 _ _ _ _)
   | (with_reducible exact ih1 _ _ _ _)
   | (with_reducible exact ih2 _ _ _ _ _)
   | (with_reducible exact ih3 _ _ _ _ _ _)
   | (with_reducible exact ih4 _ _)
   | (with_reducible exact impl_SealText.mono _ _ _ _)
   | (with_reducible exact laws_mnTexts.mono _ _ _)
   | (with_reducible exact spec_DrawSealKnown.mono _ _)
   | (with_reducible exact spec_SealKnown.mono _ _)
   | (with_reducible exact LeO.refl _)
   | (with_reducible exact LeO.none _)
   | (with_reducible refine LeO.ite ?_ ?_)
   | (with_reducible refine LeO.bind ?_ (fun _=>?_))
   | exact ih0 _ _ _ _
   | exact ih1 _ _ _ _
   | exact ih2 _ _ _ _ _
   | exact ih3 _ _ _ _ _ _
   | exact ih4 _ _
   | exact impl_SealText.mono _ _ _ _
   | exact laws_mnTexts.mono _ _ _
   | exact spec_DrawSealKnown.mono _ _
   | exact spec_SealKnown.mono _ _
   | exact LeO.none _
   | refine LeO.ite ?_ ?_
   | refine LeO.bind ?_ (fun _=>?_)
def laws_FnSealKnown.T15:Bool × List (List Nat × List Nat):=(true,[([],[]),([0],[0]),([1],[1]),([1],[1]),([2,3,1],[1,2,3]),([4,1],[1,4]),([1],[1]),([1],[1]),([6,7,1],[1,6,7]),([8,1],[1,8]),([9,1,1],[1,9]),([5,10,1],[1,5,10]),([1,11],[1,11]),([12,10,0,1,2,3,4,5,6,7,8,9,10,11,12],[0,12])])
def laws_FnSealKnown.B15:List Nat:=[0,1,3,3,15,31,3,3,195,451,963,2047,4095,8191]
theorem laws_FnSealKnown.tab15:rtab .any (opsOf Tryd.f11 15) = laws_FnSealKnown.T15:=by kernel_rfl
theorem laws_FnSealKnown.bits15:waitsOk laws_FnSealKnown.T15.2 laws_FnSealKnown.B15 = true:=by kernel_rfl
def laws_FnSealKnown.T22:Bool × List (List Nat × List Nat):=(true,[([],[]),([],[]),([1],[1]),([0,2],[0,2]),([3],[3]),([],[]),([],[]),([5,6],[5,6]),([7],[7]),([4,8],[4,8])])
def laws_FnSealKnown.B22:List Nat:=[0,0,2,7,15,0,0,96,224,511]
theorem laws_FnSealKnown.tab22:rtab .any (opsOf Tryd.f11 22) = laws_FnSealKnown.T22:=by kernel_rfl
theorem laws_FnSealKnown.bits22:waitsOk laws_FnSealKnown.T22.2 laws_FnSealKnown.B22 = true:=by kernel_rfl
set_option maxHeartbeats 8000000 in
set_option maxRecDepth 100000 in
theorem laws_FnSealKnown.calls (k:Nat) (A0:Option Addr) (c0:Nat) (l0:List Int) (r:Bool) (w:World) (hr0:Kd.C (Kd.int .u8) w A0 l0.length l0) (hc0:l0.length ≤ c0) (h:laws_FnSealKnown.f k l0 = some r) :
  Calls Tryd.prog 11 #[.slice A0 l0.length c0] w fun e w'=>e = .returned (.bool r)∧Below w.heap.size w w':=by
 have hu25:=Tryd.underlying25
 have HR0:=Aside0.mk hr0
 have HC0:=Aside0.mk hc0
 clear hr0 hc0
 have HB:=Aside0.mk (Below.refl w.heap.size w)
 have H:(if (l0.length:Int) > 1048576 then (some true) else ((spec_DrawSealKnown.f k l0).bind fun t804=>((impl_SealKnown.f t804).bind fun bt807=>((spec_SealKnown.f k t804).bind fun bt811=>((laws_mnTexts.f k bt807.1 bt811.1).bind fun t815=>(if t815 = true then (laws_FnSealKnown.j0 k t804 bt807.1 bt807.2 (bt807.2 != bt811.2)) else (laws_FnSealKnown.j0 k t804 bt807.1 bt807.2 true))))))) = some r:=h
 clear h
 by_cases c2:(l0.length:Int) > 1048576
 ·rw [if_pos c2] at H
  have c2b0:decide (1048576 < (l0.length:Int)) = true:=decide_eq_true c2
  have c2b1:decide (1048576 < l0.length) = true:=decide_eq_true (by omega)
  clear c2
  obtain rfl:=Option.some.inj H
  go_enter Tryd.func11,Tryd.ntmps11
  go_wp2
  go_ret
  exact ⟨by first | rfl | (simp [errW_none,errW_some] <;> rfl) | (simp [*,errW_none,errW_some] <;> rfl),by repeat (first | (with_reducible first | exact HB.out | apply below_alloc | apply pw_below_drewN | apply below_drew1) | exact HB.out)⟩
 ·rw [if_neg c2] at H
  have c2b0:decide (1048576 < (l0.length:Int)) = false:=decide_eq_false c2
  have c2b1:decide (1048576 < l0.length) = false:=decide_eq_false (by omega)
  clear c2
  replace H:=Option.bind_eq_some_iff.mp H
  obtain ⟨t804,A30,H⟩:=H
  replace H:((impl_SealKnown.f t804).bind fun bt807=>((spec_SealKnown.f k t804).bind fun bt811=>((laws_mnTexts.f k bt807.1 bt811.1).bind fun t815=>(if t815 = true then (laws_FnSealKnown.j0 k t804 bt807.1 bt807.2 (bt807.2 != bt811.2)) else (laws_FnSealKnown.j0 k t804 bt807.1 bt807.2 true))))) = some r:=H
  have A3:=Aside0.mk A30
  clear A30
  replace H:=Option.bind_eq_some_iff.mp H
  obtain ⟨⟨t807,t808⟩,A40,H⟩:=H
  replace H:((spec_SealKnown.f k t804).bind fun bt811=>((laws_mnTexts.f k t807 bt811.1).bind fun t815=>(if t815 = true then (laws_FnSealKnown.j0 k t804 t807 t808 (t808 != bt811.2)) else (laws_FnSealKnown.j0 k t804 t807 t808 true)))) = some r:=H
  have A4:=Aside0.mk A40
  clear A40
  replace H:=Option.bind_eq_some_iff.mp H
  obtain ⟨⟨t811,t812⟩,A50,H⟩:=H
  replace H:((laws_mnTexts.f k t807 t811).bind fun t815=>(if t815 = true then (laws_FnSealKnown.j0 k t804 t807 t808 (t808 != t812)) else (laws_FnSealKnown.j0 k t804 t807 t808 true))) = some r:=H
  have A5:=Aside0.mk A50
  clear A50
  have HC6:=Aside0.mk H
  clear H
  go_enter Tryd.func11,Tryd.ntmps11
  go_upto_region 6 with (first | ((with_reducible refine gate_callee (f:=31) rfl ?_);refine goesL_ (some 17) rfl rfl Tryd.func31 (by kernel_rfl) rfl #[.slice A0 l0.length c0] rfl (by (try simp only [List.map_toArray,List.map_cons,List.map_nil]);first | done | rfl | (simp only [List.length_drop,List.length_take];rfl)) ?_;(with_reducible refine (spec_DrawSealKnown.calls k _ _ l0 t804 _ ?side1 ?side2 A3.out).mono ?_);(case side1=>repeat (first | exact HR0.out | (with_reducible refine Kd.C_alloc ?_ _) | (with_reducible refine Kd.C_drewN ?_ _) | (with_reducible refine Kd.C_drew ?_)));(case side2=>exact HC0.out);rintro e w7 ⟨v805,rfl,ho0,hb⟩;refine ⟨_,rfl,?_⟩;have n0_:=Aside0.mk (Kd.N_lower (Kd.N_mono (ok':=fun k_=>True) ho0 (fun k_ hk_=>trivial)) (below_size (by repeat (first | (with_reducible first | exact HB.out | apply below_alloc | apply pw_below_drewN | apply below_drew1) | exact HB.out))));have n1_:=Aside0.mk (below_step (by repeat (first | (with_reducible first | exact HB.out | apply below_alloc | apply pw_below_drewN | apply below_drew1) | exact HB.out)) hb);clear HB;have HO806:=n0_;have HB:=n1_;clear n0_ n1_;(try clear hb);(try clear hb2);(try clear hk);(try clear hi);(try clear ho0);obtain ⟨Ao8,co8,eo8⟩:=Kd.N_slice HO806.out;subst eo8) | ((with_reducible refine gate_callee (f:=32) rfl ?_);refine goesL_ (some 20) rfl rfl Tryd.func32 (by kernel_rfl) rfl #[.slice Ao8 t804.length co8] rfl (by (try simp only [List.map_toArray,List.map_cons,List.map_nil]);first | done | rfl | (simp only [List.length_drop,List.length_take];rfl)) ?_;(with_reducible refine (impl_SealKnown.calls _ _ t804 t807 t808 _ ?side1 ?side2 A4.out).mono ?_);(case side1=>repeat (first | exact (Kd.N_reads' HO806.out).2.2 | (with_reducible refine Kd.C_alloc ?_ _) | (with_reducible refine Kd.C_drewN ?_ _) | (with_reducible refine Kd.C_drew ?_)));(case side2=>exact (Kd.N_reads' HO806.out).2.1);rintro e w9 ⟨v809,rfl,ho0,hb⟩;refine ⟨_,rfl,?_⟩;have n0_:=Aside0.mk (Kd.N_elder' (by (with_reducible repeat (first | apply Kd.N_alloc | apply Kd.N_drewN | apply Kd.N_drew));exact HO806.out) (Kd.R_base ho0) hb);have n1_:=Aside0.mk (Kd.R_lower ho0 (below_size (by repeat (first | (with_reducible first | exact HB.out | apply below_alloc | apply pw_below_drewN | apply below_drew1) | exact HB.out))));have n2_:=Aside0.mk (below_step (by repeat (first | (with_reducible first | exact HB.out | apply below_alloc | apply pw_below_drewN | apply below_drew1) | exact HB.out)) hb);clear HO806;clear HB;have HO806:=n0_;have HO810:=n1_;have HB:=n2_;clear n0_ n1_ n2_;(try clear hb);(try clear hb2);(try clear hk);(try clear hi);(try clear ho0)) | ((with_reducible refine gate_callee (f:=33) rfl ?_);refine goesL_ (some 25) rfl rfl Tryd.func33 (by kernel_rfl) rfl #[.slice Ao8 t804.length co8] rfl (by (try simp only [List.map_toArray,List.map_cons,List.map_nil]);first | done | rfl | (simp only [List.length_drop,List.length_take];rfl)) ?_;(with_reducible refine (spec_SealKnown.calls k _ _ t804 t811 t812 _ ?side1 ?side2 A5.out).mono ?_);(case side1=>repeat (first | exact (Kd.N_reads' HO806.out).2.2 | (with_reducible refine Kd.C_alloc ?_ _) | (with_reducible refine Kd.C_drewN ?_ _) | (with_reducible refine Kd.C_drew ?_)));(case side2=>exact (Kd.N_reads' HO806.out).2.1);rintro e w10 ⟨v813,rfl,ho0,hb⟩;refine ⟨_,rfl,?_⟩;have n0_:=Aside0.mk (Kd.N_elder' (by (with_reducible repeat (first | apply Kd.N_alloc | apply Kd.N_drewN | apply Kd.N_drew));exact HO806.out) (Kd.R_base ho0) hb);have n1_:=Aside0.mk (Kd.R_elder' (by (with_reducible repeat (first | apply Kd.R_alloc | apply Kd.R_drewN | apply Kd.R_drew));exact HO810.out) (Kd.R_base ho0) hb);have n2_:=Aside0.mk (Kd.R_lower (Kd.R_new' ho0 (Kd.R_lt (by (with_reducible repeat (first | apply Kd.R_alloc | apply Kd.R_drewN | apply Kd.R_drew));exact HO810.out))) (below_size (by repeat (first | (with_reducible first | exact HB.out | apply below_alloc | apply pw_below_drewN | apply below_drew1) | exact HB.out))));have n3_:=Aside0.mk (below_step (by repeat (first | (with_reducible first | exact HB.out | apply below_alloc | apply pw_below_drewN | apply below_drew1) | exact HB.out)) hb);clear HO806;clear HO810;clear HB;have HO806:=n0_;have HO810:=n1_;have HO814:=n2_;have HB:=n3_;clear n0_ n1_ n2_ n3_;(try clear hb);(try clear hb2);(try clear hk);(try clear hi);(try clear ho0)))
  (try simp only [Act.put,List.setIfInBounds_toArray,List.set_cons_zero,List.set_cons_succ])
  go_cut [36] (fun v36 wc=>∃ (kq:Nat) (x36_5:Bool),v36 = .bool x36_5∧Aside0 (laws_FnSealKnown.j0 kq t804 t807 t808 x36_5 = some r)∧Aside0 (kq ≤ k)∧Aside0 (Kd.N k25 25 wc w.heap.size (fun k_=>some k_ ≠ (v809:Value).ownBlock) (.slice Ao8 t804.length co8) t804)∧Aside0 (Kd.R Kd.string 9 wc w.heap.size (fun _=>True) v809 t807)∧Aside0 (Below w.heap.size w wc))
  case first =>
   have H:=HC6.out
   clear HC6
   replace H:=Option.bind_eq_some_iff.mp H
   obtain ⟨t815,A110,H⟩:=H
   replace H:(if t815 = true then (laws_FnSealKnown.j0 k t804 t807 t808 (t808 != t812)) else (laws_FnSealKnown.j0 k t804 t807 t808 true)) = some r:=H
   have A11:=Aside0.mk A110
   clear A110
   by_cases c12:t815 = true
   ·subst c12
    have H1:(laws_FnSealKnown.j0 k t804 t807 t808 (t808 != t812)) = some r:=by rw [if_pos rfl] at H;exact H
    clear H
    have H:=H1
    clear H1
    have H':=Aside0.mk H
    clear H
    obtain ⟨Ao13,co13,eo13⟩:=Kd.R_slice HO810.out
    subst eo13
    obtain ⟨Ao14,co14,eo14⟩:=Kd.R_slice HO814.out
    subst eo14
    go_wp2_with (first | ((with_reducible refine gate_callee (f:=34) rfl ?_);refine goesL_ (some 30) rfl rfl Tryd.func34 (by kernel_rfl) rfl #[.slice Ao13 t807.length co13,.slice Ao14 t811.length co14] rfl (by (try simp only [List.map_toArray,List.map_cons,List.map_nil]);first | done | rfl | (simp only [List.length_drop,List.length_take];rfl)) ?_;(with_reducible refine (laws_mnTexts.calls k _ _ t807 _ _ t811 true _ ?side1 ?side2 ?side3 ?side4 A11.out).mono ?_);(case side1=>repeat (first | exact (Kd.R_reads' HO810.out).2.2 | (with_reducible refine Kd.C_alloc ?_ _) | (with_reducible refine Kd.C_drewN ?_ _) | (with_reducible refine Kd.C_drew ?_)));(case side2=>exact (Kd.R_reads' HO810.out).2.1);(case side3=>repeat (first | exact (Kd.R_reads' HO814.out).2.2 | (with_reducible refine Kd.C_alloc ?_ _) | (with_reducible refine Kd.C_drewN ?_ _) | (with_reducible refine Kd.C_drew ?_)));(case side4=>exact (Kd.R_reads' HO814.out).2.1);rintro e w' ⟨rfl,⟨nd,rfl⟩⟩;refine ⟨_,rfl,?_⟩))
    go_meet
    case rel=>exact ⟨_,((t808 != t812)),(by first | rfl | (simp;done) | (simp [*];done)),H',⟨by first | omega | exact Nat.le_refl _⟩,⟨by (with_reducible repeat (first | apply Kd.N_alloc | apply Kd.N_drewN | apply Kd.N_drew));exact Kd.N_mono HO806.out (fun _ hk=>hk.1.2)⟩,⟨by (with_reducible repeat (first | apply Kd.R_alloc | apply Kd.R_drewN | apply Kd.R_drew));exact Kd.R_mono HO810.out (fun _ hk=>trivial)⟩,⟨by repeat (first | (with_reducible first | exact HB.out | apply below_alloc | apply pw_below_drewN | apply below_drew1) | exact HB.out)⟩⟩
   ·replace c12:=Bool.eq_false_iff.mpr c12
    subst c12
    have H1:(laws_FnSealKnown.j0 k t804 t807 t808 true) = some r:=by rw [if_neg (show ¬ (false = true) by decide)] at H;exact H
    clear H
    have H:=H1
    clear H1
    have H':=Aside0.mk H
    clear H
    obtain ⟨Ao15,co15,eo15⟩:=Kd.R_slice HO810.out
    subst eo15
    obtain ⟨Ao16,co16,eo16⟩:=Kd.R_slice HO814.out
    subst eo16
    go_wp2_with (first | ((with_reducible refine gate_callee (f:=34) rfl ?_);refine goesL_ (some 30) rfl rfl Tryd.func34 (by kernel_rfl) rfl #[.slice Ao15 t807.length co15,.slice Ao16 t811.length co16] rfl (by (try simp only [List.map_toArray,List.map_cons,List.map_nil]);first | done | rfl | (simp only [List.length_drop,List.length_take];rfl)) ?_;(with_reducible refine (laws_mnTexts.calls k _ _ t807 _ _ t811 false _ ?side1 ?side2 ?side3 ?side4 A11.out).mono ?_);(case side1=>repeat (first | exact (Kd.R_reads' HO810.out).2.2 | (with_reducible refine Kd.C_alloc ?_ _) | (with_reducible refine Kd.C_drewN ?_ _) | (with_reducible refine Kd.C_drew ?_)));(case side2=>exact (Kd.R_reads' HO810.out).2.1);(case side3=>repeat (first | exact (Kd.R_reads' HO814.out).2.2 | (with_reducible refine Kd.C_alloc ?_ _) | (with_reducible refine Kd.C_drewN ?_ _) | (with_reducible refine Kd.C_drew ?_)));(case side4=>exact (Kd.R_reads' HO814.out).2.1);rintro e w' ⟨rfl,⟨nd,rfl⟩⟩;refine ⟨_,rfl,?_⟩))
    go_meet
    case rel=>exact ⟨_,(true),(by first | rfl | (simp;done) | (simp [*];done)),H',⟨by first | omega | exact Nat.le_refl _⟩,⟨by (with_reducible repeat (first | apply Kd.N_alloc | apply Kd.N_drewN | apply Kd.N_drew));exact Kd.N_mono HO806.out (fun _ hk=>hk.1.2)⟩,⟨by (with_reducible repeat (first | apply Kd.R_alloc | apply Kd.R_drewN | apply Kd.R_drew));exact Kd.R_mono HO810.out (fun _ hk=>trivial)⟩,⟨by repeat (first | (with_reducible first | exact HB.out | apply below_alloc | apply pw_below_drewN | apply below_drew1) | exact HB.out)⟩⟩
  case rest =>
   clear HC6
   try clear c1
   try clear c2
   try clear c2b0
   try clear c2b1
   try clear p2
   try clear c3
   try clear c11
   try clear c12
   obtain ⟨kq,x36_5,rfl,HA,HJ5,HO_3,HO_4,HB⟩:=hcut
   cases kq with
   | zero=>exact absurd HA.out (by simp [laws_FnSealKnown.j0])
   | succ kj5 =>
    have H:=HA.out
    clear HA
    simp only [laws_FnSealKnown.j0] at H
    by_cases c17:x36_5 = true
    ·subst c17
     have H1:(some false) = some r:=by rw [if_pos rfl] at H;exact H
     clear H
     have H:=H1
     clear H1
     obtain rfl:=Option.some.inj H
     go_wp2
     go_ret
     exact ⟨by first | rfl | (simp [errW_none,errW_some] <;> rfl) | (simp [*,errW_none,errW_some] <;> rfl),by repeat (first | (with_reducible first | exact HB.out | apply below_alloc | apply pw_below_drewN | apply below_drew1) | exact HB.out)⟩
    ·replace c17:=Bool.eq_false_iff.mpr c17
     subst c17
     have H1:(laws_FnSealKnown.l0 kj5 t804 t807 t808 0) = some r:=by rw [if_neg (show ¬ (false = true) by decide)] at H;exact H
     clear H
     have H:=H1
     clear H1
     have H':=Aside0.mk H
     clear H
     go_wp2
     go_loopg [8] kj5 (fun kq v8 w'=>∃ (x8_2:Int),v8 = .int .i64 x8_2∧Aside0 (laws_FnSealKnown.l0 kq t804 t807 t808 x8_2 = some r)∧Aside0 (kq ≤ kj5)∧Aside0 (Kd.N k25 25 w' w.heap.size (fun k_=>some k_ ≠ (v809:Value).ownBlock) (.slice Ao8 t804.length co8) t804)∧Aside0 (Kd.R Kd.string 9 w' w.heap.size (fun _=>True) v809 t807)∧Aside0 (Below w.heap.size w w'))
     case atStart=>exact ⟨(0),(by first | rfl | (simp;done) | (simp [*];done)),H',⟨Nat.le_refl _⟩,⟨by (with_reducible repeat (first | apply Kd.N_alloc | apply Kd.N_drewN | apply Kd.N_drew));exact HO_3.out⟩,⟨by (with_reducible repeat (first | apply Kd.R_alloc | apply Kd.R_drewN | apply Kd.R_drew));exact HO_4.out⟩,⟨by repeat (first | (with_reducible first | exact HB.out | apply below_alloc | apply pw_below_drewN | apply below_drew1) | exact HB.out)⟩⟩
     case round =>
      clear H'
      try clear c1
      try clear c2
      try clear c2b0
      try clear c2b1
      try clear p2
      try clear c3
      try clear c11
      try clear c12
      try clear c17
      try clear p2
      obtain ⟨x8_2,rfl,HA,HK2,HO_3,HO_4,HB⟩:=hrel
      cases gk with
      | zero=>exact absurd HA.out (by simp [laws_FnSealKnown.l0])
      | succ k2 =>
       have H:=HA.out
       clear HA
       simp only [laws_FnSealKnown.l0] at H
       have HC18:=Aside0.mk H
       clear H
       go_upto_region 9 with (fail)
       go_cut [43] (fun v43 wc=>∃ (kq:Nat) (x43_17:Bool),v43 = .bool x43_17∧Aside0 (laws_FnSealKnown.j2 kq t804 t807 t808 x8_2 x43_17 = some r)∧Aside0 (kq ≤ k2)∧Aside0 (Kd.N k25 25 wc w.heap.size (fun k_=>some k_ ≠ (v809:Value).ownBlock) (.slice Ao8 t804.length co8) t804)∧Aside0 (Kd.R Kd.string 9 wc w.heap.size (fun _=>True) v809 t807)∧Aside0 (Below w.heap.size w wc))
       case first =>
        have H:=HC18.out
        clear HC18
        by_cases c19:x8_2 < (t804.length:Int)
        ·rw [if_pos c19] at H
         have c19b0:decide (x8_2 < (t804.length:Int)) = true:=decide_eq_true c19
         clear c19
         (first | rw [c19b0] | (simp only [i64_w,i32_w];rw [c19b0]) | skip)
         have H':=Aside0.mk H
         clear H
         go_wp2
         go_meet
         case rel=>exact ⟨_,(t808),(by first | rfl | (simp;done) | (simp [*];done)),H',⟨by have:=HJ5.out;have:=HK2.out;first | omega | exact Nat.le_refl _⟩,⟨by (with_reducible repeat (first | apply Kd.N_alloc | apply Kd.N_drewN | apply Kd.N_drew));exact HO_3.out⟩,⟨by (with_reducible repeat (first | apply Kd.R_alloc | apply Kd.R_drewN | apply Kd.R_drew));exact HO_4.out⟩,⟨by repeat (first | (with_reducible first | exact HB.out | apply below_alloc | apply pw_below_drewN | apply below_drew1) | exact HB.out)⟩⟩
        ·rw [if_neg c19] at H
         have c19b0:decide (x8_2 < (t804.length:Int)) = false:=decide_eq_false c19
         clear c19
         (first | rw [c19b0] | (simp only [i64_w,i32_w];rw [c19b0]) | skip)
         have H':=Aside0.mk H
         clear H
         go_wp2
         go_meet
         case rel=>exact ⟨_,(false),(by first | rfl | (simp;done) | (simp [*];done)),H',⟨by have:=HJ5.out;have:=HK2.out;first | omega | exact Nat.le_refl _⟩,⟨by (with_reducible repeat (first | apply Kd.N_alloc | apply Kd.N_drewN | apply Kd.N_drew));exact HO_3.out⟩,⟨by (with_reducible repeat (first | apply Kd.R_alloc | apply Kd.R_drewN | apply Kd.R_drew));exact HO_4.out⟩,⟨by repeat (first | (with_reducible first | exact HB.out | apply below_alloc | apply pw_below_drewN | apply below_drew1) | exact HB.out)⟩⟩
       case rest =>
        clear HC18
        try clear c1
        try clear c2
        try clear c2b0
        try clear c2b1
        try clear p2
        try clear c3
        try clear c11
        try clear c12
        try clear c17
        try clear c19
        try clear c19b0
        try clear p2
        obtain ⟨kq,x43_17,rfl,HA,HJ17,HO_3,HO_4,HB⟩:=hcut
        cases kq with
        | zero=>exact absurd HA.out (by simp [laws_FnSealKnown.j2])
        | succ kj17 =>
         have H:=HA.out
         clear HA
         simp only [laws_FnSealKnown.j2] at H
         by_cases c20:x43_17 = true
         ·subst c20
          have H1:(laws_FnSealKnown.l1 kj17 t804 t807 t808 x8_2 false 0) = some r:=by rw [if_pos rfl] at H;exact H
          clear H
          have H:=H1
          clear H1
          have H':=Aside0.mk H
          clear H
          go_wp2
          go_loopg [9,10] kj17 (fun kq v9 v10 w'=>∃ (x9_4:Bool) (x10_4:Int),v9 = .bool x9_4∧v10 = .int .i64 x10_4∧Aside0 (laws_FnSealKnown.l1 kq t804 t807 t808 x8_2 x9_4 x10_4 = some r)∧Aside0 (kq ≤ kj17)∧Aside0 (Kd.N k25 25 w' w.heap.size (fun k_=>some k_ ≠ (v809:Value).ownBlock) (.slice Ao8 t804.length co8) t804)∧Aside0 (Kd.R Kd.string 9 w' w.heap.size (fun _=>True) v809 t807)∧Aside0 (Below w.heap.size w w'))
          case atStart=>exact ⟨(false),(0),(by first | rfl | (simp;done) | (simp [*];done)),(by first | rfl | (simp;done) | (simp [*];done)),H',⟨Nat.le_refl _⟩,⟨by (with_reducible repeat (first | apply Kd.N_alloc | apply Kd.N_drewN | apply Kd.N_drew));exact HO_3.out⟩,⟨by (with_reducible repeat (first | apply Kd.R_alloc | apply Kd.R_drewN | apply Kd.R_drew));exact HO_4.out⟩,⟨by repeat (first | (with_reducible first | exact HB.out | apply below_alloc | apply pw_below_drewN | apply below_drew1) | exact HB.out)⟩⟩
          case round =>
           clear H'
           try clear c1
           try clear c2
           try clear c2b0
           try clear c2b1
           try clear p2
           try clear c3
           try clear c11
           try clear c12
           try clear c17
           try clear c19
           try clear c19b0
           try clear c20
           try clear p2
           obtain ⟨x9_4,x10_4,rfl,rfl,HA,HK4,HO_3,HO_4,HB⟩:=hrel
           cases gk with
           | zero=>exact absurd HA.out (by simp [laws_FnSealKnown.l1])
           | succ k4 =>
            have H:=HA.out
            clear HA
            simp only [laws_FnSealKnown.l1] at H
            by_cases c21:x10_4 < (t807.length:Int)
            ·rw [if_pos c21] at H
             have c21b0:decide (x10_4 < (t807.length:Int)) = true:=decide_eq_true c21
             clear c21
             by_cases c22:x9_4 = true
             ·subst c22
              have H1:(laws_FnSealKnown.l1 k4 t804 t807 t808 x8_2 true (wrap64 (x10_4 + 1))) = some r:=by rw [if_pos rfl] at H;exact H
              clear H
              have H:=H1
              clear H1
              have H':=Aside0.mk H
              clear H
              obtain ⟨Ao23,co23,eo23⟩:=Kd.R_slice HO_4.out
              subst eo23
              try go_wp2
              have n0_:=Aside0.mk (Kd.N_drew HO_3.out)
              have n1_:=Aside0.mk (Kd.R_drew HO_4.out)
              have n2_:=Aside0.mk (below_drew1 HB.out)
              clear HO_3
              clear HO_4
              clear HB
              have HO_3:=n0_
              have HO_4:=n1_
              have HB:=n2_
              clear n0_ n1_ n2_
              refine start_ (n:=14) (S:=fun w'=>True) (ds:=[]) #[false,false,false,false,false,false,false,false,false,false,false,false,false,false] (by kernel_rfl) rfl rfl trivial (fun hHeld=>?_);refine with_tabW laws_FnSealKnown.tab15 laws_FnSealKnown.bits15 (fun HT_ HW_=>?_)
              generalize wr.drew = w24 at HO_3 HO_4 HB hHeld ⊢
              refine pure_ (i:=0) (N:=some 52) (v:=?_) (a':=?_) #[true,false,false,false,false,false,false,false,false,false,false,false,false,false] rfl rfl (any_of HT_.out (by kernel_rfl)) (fun _ _ _ h=>h) (Or.inl ⟨by rfl,?_⟩) ?_ ?_
              rotate_left;·intro w';go_simp;with_reducible rfl
              rotate_left;·simp only [Act.put,List.setIfInBounds_toArray,List.set_cons_zero,List.set_cons_succ,i64_w,i32_w];rfl
              refine pure_ (i:=1) (N:=some 53) (v:=?_) (a':=?_) #[true,true,false,false,false,false,false,false,false,false,false,false,false,false] rfl rfl (any_of HT_.out (by kernel_rfl)) (fun _ _ _ h=>h) (Or.inl ⟨by rfl,?_⟩) ?_ ?_
              rotate_left;·intro w';go_simp;with_reducible rfl
              rotate_left;·simp only [Act.put,List.setIfInBounds_toArray,List.set_cons_zero,List.set_cons_succ,i64_w,i32_w];rfl
              refine pure_ (i:=2) (N:=some 54) (v:=undef) (a':=?_) #[true,true,true,false,false,false,false,false,false,false,false,false,false,false] rfl rfl (any_of HT_.out (by kernel_rfl)) (fun _ _ _ h=>h) (Or.inr ⟨by rfl,rfl⟩) ?_ ?_
              rotate_left;·simp only [Act.put,List.setIfInBounds_toArray,List.set_cons_zero,List.set_cons_succ,i64_w,i32_w];rfl
              refine pure_ (i:=3) (N:=some 55) (v:=undef) (a':=?_) #[true,true,true,true,false,false,false,false,false,false,false,false,false,false] rfl rfl (any_of HT_.out (by kernel_rfl)) (fun _ _ _ h=>h) (Or.inr ⟨by rfl,rfl⟩) ?_ ?_
              rotate_left;·simp only [Act.put,List.setIfInBounds_toArray,List.set_cons_zero,List.set_cons_succ,i64_w,i32_w];rfl
              refine pure_ (i:=4) (N:=some 56) (v:=undef) (a':=?_) #[true,true,true,true,true,false,false,false,false,false,false,false,false,false] rfl rfl (any_of HT_.out (by kernel_rfl)) (fun _ _ _ h=>h) (Or.inr ⟨by rfl,rfl⟩) ?_ ?_
              rotate_left;·simp only [Act.put,List.setIfInBounds_toArray,List.set_cons_zero,List.set_cons_succ,i64_w,i32_w];rfl
              refine pure_ (i:=5) (N:=some 57) (v:=undef) (a':=?_) #[true,true,true,true,true,true,false,false,false,false,false,false,false,false] rfl rfl (any_of HT_.out (by kernel_rfl)) (fun _ _ _ h=>h) (Or.inr ⟨by rfl,rfl⟩) ?_ ?_
              rotate_left;·simp only [Act.put,List.setIfInBounds_toArray,List.set_cons_zero,List.set_cons_succ,i64_w,i32_w];rfl
              refine pure_ (i:=6) (N:=some 58) (v:=undef) (a':=?_) #[true,true,true,true,true,true,true,false,false,false,false,false,false,false] rfl rfl (any_of HT_.out (by kernel_rfl)) (fun _ _ _ h=>h) (Or.inr ⟨by rfl,rfl⟩) ?_ ?_
              rotate_left;·simp only [Act.put,List.setIfInBounds_toArray,List.set_cons_zero,List.set_cons_succ,i64_w,i32_w];rfl
              refine pure_ (i:=7) (N:=some 59) (v:=undef) (a':=?_) #[true,true,true,true,true,true,true,true,false,false,false,false,false,false] rfl rfl (any_of HT_.out (by kernel_rfl)) (fun _ _ _ h=>h) (Or.inr ⟨by rfl,rfl⟩) ?_ ?_
              rotate_left;·simp only [Act.put,List.setIfInBounds_toArray,List.set_cons_zero,List.set_cons_succ,i64_w,i32_w];rfl
              refine pure_ (i:=8) (N:=some 60) (v:=undef) (a':=?_) #[true,true,true,true,true,true,true,true,true,false,false,false,false,false] rfl rfl (any_of HT_.out (by kernel_rfl)) (fun _ _ _ h=>h) (Or.inr ⟨by rfl,rfl⟩) ?_ ?_
              rotate_left;·simp only [Act.put,List.setIfInBounds_toArray,List.set_cons_zero,List.set_cons_succ,i64_w,i32_w];rfl
              refine pure_ (i:=9) (N:=some 61) (v:=undef) (a':=?_) #[true,true,true,true,true,true,true,true,true,true,false,false,false,false] rfl rfl (any_of HT_.out (by kernel_rfl)) (fun _ _ _ h=>h) (Or.inr ⟨by rfl,rfl⟩) ?_ ?_
              rotate_left;·simp only [Act.put,List.setIfInBounds_toArray,List.set_cons_zero,List.set_cons_succ,i64_w,i32_w];rfl
              refine pure_ (i:=10) (N:=some 62) (v:=undef) (a':=?_) #[true,true,true,true,true,true,true,true,true,true,true,false,false,false] rfl rfl (any_of HT_.out (by kernel_rfl)) (fun _ _ _ h=>h) (Or.inr ⟨by rfl,rfl⟩) ?_ ?_
              rotate_left;·simp only [Act.put,List.setIfInBounds_toArray,List.set_cons_zero,List.set_cons_succ,i64_w,i32_w];rfl
              refine pure_ (i:=11) (N:=some 63) (v:=undef) (a':=?_) #[true,true,true,true,true,true,true,true,true,true,true,true,false,false] rfl rfl (any_of HT_.out (by kernel_rfl)) (fun _ _ _ h=>h) (Or.inr ⟨by rfl,rfl⟩) ?_ ?_
              rotate_left;·simp only [Act.put,List.setIfInBounds_toArray,List.set_cons_zero,List.set_cons_succ,i64_w,i32_w];rfl
              refine pure_ (i:=12) (N:=some 64) (v:=?_) (a':=?_) #[true,true,true,true,true,true,true,true,true,true,true,true,true,false] rfl rfl (any_of HT_.out (by kernel_rfl)) (fun _ _ _ h=>h) (Or.inl ⟨by rfl,?_⟩) ?_ ?_
              rotate_left;·intro w';go_simp;with_reducible rfl
              rotate_left;·simp only [Act.put,List.setIfInBounds_toArray,List.set_cons_zero,List.set_cons_succ,i64_w,i32_w];rfl
              refine pure_ (i:=13) (N:=some 9) (v:=?_) (a':=?_) #[true,true,true,true,true,true,true,true,true,true,true,true,true,true] rfl rfl (any_of HT_.out (by kernel_rfl)) (fun _ _ _ h=>h) (Or.inl ⟨by rfl,?_⟩) ?_ ?_
              rotate_left;·intro w';go_simp;with_reducible rfl
              rotate_left;·simp only [Act.put,List.setIfInBounds_toArray,List.set_cons_zero,List.set_cons_succ,i64_w,i32_w];rfl
              refine done_ (done_of HT_.out (by kernel_rfl)) ?_
              try go_wp2
              go_roundg k4
              case measure=>have:=HJ5.out;have:=HK2.out;have:=HJ17.out;have:=HK4.out;omega
              case rel=>exact ⟨(true),(wrap64 (x10_4 + 1)),(by first | rfl | (simp;done) | (simp [*];done)),(by first | rfl | (simp;done) | (simp [*];done)),H',⟨by have:=HJ5.out;have:=HK2.out;have:=HJ17.out;have:=HK4.out;omega⟩,⟨by (with_reducible repeat (first | apply Kd.N_alloc | apply Kd.N_drewN | apply Kd.N_drew));exact HO_3.out⟩,⟨by (with_reducible repeat (first | apply Kd.R_alloc | apply Kd.R_drewN | apply Kd.R_drew));exact HO_4.out⟩,⟨by repeat (first | (with_reducible first | exact HB.out | apply below_alloc | apply pw_below_drewN | apply below_drew1) | exact HB.out)⟩⟩
             ·replace c22:=Bool.eq_false_iff.mpr c22
              subst c22
              have H1:(if 0 ≤ x10_4 then (if 0 ≤ x8_2 then (if x8_2 < (t804.length:Int) then ((impl_SealText.f k4 ((rd_T25 t804 x8_2).f0) ((rd_T25 t804 x8_2).f1) ((rd_T25 t804 x8_2).f2)).bind fun t818=>(laws_FnSealKnown.l1 k4 t804 t807 t808 x8_2 ((rdOf ByteArray.empty t807 x10_4).toList == t818.toList) (wrap64 (x10_4 + 1)))) else (none)) else (none)) else (none)) = some r:=by rw [if_neg (show ¬ (false = true) by decide)] at H;exact H
              clear H
              have H:=H1
              clear H1
              by_cases c25:0 ≤ x10_4
              ·rw [if_pos c25] at H
               have c25b0:decide (0 ≤ x10_4) = true:=decide_eq_true c25
               clear c25
               by_cases c26:0 ≤ x8_2
               ·rw [if_pos c26] at H
                have c26b0:decide (0 ≤ x8_2) = true:=decide_eq_true c26
                clear c26
                by_cases c27:x8_2 < (t804.length:Int)
                ·rw [if_pos c27] at H
                 have c27b0:decide (x8_2 < (t804.length:Int)) = true:=decide_eq_true c27
                 clear c27
                 replace H:=Option.bind_eq_some_iff.mp H
                 obtain ⟨t818,A280,H⟩:=H
                 replace H:(laws_FnSealKnown.l1 k4 t804 t807 t808 x8_2 ((rdOf ByteArray.empty t807 x10_4).toList == t818.toList) (wrap64 (x10_4 + 1))) = some r:=H
                 have A28:=Aside0.mk A280
                 clear A280
                 have H':=Aside0.mk H
                 clear H
                 obtain ⟨Ao29,co29,eo29⟩:=Kd.R_slice HO_4.out
                 subst eo29
                 try go_wp2
                 have n0_:=Aside0.mk (Kd.N_drew HO_3.out)
                 have n1_:=Aside0.mk (Kd.R_drew HO_4.out)
                 have n2_:=Aside0.mk (below_drew1 HB.out)
                 clear HO_3
                 clear HO_4
                 clear HB
                 have HO_3:=n0_
                 have HO_4:=n1_
                 have HB:=n2_
                 clear n0_ n1_ n2_
                 have p816:0 ≤ (x10_4:Int):=of_decide_eq_true (by first | (with_reducible assumption) | assumption)
                 have q816:x10_4 < (t807.length:Int):=of_decide_eq_true (by first | (with_reducible assumption) | assumption)
                 obtain ⟨ad816,e816,hx816_0⟩:=Kd.at_string (Kd.R_reads' HO_4.out).2.2 x10_4 p816 q816
                 cases e816
                 replace p816:=eq_true p816
                 replace q816:=eq_true q816
                 have p817:0 ≤ (x8_2:Int):=of_decide_eq_true (by first | (with_reducible assumption) | assumption)
                 have q817:x8_2 < (t804.length:Int):=of_decide_eq_true (by first | (with_reducible assumption) | assumption)
                 obtain ⟨ad817,A817_2,c817_2,e817,hx817_0,hx817_1,hx817_2,hl817_2,hi817_2⟩:=at_T25 (Kd.N_reads' HO_3.out).2.2 x8_2 p817 q817
                 cases e817
                 obtain ⟨ce817,hce817,hMe817,hcc817⟩:=Kd.N_get HO_3.out z25 x8_2 p817 (by first | exact q817 | exact of_decide_eq_true (by first | (with_reducible assumption) | assumption) | (have e_:=(Kd.N_reads' HO_3.out).1;omega))
                 obtain ⟨ua817_2,uc817_2,rfl,ul817_2,ge817_2⟩:=k25_openF hMe817
                 have hv817_2:=hcc817 2 _ rfl
                 rw [add_field _ _ 2 (by omega)] at hv817_2
                 replace hv817_2:=Option.some.inj (hv817_2.symm.trans hx817_2)
                 injection hv817_2 with hva_ hvn_ hvc_
                 rw [hva_] at ge817_2
                 rw [hvc_] at ul817_2
                 have HL817_2:=Aside0.mk (show Kd.V k25 25 _ w.heap.size _ _ ((rd_T25 t804 x8_2).f2) from Kd.V_mk ul817_2 ge817_2)
                 clear hva_ hvn_ hvc_ ge817_2 ul817_2
                 clear hcc817 hce817
                 have HR817_2:=Aside0.mk hi817_2
                 have HC817_2:=Aside0.mk hl817_2
                 clear hi817_2 hl817_2
                 replace p817:=eq_true p817
                 replace q817:=eq_true q817
                 refine start_ (n:=14) (S:=fun w'=>w'.cell? (ad816.add (x10_4).toNat) = some (.string (rdOf ByteArray.empty t807 x10_4))∧w'.cell? (ad817.add ((x8_2).toNat * 3)) = some (.int .i64 ((rd_T25 t804 x8_2).f0))∧w'.cell? ⟨(ad817.add ((x8_2).toNat * 3)).block,(ad817.add ((x8_2).toNat * 3)).off + 1,none⟩ = some (.int .i64 ((rd_T25 t804 x8_2).f1))∧w'.cell? ⟨(ad817.add ((x8_2).toNat * 3)).block,(ad817.add ((x8_2).toNat * 3)).off + 2,none⟩ = some (.slice A817_2 ((rd_T25 t804 x8_2).f2).length c817_2)) (ds:=[]) #[false,false,false,false,false,false,false,false,false,false,false,false,false,false] (by kernel_rfl) rfl rfl ⟨hx816_0,hx817_0,hx817_1,hx817_2⟩ (fun hHeld=>?_);refine with_tabW laws_FnSealKnown.tab15 laws_FnSealKnown.bits15 (fun HT_ HW_=>?_)
                 generalize wr.drew = w30 at HO_3 HO_4 HB HL817_2 HR817_2 hx816_0 hx817_0 hx817_1 hx817_2 hHeld ⊢
                 refine pure_ (i:=0) (N:=some 52) (v:=?_) (a':=?_) #[true,false,false,false,false,false,false,false,false,false,false,false,false,false] rfl rfl (any_of HT_.out (by kernel_rfl)) (fun _ _ _ h=>h) (Or.inl ⟨by rfl,?_⟩) ?_ ?_
                 rotate_left;·intro w';go_simp;with_reducible rfl
                 rotate_left;·simp only [Act.put,List.setIfInBounds_toArray,List.set_cons_zero,List.set_cons_succ,i64_w,i32_w];rfl
                 refine pure_ (i:=1) (N:=some 53) (v:=?_) (a':=?_) #[true,true,false,false,false,false,false,false,false,false,false,false,false,false] rfl rfl (any_of HT_.out (by kernel_rfl)) (fun _ _ _ h=>h) (Or.inl ⟨by rfl,?_⟩) ?_ ?_
                 rotate_left;·intro w';go_simp;with_reducible rfl
                 rotate_left;·simp only [Act.put,List.setIfInBounds_toArray,List.set_cons_zero,List.set_cons_succ,i64_w,i32_w];rfl
                 refine pure_ (i:=2) (N:=some 54) (v:=?_) (a':=?_) #[true,true,true,false,false,false,false,false,false,false,false,false,false,false] rfl rfl (any_of HT_.out (by kernel_rfl)) (fun _ _ _ h=>h) (Or.inl ⟨by rfl,?_⟩) ?_ ?_
                 rotate_left;·intro w';go_simp;with_reducible rfl
                 rotate_left;·simp only [Act.put,List.setIfInBounds_toArray,List.set_cons_zero,List.set_cons_succ,i64_w,i32_w];rfl
                 refine pure_ (i:=3) (N:=some 55) (v:=?_) (a':=?_) #[true,true,true,true,false,false,false,false,false,false,false,false,false,false] rfl rfl (any_of HT_.out (by kernel_rfl)) (fun _ _ _ h=>h) (Or.inl ⟨by rfl,?_⟩) ?_ ?_
                 rotate_left;·intro w';go_simp;with_reducible rfl
                 rotate_left;·simp only [Act.put,List.setIfInBounds_toArray,List.set_cons_zero,List.set_cons_succ,i64_w,i32_w];rfl
                 refine pure_ (i:=4) (N:=some 56) (v:=?_) (a':=?_) #[true,true,true,true,true,false,false,false,false,false,false,false,false,false] rfl rfl (any_of HT_.out (by kernel_rfl)) (fun _ _ _ h=>h) (Or.inl ⟨by rfl,?_⟩) ?_ ?_
                 rotate_left;·intro w';go_simp;with_reducible rfl
                 rotate_left;·simp only [Act.put,List.setIfInBounds_toArray,List.set_cons_zero,List.set_cons_succ,i64_w,i32_w];rfl
                 refine pure_ (i:=6) (N:=some 58) (v:=?_) (a':=?_) #[true,true,true,true,true,false,true,false,false,false,false,false,false,false] rfl rfl (any_of HT_.out (by kernel_rfl)) (fun _ _ _ h=>h) (Or.inl ⟨by rfl,?_⟩) ?_ ?_
                 rotate_left;·intro w';go_simp;with_reducible rfl
                 rotate_left;·simp only [Act.put,List.setIfInBounds_toArray,List.set_cons_zero,List.set_cons_succ,i64_w,i32_w];rfl
                 refine pure_ (i:=7) (N:=some 59) (v:=?_) (a':=?_) #[true,true,true,true,true,false,true,true,false,false,false,false,false,false] rfl rfl (any_of HT_.out (by kernel_rfl)) (fun _ _ _ h=>h) (Or.inl ⟨by rfl,?_⟩) ?_ ?_
                 rotate_left;·intro w';go_simp;with_reducible rfl
                 rotate_left;·simp only [Act.put,List.setIfInBounds_toArray,List.set_cons_zero,List.set_cons_succ,i64_w,i32_w];rfl
                 refine pure_ (i:=8) (N:=some 60) (v:=?_) (a':=?_) #[true,true,true,true,true,false,true,true,true,false,false,false,false,false] rfl rfl (any_of HT_.out (by kernel_rfl)) (fun _ _ _ h=>h) (Or.inl ⟨by rfl,?_⟩) ?_ ?_
                 rotate_left;·intro w';go_simp;with_reducible rfl
                 rotate_left;·simp only [Act.put,List.setIfInBounds_toArray,List.set_cons_zero,List.set_cons_succ,i64_w,i32_w];rfl
                 refine take_ (i:=5) (N:=some 57) (v:=?_) (a':=?_) #[true,true,true,true,true,true,true,true,true,false,false,false,false,false] rfl rfl (take_ofW HT_.out HW_.out (by kernel_rfl)) (fun _ _ _ h=>h) (Or.inl ⟨by rfl,?_⟩) hHeld ?_ ?_
                 rotate_left;·rintro w' ⟨s0,s1,s2,s3⟩;go_simp;with_reducible rfl
                 rotate_left;·simp only [Act.put,List.setIfInBounds_toArray,List.set_cons_zero,List.set_cons_succ,i64_w,i32_w];rfl
                 refine take_ (i:=9) (N:=some 61) (v:=?_) (a':=?_) #[true,true,true,true,true,true,true,true,true,true,false,false,false,false] rfl rfl (take_ofW HT_.out HW_.out (by kernel_rfl)) (fun _ _ _ h=>h) (Or.inl ⟨by rfl,?_⟩) hHeld ?_ ?_
                 rotate_left;·rintro w' ⟨s0,s1,s2,s3⟩;go_simp;with_reducible rfl
                 rotate_left;·simp only [Act.put,List.setIfInBounds_toArray,List.set_cons_zero,List.set_cons_succ,i64_w,i32_w];rfl
                 refine one_ (i:=10) (N:=some 62) #[true,true,true,true,true,true,true,true,true,true,true,false,false,false] rfl rfl (one_of HT_.out (by kernel_rfl)) (by decide) (fun K hK=>?_)
                 refine goes_ Tryd.func16 (by kernel_rfl) rfl #[.agg #[.int .i64 ((rd_T25 t804 x8_2).f0),.int .i64 ((rd_T25 t804 x8_2).f1),.slice A817_2 ((rd_T25 t804 x8_2).f2).length c817_2]] (by rfl) rfl rfl (by (try simp only [List.map_toArray,List.map_cons,List.map_nil]);first | done | rfl | (simp only [List.length_drop,List.length_take];rfl)) ?_
                 with_reducible refine (impl_SealText.calls k4 ((rd_T25 t804 x8_2).f0) ((rd_T25 t804 x8_2).f1) _ _ ((rd_T25 t804 x8_2).f2) t818 _ ?side1 ?side2 A28.out).mono ?_
                 (case side1=>repeat (first | exact (by repeat (first | (with_reducible exact HR817_2.out) | (with_reducible refine Kd.C_alloc ?_ _) | (with_reducible refine Kd.C_drewN ?_ _) | (with_reducible refine Kd.C_drew ?_) | exact HR817_2.out)) | (with_reducible refine Kd.C_alloc ?_ _) | (with_reducible refine Kd.C_drewN ?_ _) | (with_reducible refine Kd.C_drew ?_)))
                 (case side2=>exact HC817_2.out)
                 rintro e w31 ⟨rfl,hb⟩
                 have HS0_:=(hb.cell (World.block_lt_of_cell? _ _ (hHeld.1))).trans (hHeld.1)
                 have HS1_:=(hb.cell (World.block_lt_of_cell? _ _ (hHeld.2.1))).trans (hHeld.2.1)
                 have HS2_:=(hb.cell (World.block_lt_of_cell? _ _ (hHeld.2.2.1))).trans (hHeld.2.2.1)
                 have HS3_:=(hb.cell (World.block_lt_of_cell? _ _ (hHeld.2.2.2))).trans (hHeld.2.2.2)
                 refine ⟨_,rfl,?_⟩
                 have n0_:=Aside0.mk (Kd.N_below (by (with_reducible repeat (first | apply Kd.N_alloc | apply Kd.N_drewN | apply Kd.N_drew));exact HO_3.out) hb)
                 have n1_:=Aside0.mk (Kd.R_below (by (with_reducible repeat (first | apply Kd.R_alloc | apply Kd.R_drewN | apply Kd.R_drew));exact HO_4.out) hb)
                 have n2_:=Aside0.mk (Kd.V_below (by (with_reducible repeat (first | apply Kd.V_alloc | apply Kd.V_drewN | apply Kd.V_drew));exact HL817_2.out) hb)
                 have n3_:=Aside0.mk (Kd.C_below (by repeat (first | (with_reducible exact HR817_2.out) | (with_reducible refine Kd.C_alloc ?_ _) | (with_reducible refine Kd.C_drewN ?_ _) | (with_reducible refine Kd.C_drew ?_) | exact HR817_2.out)) hb)
                 have n4_:=Aside0.mk (below_step (by repeat (first | (with_reducible first | exact HB.out | apply below_alloc | apply pw_below_drewN | apply below_drew1) | exact HB.out)) hb)
                 clear HO_3
                 clear HO_4
                 clear HL817_2
                 clear HR817_2
                 clear HB
                 have HO_3:=n0_
                 have HO_4:=n1_
                 have HL817_2:=n2_
                 have HR817_2:=n3_
                 have HB:=n4_
                 clear n0_ n1_ n2_ n3_ n4_
                 (try clear hb)
                 (try clear hb2)
                 (try clear hk)
                 (try clear hi)
                 refine hK.out _ _ ⟨HS0_,HS1_,HS2_,HS3_⟩ (fun hHeld=>?_)
                 clear hK K
                 refine norm_ (a':=?_) ?_ ?_
                 rotate_left
                 ·show Act.put _ (some 62) _ = _
                  simp only [Act.put,List.setIfInBounds_toArray,List.set_cons_zero,List.set_cons_succ,i64_w,i32_w]
                  rfl
                 refine pure_ (i:=11) (N:=some 63) (v:=?_) (a':=?_) #[true,true,true,true,true,true,true,true,true,true,true,true,false,false] rfl rfl (any_of HT_.out (by kernel_rfl)) (fun _ _ _ h=>h) (Or.inl ⟨by rfl,?_⟩) ?_ ?_
                 rotate_left;·intro w';go_simp;with_reducible rfl
                 rotate_left;·simp only [Act.put,List.setIfInBounds_toArray,List.set_cons_zero,List.set_cons_succ,i64_w,i32_w];rfl
                 refine pure_ (i:=12) (N:=some 64) (v:=?_) (a':=?_) #[true,true,true,true,true,true,true,true,true,true,true,true,true,false] rfl rfl (any_of HT_.out (by kernel_rfl)) (fun _ _ _ h=>h) (Or.inl ⟨by rfl,?_⟩) ?_ ?_
                 rotate_left;·intro w';go_simp;with_reducible rfl
                 rotate_left;·simp only [Act.put,List.setIfInBounds_toArray,List.set_cons_zero,List.set_cons_succ,i64_w,i32_w];rfl
                 refine pure_ (i:=13) (N:=some 9) (v:=?_) (a':=?_) #[true,true,true,true,true,true,true,true,true,true,true,true,true,true] rfl rfl (any_of HT_.out (by kernel_rfl)) (fun _ _ _ h=>h) (Or.inl ⟨by rfl,?_⟩) ?_ ?_
                 rotate_left;·intro w';go_simp;with_reducible rfl
                 rotate_left;·simp only [Act.put,List.setIfInBounds_toArray,List.set_cons_zero,List.set_cons_succ,i64_w,i32_w];rfl
                 refine done_ (done_of HT_.out (by kernel_rfl)) ?_
                 try go_wp2
                 go_roundg k4
                 case measure=>have:=HJ5.out;have:=HK2.out;have:=HJ17.out;have:=HK4.out;omega
                 case rel=>exact ⟨(((rdOf ByteArray.empty t807 x10_4).toList == t818.toList)),(wrap64 (x10_4 + 1)),(by first | rfl | (simp;done) | (simp [*];done)),(by first | rfl | (simp;done) | (simp [*];done)),H',⟨by have:=HJ5.out;have:=HK2.out;have:=HJ17.out;have:=HK4.out;omega⟩,⟨by (with_reducible repeat (first | apply Kd.N_alloc | apply Kd.N_drewN | apply Kd.N_drew));exact HO_3.out⟩,⟨by (with_reducible repeat (first | apply Kd.R_alloc | apply Kd.R_drewN | apply Kd.R_drew));exact HO_4.out⟩,⟨by repeat (first | (with_reducible first | exact HB.out | apply below_alloc | apply pw_below_drewN | apply below_drew1) | exact HB.out)⟩⟩
                ·rw [if_neg c27] at H
                 exact absurd H (by simp)
               ·rw [if_neg c26] at H
                exact absurd H (by simp)
              ·rw [if_neg c25] at H
               exact absurd H (by simp)
            ·rw [if_neg c21] at H
             have c21b0:decide (x10_4 < (t807.length:Int)) = false:=decide_eq_false c21
             clear c21
             by_cases c32:0 ≤ x8_2
             ·rw [if_pos c32] at H
              have c32b0:decide (0 ≤ x8_2) = true:=decide_eq_true c32
              clear c32
              by_cases c33:x8_2 < (t804.length:Int)
              ·rw [if_pos c33] at H
               have c33b0:decide (x8_2 < (t804.length:Int)) = true:=decide_eq_true c33
               clear c33
               by_cases c34:x9_4 = true
               ·subst c34
                have H1:((impl_SealMade.f t804 ((rd_T25 t804 x8_2).f0) ((rd_T25 t804 x8_2).f1) ((rd_T25 t804 x8_2).f2)).bind fun t821=>(if t821 = true then (if ((rd_T25 t804 x8_2).f0) = 1 then (if 0 < (((rd_T25 t804 x8_2).f2).length:Int) then ((impl_SealMade.f t804 ((rd_T25 ((rd_T25 t804 x8_2).f2) 0).f0) ((rd_T25 ((rd_T25 t804 x8_2).f2) 0).f1) ((rd_T25 ((rd_T25 t804 x8_2).f2) 0).f2)).bind fun t824=>(if t824 = true then (if 1 < (((rd_T25 t804 x8_2).f2).length:Int) then ((impl_SealMade.f t804 ((rd_T25 ((rd_T25 t804 x8_2).f2) 1).f0) ((rd_T25 ((rd_T25 t804 x8_2).f2) 1).f1) ((rd_T25 ((rd_T25 t804 x8_2).f2) 1).f2)).bind fun t826=>(if t826 = true then (laws_FnSealKnown.l0 k4 t804 t807 t808 (wrap64 (x8_2 + 1))) else (some false))) else (none)) else (some false))) else (none)) else (laws_FnSealKnown.l0 k4 t804 t807 t808 (wrap64 (x8_2 + 1)))) else (some false))) = some r:=by rw [if_pos rfl] at H;exact H
                clear H
                have H:=H1
                clear H1
                replace H:=Option.bind_eq_some_iff.mp H
                obtain ⟨t821,A350,H⟩:=H
                replace H:(if t821 = true then (if ((rd_T25 t804 x8_2).f0) = 1 then (if 0 < (((rd_T25 t804 x8_2).f2).length:Int) then ((impl_SealMade.f t804 ((rd_T25 ((rd_T25 t804 x8_2).f2) 0).f0) ((rd_T25 ((rd_T25 t804 x8_2).f2) 0).f1) ((rd_T25 ((rd_T25 t804 x8_2).f2) 0).f2)).bind fun t824=>(if t824 = true then (if 1 < (((rd_T25 t804 x8_2).f2).length:Int) then ((impl_SealMade.f t804 ((rd_T25 ((rd_T25 t804 x8_2).f2) 1).f0) ((rd_T25 ((rd_T25 t804 x8_2).f2) 1).f1) ((rd_T25 ((rd_T25 t804 x8_2).f2) 1).f2)).bind fun t826=>(if t826 = true then (laws_FnSealKnown.l0 k4 t804 t807 t808 (wrap64 (x8_2 + 1))) else (some false))) else (none)) else (some false))) else (none)) else (laws_FnSealKnown.l0 k4 t804 t807 t808 (wrap64 (x8_2 + 1)))) else (some false)) = some r:=H
                have A35:=Aside0.mk A350
                clear A350
                by_cases c36:t821 = true
                ·subst c36
                 have H1:(if ((rd_T25 t804 x8_2).f0) = 1 then (if 0 < (((rd_T25 t804 x8_2).f2).length:Int) then ((impl_SealMade.f t804 ((rd_T25 ((rd_T25 t804 x8_2).f2) 0).f0) ((rd_T25 ((rd_T25 t804 x8_2).f2) 0).f1) ((rd_T25 ((rd_T25 t804 x8_2).f2) 0).f2)).bind fun t824=>(if t824 = true then (if 1 < (((rd_T25 t804 x8_2).f2).length:Int) then ((impl_SealMade.f t804 ((rd_T25 ((rd_T25 t804 x8_2).f2) 1).f0) ((rd_T25 ((rd_T25 t804 x8_2).f2) 1).f1) ((rd_T25 ((rd_T25 t804 x8_2).f2) 1).f2)).bind fun t826=>(if t826 = true then (laws_FnSealKnown.l0 k4 t804 t807 t808 (wrap64 (x8_2 + 1))) else (some false))) else (none)) else (some false))) else (none)) else (laws_FnSealKnown.l0 k4 t804 t807 t808 (wrap64 (x8_2 + 1)))) = some r:=by rw [if_pos rfl] at H;exact H
                 clear H
                 have H:=H1
                 clear H1
                 by_cases c37:((rd_T25 t804 x8_2).f0) = 1
                 ·rw [if_pos c37] at H
                  have c37b0:(((rd_T25 t804 x8_2).f0) == 1) = true:=beq_iff_eq.mpr c37
                  have c37b1:(((rd_T25 t804 x8_2).f0) != 1) = false:=bne_eq_false_iff_eq.mpr c37
                  clear c37
                  by_cases c38:0 < (((rd_T25 t804 x8_2).f2).length:Int)
                  ·rw [if_pos c38] at H
                   have c38b0:decide (0 < (((rd_T25 t804 x8_2).f2).length:Int)) = true:=decide_eq_true c38
                   have c38b1:decide (0 < ((rd_T25 t804 x8_2).f2).length) = true:=decide_eq_true (by omega)
                   clear c38
                   replace H:=Option.bind_eq_some_iff.mp H
                   obtain ⟨t824,A390,H⟩:=H
                   replace H:(if t824 = true then (if 1 < (((rd_T25 t804 x8_2).f2).length:Int) then ((impl_SealMade.f t804 ((rd_T25 ((rd_T25 t804 x8_2).f2) 1).f0) ((rd_T25 ((rd_T25 t804 x8_2).f2) 1).f1) ((rd_T25 ((rd_T25 t804 x8_2).f2) 1).f2)).bind fun t826=>(if t826 = true then (laws_FnSealKnown.l0 k4 t804 t807 t808 (wrap64 (x8_2 + 1))) else (some false))) else (none)) else (some false)) = some r:=H
                   have A39:=Aside0.mk A390
                   clear A390
                   by_cases c40:t824 = true
                   ·subst c40
                    have H1:(if 1 < (((rd_T25 t804 x8_2).f2).length:Int) then ((impl_SealMade.f t804 ((rd_T25 ((rd_T25 t804 x8_2).f2) 1).f0) ((rd_T25 ((rd_T25 t804 x8_2).f2) 1).f1) ((rd_T25 ((rd_T25 t804 x8_2).f2) 1).f2)).bind fun t826=>(if t826 = true then (laws_FnSealKnown.l0 k4 t804 t807 t808 (wrap64 (x8_2 + 1))) else (some false))) else (none)) = some r:=by rw [if_pos rfl] at H;exact H
                    clear H
                    have H:=H1
                    clear H1
                    by_cases c41:1 < (((rd_T25 t804 x8_2).f2).length:Int)
                    ·rw [if_pos c41] at H
                     have c41b0:decide (1 < (((rd_T25 t804 x8_2).f2).length:Int)) = true:=decide_eq_true c41
                     have c41b1:decide (1 < ((rd_T25 t804 x8_2).f2).length) = true:=decide_eq_true (by omega)
                     clear c41
                     replace H:=Option.bind_eq_some_iff.mp H
                     obtain ⟨t826,A420,H⟩:=H
                     replace H:(if t826 = true then (laws_FnSealKnown.l0 k4 t804 t807 t808 (wrap64 (x8_2 + 1))) else (some false)) = some r:=H
                     have A42:=Aside0.mk A420
                     clear A420
                     by_cases c43:t826 = true
                     ·subst c43
                      have H1:(laws_FnSealKnown.l0 k4 t804 t807 t808 (wrap64 (x8_2 + 1))) = some r:=by rw [if_pos rfl] at H;exact H
                      clear H
                      have H:=H1
                      clear H1
                      have H':=Aside0.mk H
                      clear H
                      obtain ⟨Ao44,co44,eo44⟩:=Kd.R_slice HO_4.out
                      subst eo44
                      have p819:0 ≤ (x8_2:Int):=of_decide_eq_true (by first | (with_reducible assumption) | assumption)
                      have q819:x8_2 < (t804.length:Int):=of_decide_eq_true (by first | (with_reducible assumption) | assumption)
                      obtain ⟨ad819,A819_2,c819_2,e819,hx819_0,hx819_1,hx819_2,hl819_2,hi819_2⟩:=at_T25 (Kd.N_reads' HO_3.out).2.2 x8_2 p819 q819
                      cases e819
                      obtain ⟨ce819,hce819,hMe819,hcc819⟩:=Kd.N_get HO_3.out z25 x8_2 p819 (by first | exact q819 | exact of_decide_eq_true (by first | (with_reducible assumption) | assumption) | (have e_:=(Kd.N_reads' HO_3.out).1;omega))
                      obtain ⟨ua819_2,uc819_2,rfl,ul819_2,ge819_2⟩:=k25_openF hMe819
                      have hv819_2:=hcc819 2 _ rfl
                      rw [add_field _ _ 2 (by omega)] at hv819_2
                      replace hv819_2:=Option.some.inj (hv819_2.symm.trans hx819_2)
                      injection hv819_2 with hva_ hvn_ hvc_
                      rw [hva_] at ge819_2
                      rw [hvc_] at ul819_2
                      have HL819_2:=Aside0.mk (show Kd.V k25 25 _ w.heap.size _ _ ((rd_T25 t804 x8_2).f2) from Kd.V_mk ul819_2 ge819_2)
                      clear hva_ hvn_ hvc_ ge819_2 ul819_2
                      clear hcc819 hce819
                      have HR819_2:=Aside0.mk hi819_2
                      have HC819_2:=Aside0.mk hl819_2
                      clear hi819_2 hl819_2
                      replace p819:=eq_true p819
                      replace q819:=eq_true q819
                      have p820:0 ≤ (x8_2:Int):=of_decide_eq_true (by first | (with_reducible assumption) | assumption)
                      have q820:x8_2 < (t804.length:Int):=of_decide_eq_true (by first | (with_reducible assumption) | assumption)
                      obtain ⟨ad820,A820_2,c820_2,e820,hx820_0,hx820_1,hx820_2,hl820_2,hi820_2⟩:=at_T25 (Kd.N_reads' HO_3.out).2.2 x8_2 p820 q820
                      obtain rfl:ad819 = ad820:=(by injection e820)
                      obtain ⟨ce820,hce820,hMe820,hcc820⟩:=Kd.N_get HO_3.out z25 x8_2 p820 (by first | exact q820 | exact of_decide_eq_true (by first | (with_reducible assumption) | assumption) | (have e_:=(Kd.N_reads' HO_3.out).1;omega))
                      obtain ⟨ua820_2,uc820_2,rfl,ul820_2,ge820_2⟩:=k25_openF hMe820
                      have hv820_2:=hcc820 2 _ rfl
                      rw [add_field _ _ 2 (by omega)] at hv820_2
                      replace hv820_2:=Option.some.inj (hv820_2.symm.trans hx820_2)
                      injection hv820_2 with hva_ hvn_ hvc_
                      rw [hva_] at ge820_2
                      rw [hvc_] at ul820_2
                      have HL820_2:=Aside0.mk (show Kd.V k25 25 _ w.heap.size _ _ ((rd_T25 t804 x8_2).f2) from Kd.V_mk ul820_2 ge820_2)
                      clear hva_ hvn_ hvc_ ge820_2 ul820_2
                      clear hcc820 hce820
                      have HR820_2:=Aside0.mk hi820_2
                      have HC820_2:=Aside0.mk hl820_2
                      clear hi820_2 hl820_2
                      replace p820:=eq_true p820
                      replace q820:=eq_true q820
                      have ea_:=Option.some.inj (hx819_2.symm.trans hx820_2)
                      injection ea_ with ea_ en_ ec_
                      subst ea_
                      subst ec_
                      clear en_
                      go_wp2_with (first | (go_at_call 28;(with_reducible refine (impl_SealMade.calls _ _ t804 ((rd_T25 t804 x8_2).f0) ((rd_T25 t804 x8_2).f1) _ _ ((rd_T25 t804 x8_2).f2) true _ ?side1 ?side2 ?side3 ?side4 A35.out).mono ?_);(case side1=>repeat (first | exact (Kd.N_reads' HO_3.out).2.2 | (with_reducible refine Kd.C_alloc ?_ _) | (with_reducible refine Kd.C_drewN ?_ _) | (with_reducible refine Kd.C_drew ?_)));(case side2=>exact (Kd.N_reads' HO_3.out).2.1);(case side3=>repeat (first | exact (by repeat (first | (with_reducible exact HR820_2.out) | (with_reducible refine Kd.C_alloc ?_ _) | (with_reducible refine Kd.C_drewN ?_ _) | (with_reducible refine Kd.C_drew ?_) | exact HR820_2.out)) | (with_reducible refine Kd.C_alloc ?_ _) | (with_reducible refine Kd.C_drewN ?_ _) | (with_reducible refine Kd.C_drew ?_)));(case side4=>exact HC820_2.out);rintro e w45 ⟨rfl,hb⟩;have n0_:=Aside0.mk (Kd.N_below (by (with_reducible repeat (first | apply Kd.N_alloc | apply Kd.N_drewN | apply Kd.N_drew));exact HO_3.out) hb);have n1_:=Aside0.mk (Kd.R_below (by (with_reducible repeat (first | apply Kd.R_alloc | apply Kd.R_drewN | apply Kd.R_drew));exact HO_4.out) hb);have n2_:=Aside0.mk (Kd.V_below (by (with_reducible repeat (first | apply Kd.V_alloc | apply Kd.V_drewN | apply Kd.V_drew));exact HL819_2.out) hb);have n3_:=Aside0.mk (Kd.V_below (by (with_reducible repeat (first | apply Kd.V_alloc | apply Kd.V_drewN | apply Kd.V_drew));exact HL820_2.out) hb);have n4_:=Aside0.mk (Kd.C_below (by repeat (first | (with_reducible exact HR819_2.out) | (with_reducible refine Kd.C_alloc ?_ _) | (with_reducible refine Kd.C_drewN ?_ _) | (with_reducible refine Kd.C_drew ?_) | exact HR819_2.out)) hb);have n5_:=Aside0.mk (Kd.C_below (by repeat (first | (with_reducible exact HR820_2.out) | (with_reducible refine Kd.C_alloc ?_ _) | (with_reducible refine Kd.C_drewN ?_ _) | (with_reducible refine Kd.C_drew ?_) | exact HR820_2.out)) hb);have n6_:=Aside0.mk (below_step (by repeat (first | (with_reducible first | exact HB.out | apply below_alloc | apply pw_below_drewN | apply below_drew1) | exact HB.out)) hb);clear HO_3;clear HO_4;clear HL819_2;clear HL820_2;clear HR819_2;clear HR820_2;clear HB;have HO_3:=n0_;have HO_4:=n1_;have HL819_2:=n2_;have HL820_2:=n3_;have HR819_2:=n4_;have HR820_2:=n5_;have HB:=n6_;clear n0_ n1_ n2_ n3_ n4_ n5_ n6_;(try clear hb);(try clear hb2);(try clear hk);(try clear hi);have p822:0 ≤ (x8_2:Int):=of_decide_eq_true (by first | (with_reducible assumption) | assumption);have q822:x8_2 < (t804.length:Int):=of_decide_eq_true (by first | (with_reducible assumption) | assumption);obtain ⟨ad822,A822_2,c822_2,e822,hx822_0,hx822_1,hx822_2,hl822_2,hi822_2⟩:=at_T25 (Kd.N_reads' HO_3.out).2.2 x8_2 p822 q822;obtain rfl:ad819 = ad822:=(by injection e822);obtain ⟨ce822,hce822,hMe822,hcc822⟩:=Kd.N_get HO_3.out z25 x8_2 p822 (by first | exact q822 | exact of_decide_eq_true (by first | (with_reducible assumption) | assumption) | (have e_:=(Kd.N_reads' HO_3.out).1;omega));obtain ⟨ua822_2,uc822_2,rfl,ul822_2,ge822_2⟩:=k25_openF hMe822;have hv822_2:=hcc822 2 _ rfl;rw [add_field _ _ 2 (by omega)] at hv822_2;replace hv822_2:=Option.some.inj (hv822_2.symm.trans hx822_2);injection hv822_2 with hva_ hvn_ hvc_;rw [hva_] at ge822_2;rw [hvc_] at ul822_2;have HL822_2:=Aside0.mk (show Kd.V k25 25 _ w.heap.size _ _ ((rd_T25 t804 x8_2).f2) from Kd.V_mk ul822_2 ge822_2);clear hva_ hvn_ hvc_ ge822_2 ul822_2;clear hcc822 hce822;have HR822_2:=Aside0.mk hi822_2;have HC822_2:=Aside0.mk hl822_2;clear hi822_2 hl822_2;replace p822:=eq_true p822;replace q822:=eq_true q822;have p823:0 ≤ (0:Int):=(by omega);have q823:0 < (((rd_T25 t804 x8_2).f2).length:Int):=of_decide_eq_true (by first | (with_reducible assumption) | assumption);obtain ⟨ad823,A823_2,c823_2,e823,hx823_0,hx823_1,hx823_2,hl823_2,hi823_2⟩:=at_T25 (by repeat (first | (with_reducible exact HR819_2.out) | (with_reducible refine Kd.C_alloc ?_ _) | (with_reducible refine Kd.C_drewN ?_ _) | (with_reducible refine Kd.C_drew ?_) | exact HR819_2.out)) 0 p823 q823;cases e823;obtain ⟨ce823,hce823,hMe823,hcc823⟩:=Kd.V_get HL819_2.out z25 0 p823 (by first | exact q823 | exact of_decide_eq_true (by first | (with_reducible assumption) | assumption) | (have e_:=(Kd.V_reads' HL819_2.out).1;omega));obtain ⟨ua823_2,uc823_2,rfl,ul823_2,ge823_2⟩:=k25_openF hMe823;have hv823_2:=hcc823 2 _ rfl;rw [add_field _ _ 2 (by omega)] at hv823_2;replace hv823_2:=Option.some.inj (hv823_2.symm.trans hx823_2);injection hv823_2 with hva_ hvn_ hvc_;rw [hva_] at ge823_2;rw [hvc_] at ul823_2;have HL823_2:=Aside0.mk (show Kd.V k25 25 _ w.heap.size _ _ ((rd_T25 ((rd_T25 t804 x8_2).f2) 0).f2) from Kd.V_mk ul823_2 ge823_2);clear hva_ hvn_ hvc_ ge823_2 ul823_2;clear hcc823 hce823;have qi823:(0 < ((rd_T25 t804 x8_2).f2).length) = True:=eq_true (by omega);(try rw [show ((0:Int)).toNat = 0 from rfl] at hx823_0);(try rw [show 0 * 3 = 0 from rfl] at hx823_0);(try rw [Addr.add_zero'] at hx823_0);(try rw [show ((0:Int)).toNat = 0 from rfl] at hx823_1);(try rw [show 0 * 3 = 0 from rfl] at hx823_1);(try rw [Addr.add_zero'] at hx823_1);(try rw [show ((0:Int)).toNat = 0 from rfl] at hx823_2);(try rw [show 0 * 3 = 0 from rfl] at hx823_2);(try rw [Addr.add_zero'] at hx823_2);have HR823_2:=Aside0.mk hi823_2;have HC823_2:=Aside0.mk hl823_2;clear hi823_2 hl823_2;replace p823:=eq_true p823;replace q823:=eq_true q823) | (go_at_call 28;(with_reducible refine (impl_SealMade.calls _ _ t804 ((rd_T25 ((rd_T25 t804 x8_2).f2) 0).f0) ((rd_T25 ((rd_T25 t804 x8_2).f2) 0).f1) _ _ ((rd_T25 ((rd_T25 t804 x8_2).f2) 0).f2) true _ ?side1 ?side2 ?side3 ?side4 A39.out).mono ?_);(case side1=>repeat (first | exact (Kd.N_reads' HO_3.out).2.2 | (with_reducible refine Kd.C_alloc ?_ _) | (with_reducible refine Kd.C_drewN ?_ _) | (with_reducible refine Kd.C_drew ?_)));(case side2=>exact (Kd.N_reads' HO_3.out).2.1);(case side3=>repeat (first | exact (by repeat (first | (with_reducible exact HR823_2.out) | (with_reducible refine Kd.C_alloc ?_ _) | (with_reducible refine Kd.C_drewN ?_ _) | (with_reducible refine Kd.C_drew ?_) | exact HR823_2.out)) | (with_reducible refine Kd.C_alloc ?_ _) | (with_reducible refine Kd.C_drewN ?_ _) | (with_reducible refine Kd.C_drew ?_)));(case side4=>exact HC823_2.out);rintro e w46 ⟨rfl,hb⟩;have n0_:=Aside0.mk (Kd.N_below (by (with_reducible repeat (first | apply Kd.N_alloc | apply Kd.N_drewN | apply Kd.N_drew));exact HO_3.out) hb);have n1_:=Aside0.mk (Kd.R_below (by (with_reducible repeat (first | apply Kd.R_alloc | apply Kd.R_drewN | apply Kd.R_drew));exact HO_4.out) hb);have n2_:=Aside0.mk (Kd.V_below (by (with_reducible repeat (first | apply Kd.V_alloc | apply Kd.V_drewN | apply Kd.V_drew));exact HL819_2.out) hb);have n3_:=Aside0.mk (Kd.V_below (by (with_reducible repeat (first | apply Kd.V_alloc | apply Kd.V_drewN | apply Kd.V_drew));exact HL820_2.out) hb);have n4_:=Aside0.mk (Kd.V_below (by (with_reducible repeat (first | apply Kd.V_alloc | apply Kd.V_drewN | apply Kd.V_drew));exact HL822_2.out) hb);have n5_:=Aside0.mk (Kd.V_below (by (with_reducible repeat (first | apply Kd.V_alloc | apply Kd.V_drewN | apply Kd.V_drew));exact HL823_2.out) hb);have n6_:=Aside0.mk (Kd.C_below (by repeat (first | (with_reducible exact HR819_2.out) | (with_reducible refine Kd.C_alloc ?_ _) | (with_reducible refine Kd.C_drewN ?_ _) | (with_reducible refine Kd.C_drew ?_) | exact HR819_2.out)) hb);have n7_:=Aside0.mk (Kd.C_below (by repeat (first | (with_reducible exact HR820_2.out) | (with_reducible refine Kd.C_alloc ?_ _) | (with_reducible refine Kd.C_drewN ?_ _) | (with_reducible refine Kd.C_drew ?_) | exact HR820_2.out)) hb);have n8_:=Aside0.mk (Kd.C_below (by repeat (first | (with_reducible exact HR822_2.out) | (with_reducible refine Kd.C_alloc ?_ _) | (with_reducible refine Kd.C_drewN ?_ _) | (with_reducible refine Kd.C_drew ?_) | exact HR822_2.out)) hb);have n9_:=Aside0.mk (Kd.C_below (by repeat (first | (with_reducible exact HR823_2.out) | (with_reducible refine Kd.C_alloc ?_ _) | (with_reducible refine Kd.C_drewN ?_ _) | (with_reducible refine Kd.C_drew ?_) | exact HR823_2.out)) hb);have n10_:=Aside0.mk (below_step (by repeat (first | (with_reducible first | exact HB.out | apply below_alloc | apply pw_below_drewN | apply below_drew1) | exact HB.out)) hb);clear HO_3;clear HO_4;clear HL819_2;clear HL820_2;clear HL822_2;clear HL823_2;clear HR819_2;clear HR820_2;clear HR822_2;clear HR823_2;clear HB;have HO_3:=n0_;have HO_4:=n1_;have HL819_2:=n2_;have HL820_2:=n3_;have HL822_2:=n4_;have HL823_2:=n5_;have HR819_2:=n6_;have HR820_2:=n7_;have HR822_2:=n8_;have HR823_2:=n9_;have HB:=n10_;clear n0_ n1_ n2_ n3_ n4_ n5_ n6_ n7_ n8_ n9_ n10_;(try clear hb);(try clear hb2);(try clear hk);(try clear hi);have p825:0 ≤ (1:Int):=(by omega);have q825:1 < (((rd_T25 t804 x8_2).f2).length:Int):=of_decide_eq_true (by first | (with_reducible assumption) | assumption);obtain ⟨ad825,A825_2,c825_2,e825,hx825_0,hx825_1,hx825_2,hl825_2,hi825_2⟩:=at_T25 (by repeat (first | (with_reducible exact HR819_2.out) | (with_reducible refine Kd.C_alloc ?_ _) | (with_reducible refine Kd.C_drewN ?_ _) | (with_reducible refine Kd.C_drew ?_) | exact HR819_2.out)) 1 p825 q825;obtain rfl:ad823 = ad825:=(by injection e825);obtain ⟨ce825,hce825,hMe825,hcc825⟩:=Kd.V_get HL819_2.out z25 1 p825 (by first | exact q825 | exact of_decide_eq_true (by first | (with_reducible assumption) | assumption) | (have e_:=(Kd.V_reads' HL819_2.out).1;omega));obtain ⟨ua825_2,uc825_2,rfl,ul825_2,ge825_2⟩:=k25_openF hMe825;have hv825_2:=hcc825 2 _ rfl;rw [add_field _ _ 2 (by omega)] at hv825_2;replace hv825_2:=Option.some.inj (hv825_2.symm.trans hx825_2);injection hv825_2 with hva_ hvn_ hvc_;rw [hva_] at ge825_2;rw [hvc_] at ul825_2;have HL825_2:=Aside0.mk (show Kd.V k25 25 _ w.heap.size _ _ ((rd_T25 ((rd_T25 t804 x8_2).f2) 1).f2) from Kd.V_mk ul825_2 ge825_2);clear hva_ hvn_ hvc_ ge825_2 ul825_2;clear hcc825 hce825;(try simp only [show (1:Int).toNat = 1 from rfl,Nat.reduceMul,Nat.reduceEqDiff,Go.Addr.add,↓reduceIte] at hx825_0);(try simp only [show (1:Int).toNat = 1 from rfl,Nat.reduceMul,Nat.reduceEqDiff,Go.Addr.add,↓reduceIte] at hx825_1);(try simp only [show (1:Int).toNat = 1 from rfl,Nat.reduceMul,Nat.reduceEqDiff,Go.Addr.add,↓reduceIte] at hx825_2);have qi825:(1 < ((rd_T25 t804 x8_2).f2).length) = True:=eq_true (by omega);(try rw [show ((1:Int)).toNat = 1 from rfl] at hx825_0);(try rw [show 1 * 3 = 3 from rfl] at hx825_0);(try rw [show ((1:Int)).toNat = 1 from rfl] at hx825_1);(try rw [show 1 * 3 = 3 from rfl] at hx825_1);(try rw [show ((1:Int)).toNat = 1 from rfl] at hx825_2);(try rw [show 1 * 3 = 3 from rfl] at hx825_2);have HR825_2:=Aside0.mk hi825_2;have HC825_2:=Aside0.mk hl825_2;clear hi825_2 hl825_2;replace p825:=eq_true p825;replace q825:=eq_true q825) | (go_at_call 28;(with_reducible refine (impl_SealMade.calls _ _ t804 ((rd_T25 ((rd_T25 t804 x8_2).f2) 1).f0) ((rd_T25 ((rd_T25 t804 x8_2).f2) 1).f1) _ _ ((rd_T25 ((rd_T25 t804 x8_2).f2) 1).f2) true _ ?side1 ?side2 ?side3 ?side4 A42.out).mono ?_);(case side1=>repeat (first | exact (Kd.N_reads' HO_3.out).2.2 | (with_reducible refine Kd.C_alloc ?_ _) | (with_reducible refine Kd.C_drewN ?_ _) | (with_reducible refine Kd.C_drew ?_)));(case side2=>exact (Kd.N_reads' HO_3.out).2.1);(case side3=>repeat (first | exact (by repeat (first | (with_reducible exact HR825_2.out) | (with_reducible refine Kd.C_alloc ?_ _) | (with_reducible refine Kd.C_drewN ?_ _) | (with_reducible refine Kd.C_drew ?_) | exact HR825_2.out)) | (with_reducible refine Kd.C_alloc ?_ _) | (with_reducible refine Kd.C_drewN ?_ _) | (with_reducible refine Kd.C_drew ?_)));(case side4=>exact HC825_2.out);rintro e w47 ⟨rfl,hb⟩;have n0_:=Aside0.mk (Kd.N_below (by (with_reducible repeat (first | apply Kd.N_alloc | apply Kd.N_drewN | apply Kd.N_drew));exact HO_3.out) hb);have n1_:=Aside0.mk (Kd.R_below (by (with_reducible repeat (first | apply Kd.R_alloc | apply Kd.R_drewN | apply Kd.R_drew));exact HO_4.out) hb);have n2_:=Aside0.mk (Kd.V_below (by (with_reducible repeat (first | apply Kd.V_alloc | apply Kd.V_drewN | apply Kd.V_drew));exact HL819_2.out) hb);have n3_:=Aside0.mk (Kd.V_below (by (with_reducible repeat (first | apply Kd.V_alloc | apply Kd.V_drewN | apply Kd.V_drew));exact HL820_2.out) hb);have n4_:=Aside0.mk (Kd.V_below (by (with_reducible repeat (first | apply Kd.V_alloc | apply Kd.V_drewN | apply Kd.V_drew));exact HL822_2.out) hb);have n5_:=Aside0.mk (Kd.V_below (by (with_reducible repeat (first | apply Kd.V_alloc | apply Kd.V_drewN | apply Kd.V_drew));exact HL823_2.out) hb);have n6_:=Aside0.mk (Kd.V_below (by (with_reducible repeat (first | apply Kd.V_alloc | apply Kd.V_drewN | apply Kd.V_drew));exact HL825_2.out) hb);have n7_:=Aside0.mk (Kd.C_below (by repeat (first | (with_reducible exact HR819_2.out) | (with_reducible refine Kd.C_alloc ?_ _) | (with_reducible refine Kd.C_drewN ?_ _) | (with_reducible refine Kd.C_drew ?_) | exact HR819_2.out)) hb);have n8_:=Aside0.mk (Kd.C_below (by repeat (first | (with_reducible exact HR820_2.out) | (with_reducible refine Kd.C_alloc ?_ _) | (with_reducible refine Kd.C_drewN ?_ _) | (with_reducible refine Kd.C_drew ?_) | exact HR820_2.out)) hb);have n9_:=Aside0.mk (Kd.C_below (by repeat (first | (with_reducible exact HR822_2.out) | (with_reducible refine Kd.C_alloc ?_ _) | (with_reducible refine Kd.C_drewN ?_ _) | (with_reducible refine Kd.C_drew ?_) | exact HR822_2.out)) hb);have n10_:=Aside0.mk (Kd.C_below (by repeat (first | (with_reducible exact HR823_2.out) | (with_reducible refine Kd.C_alloc ?_ _) | (with_reducible refine Kd.C_drewN ?_ _) | (with_reducible refine Kd.C_drew ?_) | exact HR823_2.out)) hb);have n11_:=Aside0.mk (Kd.C_below (by repeat (first | (with_reducible exact HR825_2.out) | (with_reducible refine Kd.C_alloc ?_ _) | (with_reducible refine Kd.C_drewN ?_ _) | (with_reducible refine Kd.C_drew ?_) | exact HR825_2.out)) hb);have n12_:=Aside0.mk (below_step (by repeat (first | (with_reducible first | exact HB.out | apply below_alloc | apply pw_below_drewN | apply below_drew1) | exact HB.out)) hb);clear HO_3;clear HO_4;clear HL819_2;clear HL820_2;clear HL822_2;clear HL823_2;clear HL825_2;clear HR819_2;clear HR820_2;clear HR822_2;clear HR823_2;clear HR825_2;clear HB;have HO_3:=n0_;have HO_4:=n1_;have HL819_2:=n2_;have HL820_2:=n3_;have HL822_2:=n4_;have HL823_2:=n5_;have HL825_2:=n6_;have HR819_2:=n7_;have HR820_2:=n8_;have HR822_2:=n9_;have HR823_2:=n10_;have HR825_2:=n11_;have HB:=n12_;clear n0_ n1_ n2_ n3_ n4_ n5_ n6_ n7_ n8_ n9_ n10_ n11_ n12_;(try clear hb);(try clear hb2);(try clear hk);(try clear hi)))
                      go_roundg k4
                      case measure=>have:=HJ5.out;have:=HK2.out;have:=HJ17.out;have:=HK4.out;omega
                      case rel=>exact ⟨(wrap64 (x8_2 + 1)),(by first | rfl | (simp;done) | (simp [*];done)),H',⟨by have:=HJ5.out;have:=HK2.out;have:=HJ17.out;have:=HK4.out;omega⟩,⟨by (with_reducible repeat (first | apply Kd.N_alloc | apply Kd.N_drewN | apply Kd.N_drew));exact HO_3.out⟩,⟨by (with_reducible repeat (first | apply Kd.R_alloc | apply Kd.R_drewN | apply Kd.R_drew));exact HO_4.out⟩,⟨by repeat (first | (with_reducible first | exact HB.out | apply below_alloc | apply pw_below_drewN | apply below_drew1) | exact HB.out)⟩⟩
                     ·replace c43:=Bool.eq_false_iff.mpr c43
                      subst c43
                      have H1:(some false) = some r:=by rw [if_neg (show ¬ (false = true) by decide)] at H;exact H
                      clear H
                      have H:=H1
                      clear H1
                      obtain rfl:=Option.some.inj H
                      obtain ⟨Ao48,co48,eo48⟩:=Kd.R_slice HO_4.out
                      subst eo48
                      have p819:0 ≤ (x8_2:Int):=of_decide_eq_true (by first | (with_reducible assumption) | assumption)
                      have q819:x8_2 < (t804.length:Int):=of_decide_eq_true (by first | (with_reducible assumption) | assumption)
                      obtain ⟨ad819,A819_2,c819_2,e819,hx819_0,hx819_1,hx819_2,hl819_2,hi819_2⟩:=at_T25 (Kd.N_reads' HO_3.out).2.2 x8_2 p819 q819
                      cases e819
                      obtain ⟨ce819,hce819,hMe819,hcc819⟩:=Kd.N_get HO_3.out z25 x8_2 p819 (by first | exact q819 | exact of_decide_eq_true (by first | (with_reducible assumption) | assumption) | (have e_:=(Kd.N_reads' HO_3.out).1;omega))
                      obtain ⟨ua819_2,uc819_2,rfl,ul819_2,ge819_2⟩:=k25_openF hMe819
                      have hv819_2:=hcc819 2 _ rfl
                      rw [add_field _ _ 2 (by omega)] at hv819_2
                      replace hv819_2:=Option.some.inj (hv819_2.symm.trans hx819_2)
                      injection hv819_2 with hva_ hvn_ hvc_
                      rw [hva_] at ge819_2
                      rw [hvc_] at ul819_2
                      have HL819_2:=Aside0.mk (show Kd.V k25 25 _ w.heap.size _ _ ((rd_T25 t804 x8_2).f2) from Kd.V_mk ul819_2 ge819_2)
                      clear hva_ hvn_ hvc_ ge819_2 ul819_2
                      clear hcc819 hce819
                      have HR819_2:=Aside0.mk hi819_2
                      have HC819_2:=Aside0.mk hl819_2
                      clear hi819_2 hl819_2
                      replace p819:=eq_true p819
                      replace q819:=eq_true q819
                      have p820:0 ≤ (x8_2:Int):=of_decide_eq_true (by first | (with_reducible assumption) | assumption)
                      have q820:x8_2 < (t804.length:Int):=of_decide_eq_true (by first | (with_reducible assumption) | assumption)
                      obtain ⟨ad820,A820_2,c820_2,e820,hx820_0,hx820_1,hx820_2,hl820_2,hi820_2⟩:=at_T25 (Kd.N_reads' HO_3.out).2.2 x8_2 p820 q820
                      obtain rfl:ad819 = ad820:=(by injection e820)
                      obtain ⟨ce820,hce820,hMe820,hcc820⟩:=Kd.N_get HO_3.out z25 x8_2 p820 (by first | exact q820 | exact of_decide_eq_true (by first | (with_reducible assumption) | assumption) | (have e_:=(Kd.N_reads' HO_3.out).1;omega))
                      obtain ⟨ua820_2,uc820_2,rfl,ul820_2,ge820_2⟩:=k25_openF hMe820
                      have hv820_2:=hcc820 2 _ rfl
                      rw [add_field _ _ 2 (by omega)] at hv820_2
                      replace hv820_2:=Option.some.inj (hv820_2.symm.trans hx820_2)
                      injection hv820_2 with hva_ hvn_ hvc_
                      rw [hva_] at ge820_2
                      rw [hvc_] at ul820_2
                      have HL820_2:=Aside0.mk (show Kd.V k25 25 _ w.heap.size _ _ ((rd_T25 t804 x8_2).f2) from Kd.V_mk ul820_2 ge820_2)
                      clear hva_ hvn_ hvc_ ge820_2 ul820_2
                      clear hcc820 hce820
                      have HR820_2:=Aside0.mk hi820_2
                      have HC820_2:=Aside0.mk hl820_2
                      clear hi820_2 hl820_2
                      replace p820:=eq_true p820
                      replace q820:=eq_true q820
                      have ea_:=Option.some.inj (hx819_2.symm.trans hx820_2)
                      injection ea_ with ea_ en_ ec_
                      subst ea_
                      subst ec_
                      clear en_
                      go_wp2_with (first | (go_at_call 28;(with_reducible refine (impl_SealMade.calls _ _ t804 ((rd_T25 t804 x8_2).f0) ((rd_T25 t804 x8_2).f1) _ _ ((rd_T25 t804 x8_2).f2) true _ ?side1 ?side2 ?side3 ?side4 A35.out).mono ?_);(case side1=>repeat (first | exact (Kd.N_reads' HO_3.out).2.2 | (with_reducible refine Kd.C_alloc ?_ _) | (with_reducible refine Kd.C_drewN ?_ _) | (with_reducible refine Kd.C_drew ?_)));(case side2=>exact (Kd.N_reads' HO_3.out).2.1);(case side3=>repeat (first | exact (by repeat (first | (with_reducible exact HR820_2.out) | (with_reducible refine Kd.C_alloc ?_ _) | (with_reducible refine Kd.C_drewN ?_ _) | (with_reducible refine Kd.C_drew ?_) | exact HR820_2.out)) | (with_reducible refine Kd.C_alloc ?_ _) | (with_reducible refine Kd.C_drewN ?_ _) | (with_reducible refine Kd.C_drew ?_)));(case side4=>exact HC820_2.out);rintro e w49 ⟨rfl,hb⟩;have n0_:=Aside0.mk (Kd.N_below (by (with_reducible repeat (first | apply Kd.N_alloc | apply Kd.N_drewN | apply Kd.N_drew));exact HO_3.out) hb);have n1_:=Aside0.mk (Kd.R_below (by (with_reducible repeat (first | apply Kd.R_alloc | apply Kd.R_drewN | apply Kd.R_drew));exact HO_4.out) hb);have n2_:=Aside0.mk (Kd.V_below (by (with_reducible repeat (first | apply Kd.V_alloc | apply Kd.V_drewN | apply Kd.V_drew));exact HL819_2.out) hb);have n3_:=Aside0.mk (Kd.V_below (by (with_reducible repeat (first | apply Kd.V_alloc | apply Kd.V_drewN | apply Kd.V_drew));exact HL820_2.out) hb);have n4_:=Aside0.mk (Kd.C_below (by repeat (first | (with_reducible exact HR819_2.out) | (with_reducible refine Kd.C_alloc ?_ _) | (with_reducible refine Kd.C_drewN ?_ _) | (with_reducible refine Kd.C_drew ?_) | exact HR819_2.out)) hb);have n5_:=Aside0.mk (Kd.C_below (by repeat (first | (with_reducible exact HR820_2.out) | (with_reducible refine Kd.C_alloc ?_ _) | (with_reducible refine Kd.C_drewN ?_ _) | (with_reducible refine Kd.C_drew ?_) | exact HR820_2.out)) hb);have n6_:=Aside0.mk (below_step (by repeat (first | (with_reducible first | exact HB.out | apply below_alloc | apply pw_below_drewN | apply below_drew1) | exact HB.out)) hb);clear HO_3;clear HO_4;clear HL819_2;clear HL820_2;clear HR819_2;clear HR820_2;clear HB;have HO_3:=n0_;have HO_4:=n1_;have HL819_2:=n2_;have HL820_2:=n3_;have HR819_2:=n4_;have HR820_2:=n5_;have HB:=n6_;clear n0_ n1_ n2_ n3_ n4_ n5_ n6_;(try clear hb);(try clear hb2);(try clear hk);(try clear hi);have p822:0 ≤ (x8_2:Int):=of_decide_eq_true (by first | (with_reducible assumption) | assumption);have q822:x8_2 < (t804.length:Int):=of_decide_eq_true (by first | (with_reducible assumption) | assumption);obtain ⟨ad822,A822_2,c822_2,e822,hx822_0,hx822_1,hx822_2,hl822_2,hi822_2⟩:=at_T25 (Kd.N_reads' HO_3.out).2.2 x8_2 p822 q822;obtain rfl:ad819 = ad822:=(by injection e822);obtain ⟨ce822,hce822,hMe822,hcc822⟩:=Kd.N_get HO_3.out z25 x8_2 p822 (by first | exact q822 | exact of_decide_eq_true (by first | (with_reducible assumption) | assumption) | (have e_:=(Kd.N_reads' HO_3.out).1;omega));obtain ⟨ua822_2,uc822_2,rfl,ul822_2,ge822_2⟩:=k25_openF hMe822;have hv822_2:=hcc822 2 _ rfl;rw [add_field _ _ 2 (by omega)] at hv822_2;replace hv822_2:=Option.some.inj (hv822_2.symm.trans hx822_2);injection hv822_2 with hva_ hvn_ hvc_;rw [hva_] at ge822_2;rw [hvc_] at ul822_2;have HL822_2:=Aside0.mk (show Kd.V k25 25 _ w.heap.size _ _ ((rd_T25 t804 x8_2).f2) from Kd.V_mk ul822_2 ge822_2);clear hva_ hvn_ hvc_ ge822_2 ul822_2;clear hcc822 hce822;have HR822_2:=Aside0.mk hi822_2;have HC822_2:=Aside0.mk hl822_2;clear hi822_2 hl822_2;replace p822:=eq_true p822;replace q822:=eq_true q822;have p823:0 ≤ (0:Int):=(by omega);have q823:0 < (((rd_T25 t804 x8_2).f2).length:Int):=of_decide_eq_true (by first | (with_reducible assumption) | assumption);obtain ⟨ad823,A823_2,c823_2,e823,hx823_0,hx823_1,hx823_2,hl823_2,hi823_2⟩:=at_T25 (by repeat (first | (with_reducible exact HR819_2.out) | (with_reducible refine Kd.C_alloc ?_ _) | (with_reducible refine Kd.C_drewN ?_ _) | (with_reducible refine Kd.C_drew ?_) | exact HR819_2.out)) 0 p823 q823;cases e823;obtain ⟨ce823,hce823,hMe823,hcc823⟩:=Kd.V_get HL819_2.out z25 0 p823 (by first | exact q823 | exact of_decide_eq_true (by first | (with_reducible assumption) | assumption) | (have e_:=(Kd.V_reads' HL819_2.out).1;omega));obtain ⟨ua823_2,uc823_2,rfl,ul823_2,ge823_2⟩:=k25_openF hMe823;have hv823_2:=hcc823 2 _ rfl;rw [add_field _ _ 2 (by omega)] at hv823_2;replace hv823_2:=Option.some.inj (hv823_2.symm.trans hx823_2);injection hv823_2 with hva_ hvn_ hvc_;rw [hva_] at ge823_2;rw [hvc_] at ul823_2;have HL823_2:=Aside0.mk (show Kd.V k25 25 _ w.heap.size _ _ ((rd_T25 ((rd_T25 t804 x8_2).f2) 0).f2) from Kd.V_mk ul823_2 ge823_2);clear hva_ hvn_ hvc_ ge823_2 ul823_2;clear hcc823 hce823;have qi823:(0 < ((rd_T25 t804 x8_2).f2).length) = True:=eq_true (by omega);(try rw [show ((0:Int)).toNat = 0 from rfl] at hx823_0);(try rw [show 0 * 3 = 0 from rfl] at hx823_0);(try rw [Addr.add_zero'] at hx823_0);(try rw [show ((0:Int)).toNat = 0 from rfl] at hx823_1);(try rw [show 0 * 3 = 0 from rfl] at hx823_1);(try rw [Addr.add_zero'] at hx823_1);(try rw [show ((0:Int)).toNat = 0 from rfl] at hx823_2);(try rw [show 0 * 3 = 0 from rfl] at hx823_2);(try rw [Addr.add_zero'] at hx823_2);have HR823_2:=Aside0.mk hi823_2;have HC823_2:=Aside0.mk hl823_2;clear hi823_2 hl823_2;replace p823:=eq_true p823;replace q823:=eq_true q823) | (go_at_call 28;(with_reducible refine (impl_SealMade.calls _ _ t804 ((rd_T25 ((rd_T25 t804 x8_2).f2) 0).f0) ((rd_T25 ((rd_T25 t804 x8_2).f2) 0).f1) _ _ ((rd_T25 ((rd_T25 t804 x8_2).f2) 0).f2) true _ ?side1 ?side2 ?side3 ?side4 A39.out).mono ?_);(case side1=>repeat (first | exact (Kd.N_reads' HO_3.out).2.2 | (with_reducible refine Kd.C_alloc ?_ _) | (with_reducible refine Kd.C_drewN ?_ _) | (with_reducible refine Kd.C_drew ?_)));(case side2=>exact (Kd.N_reads' HO_3.out).2.1);(case side3=>repeat (first | exact (by repeat (first | (with_reducible exact HR823_2.out) | (with_reducible refine Kd.C_alloc ?_ _) | (with_reducible refine Kd.C_drewN ?_ _) | (with_reducible refine Kd.C_drew ?_) | exact HR823_2.out)) | (with_reducible refine Kd.C_alloc ?_ _) | (with_reducible refine Kd.C_drewN ?_ _) | (with_reducible refine Kd.C_drew ?_)));(case side4=>exact HC823_2.out);rintro e w50 ⟨rfl,hb⟩;have n0_:=Aside0.mk (Kd.N_below (by (with_reducible repeat (first | apply Kd.N_alloc | apply Kd.N_drewN | apply Kd.N_drew));exact HO_3.out) hb);have n1_:=Aside0.mk (Kd.R_below (by (with_reducible repeat (first | apply Kd.R_alloc | apply Kd.R_drewN | apply Kd.R_drew));exact HO_4.out) hb);have n2_:=Aside0.mk (Kd.V_below (by (with_reducible repeat (first | apply Kd.V_alloc | apply Kd.V_drewN | apply Kd.V_drew));exact HL819_2.out) hb);have n3_:=Aside0.mk (Kd.V_below (by (with_reducible repeat (first | apply Kd.V_alloc | apply Kd.V_drewN | apply Kd.V_drew));exact HL820_2.out) hb);have n4_:=Aside0.mk (Kd.V_below (by (with_reducible repeat (first | apply Kd.V_alloc | apply Kd.V_drewN | apply Kd.V_drew));exact HL822_2.out) hb);have n5_:=Aside0.mk (Kd.V_below (by (with_reducible repeat (first | apply Kd.V_alloc | apply Kd.V_drewN | apply Kd.V_drew));exact HL823_2.out) hb);have n6_:=Aside0.mk (Kd.C_below (by repeat (first | (with_reducible exact HR819_2.out) | (with_reducible refine Kd.C_alloc ?_ _) | (with_reducible refine Kd.C_drewN ?_ _) | (with_reducible refine Kd.C_drew ?_) | exact HR819_2.out)) hb);have n7_:=Aside0.mk (Kd.C_below (by repeat (first | (with_reducible exact HR820_2.out) | (with_reducible refine Kd.C_alloc ?_ _) | (with_reducible refine Kd.C_drewN ?_ _) | (with_reducible refine Kd.C_drew ?_) | exact HR820_2.out)) hb);have n8_:=Aside0.mk (Kd.C_below (by repeat (first | (with_reducible exact HR822_2.out) | (with_reducible refine Kd.C_alloc ?_ _) | (with_reducible refine Kd.C_drewN ?_ _) | (with_reducible refine Kd.C_drew ?_) | exact HR822_2.out)) hb);have n9_:=Aside0.mk (Kd.C_below (by repeat (first | (with_reducible exact HR823_2.out) | (with_reducible refine Kd.C_alloc ?_ _) | (with_reducible refine Kd.C_drewN ?_ _) | (with_reducible refine Kd.C_drew ?_) | exact HR823_2.out)) hb);have n10_:=Aside0.mk (below_step (by repeat (first | (with_reducible first | exact HB.out | apply below_alloc | apply pw_below_drewN | apply below_drew1) | exact HB.out)) hb);clear HO_3;clear HO_4;clear HL819_2;clear HL820_2;clear HL822_2;clear HL823_2;clear HR819_2;clear HR820_2;clear HR822_2;clear HR823_2;clear HB;have HO_3:=n0_;have HO_4:=n1_;have HL819_2:=n2_;have HL820_2:=n3_;have HL822_2:=n4_;have HL823_2:=n5_;have HR819_2:=n6_;have HR820_2:=n7_;have HR822_2:=n8_;have HR823_2:=n9_;have HB:=n10_;clear n0_ n1_ n2_ n3_ n4_ n5_ n6_ n7_ n8_ n9_ n10_;(try clear hb);(try clear hb2);(try clear hk);(try clear hi);have p825:0 ≤ (1:Int):=(by omega);have q825:1 < (((rd_T25 t804 x8_2).f2).length:Int):=of_decide_eq_true (by first | (with_reducible assumption) | assumption);obtain ⟨ad825,A825_2,c825_2,e825,hx825_0,hx825_1,hx825_2,hl825_2,hi825_2⟩:=at_T25 (by repeat (first | (with_reducible exact HR819_2.out) | (with_reducible refine Kd.C_alloc ?_ _) | (with_reducible refine Kd.C_drewN ?_ _) | (with_reducible refine Kd.C_drew ?_) | exact HR819_2.out)) 1 p825 q825;obtain rfl:ad823 = ad825:=(by injection e825);obtain ⟨ce825,hce825,hMe825,hcc825⟩:=Kd.V_get HL819_2.out z25 1 p825 (by first | exact q825 | exact of_decide_eq_true (by first | (with_reducible assumption) | assumption) | (have e_:=(Kd.V_reads' HL819_2.out).1;omega));obtain ⟨ua825_2,uc825_2,rfl,ul825_2,ge825_2⟩:=k25_openF hMe825;have hv825_2:=hcc825 2 _ rfl;rw [add_field _ _ 2 (by omega)] at hv825_2;replace hv825_2:=Option.some.inj (hv825_2.symm.trans hx825_2);injection hv825_2 with hva_ hvn_ hvc_;rw [hva_] at ge825_2;rw [hvc_] at ul825_2;have HL825_2:=Aside0.mk (show Kd.V k25 25 _ w.heap.size _ _ ((rd_T25 ((rd_T25 t804 x8_2).f2) 1).f2) from Kd.V_mk ul825_2 ge825_2);clear hva_ hvn_ hvc_ ge825_2 ul825_2;clear hcc825 hce825;(try simp only [show (1:Int).toNat = 1 from rfl,Nat.reduceMul,Nat.reduceEqDiff,Go.Addr.add,↓reduceIte] at hx825_0);(try simp only [show (1:Int).toNat = 1 from rfl,Nat.reduceMul,Nat.reduceEqDiff,Go.Addr.add,↓reduceIte] at hx825_1);(try simp only [show (1:Int).toNat = 1 from rfl,Nat.reduceMul,Nat.reduceEqDiff,Go.Addr.add,↓reduceIte] at hx825_2);have qi825:(1 < ((rd_T25 t804 x8_2).f2).length) = True:=eq_true (by omega);(try rw [show ((1:Int)).toNat = 1 from rfl] at hx825_0);(try rw [show 1 * 3 = 3 from rfl] at hx825_0);(try rw [show ((1:Int)).toNat = 1 from rfl] at hx825_1);(try rw [show 1 * 3 = 3 from rfl] at hx825_1);(try rw [show ((1:Int)).toNat = 1 from rfl] at hx825_2);(try rw [show 1 * 3 = 3 from rfl] at hx825_2);have HR825_2:=Aside0.mk hi825_2;have HC825_2:=Aside0.mk hl825_2;clear hi825_2 hl825_2;replace p825:=eq_true p825;replace q825:=eq_true q825) | (go_at_call 28;(with_reducible refine (impl_SealMade.calls _ _ t804 ((rd_T25 ((rd_T25 t804 x8_2).f2) 1).f0) ((rd_T25 ((rd_T25 t804 x8_2).f2) 1).f1) _ _ ((rd_T25 ((rd_T25 t804 x8_2).f2) 1).f2) false _ ?side1 ?side2 ?side3 ?side4 A42.out).mono ?_);(case side1=>repeat (first | exact (Kd.N_reads' HO_3.out).2.2 | (with_reducible refine Kd.C_alloc ?_ _) | (with_reducible refine Kd.C_drewN ?_ _) | (with_reducible refine Kd.C_drew ?_)));(case side2=>exact (Kd.N_reads' HO_3.out).2.1);(case side3=>repeat (first | exact (by repeat (first | (with_reducible exact HR825_2.out) | (with_reducible refine Kd.C_alloc ?_ _) | (with_reducible refine Kd.C_drewN ?_ _) | (with_reducible refine Kd.C_drew ?_) | exact HR825_2.out)) | (with_reducible refine Kd.C_alloc ?_ _) | (with_reducible refine Kd.C_drewN ?_ _) | (with_reducible refine Kd.C_drew ?_)));(case side4=>exact HC825_2.out);rintro e w51 ⟨rfl,hb⟩;have n0_:=Aside0.mk (Kd.N_below (by (with_reducible repeat (first | apply Kd.N_alloc | apply Kd.N_drewN | apply Kd.N_drew));exact HO_3.out) hb);have n1_:=Aside0.mk (Kd.R_below (by (with_reducible repeat (first | apply Kd.R_alloc | apply Kd.R_drewN | apply Kd.R_drew));exact HO_4.out) hb);have n2_:=Aside0.mk (Kd.V_below (by (with_reducible repeat (first | apply Kd.V_alloc | apply Kd.V_drewN | apply Kd.V_drew));exact HL819_2.out) hb);have n3_:=Aside0.mk (Kd.V_below (by (with_reducible repeat (first | apply Kd.V_alloc | apply Kd.V_drewN | apply Kd.V_drew));exact HL820_2.out) hb);have n4_:=Aside0.mk (Kd.V_below (by (with_reducible repeat (first | apply Kd.V_alloc | apply Kd.V_drewN | apply Kd.V_drew));exact HL822_2.out) hb);have n5_:=Aside0.mk (Kd.V_below (by (with_reducible repeat (first | apply Kd.V_alloc | apply Kd.V_drewN | apply Kd.V_drew));exact HL823_2.out) hb);have n6_:=Aside0.mk (Kd.V_below (by (with_reducible repeat (first | apply Kd.V_alloc | apply Kd.V_drewN | apply Kd.V_drew));exact HL825_2.out) hb);have n7_:=Aside0.mk (Kd.C_below (by repeat (first | (with_reducible exact HR819_2.out) | (with_reducible refine Kd.C_alloc ?_ _) | (with_reducible refine Kd.C_drewN ?_ _) | (with_reducible refine Kd.C_drew ?_) | exact HR819_2.out)) hb);have n8_:=Aside0.mk (Kd.C_below (by repeat (first | (with_reducible exact HR820_2.out) | (with_reducible refine Kd.C_alloc ?_ _) | (with_reducible refine Kd.C_drewN ?_ _) | (with_reducible refine Kd.C_drew ?_) | exact HR820_2.out)) hb);have n9_:=Aside0.mk (Kd.C_below (by repeat (first | (with_reducible exact HR822_2.out) | (with_reducible refine Kd.C_alloc ?_ _) | (with_reducible refine Kd.C_drewN ?_ _) | (with_reducible refine Kd.C_drew ?_) | exact HR822_2.out)) hb);have n10_:=Aside0.mk (Kd.C_below (by repeat (first | (with_reducible exact HR823_2.out) | (with_reducible refine Kd.C_alloc ?_ _) | (with_reducible refine Kd.C_drewN ?_ _) | (with_reducible refine Kd.C_drew ?_) | exact HR823_2.out)) hb);have n11_:=Aside0.mk (Kd.C_below (by repeat (first | (with_reducible exact HR825_2.out) | (with_reducible refine Kd.C_alloc ?_ _) | (with_reducible refine Kd.C_drewN ?_ _) | (with_reducible refine Kd.C_drew ?_) | exact HR825_2.out)) hb);have n12_:=Aside0.mk (below_step (by repeat (first | (with_reducible first | exact HB.out | apply below_alloc | apply pw_below_drewN | apply below_drew1) | exact HB.out)) hb);clear HO_3;clear HO_4;clear HL819_2;clear HL820_2;clear HL822_2;clear HL823_2;clear HL825_2;clear HR819_2;clear HR820_2;clear HR822_2;clear HR823_2;clear HR825_2;clear HB;have HO_3:=n0_;have HO_4:=n1_;have HL819_2:=n2_;have HL820_2:=n3_;have HL822_2:=n4_;have HL823_2:=n5_;have HL825_2:=n6_;have HR819_2:=n7_;have HR820_2:=n8_;have HR822_2:=n9_;have HR823_2:=n10_;have HR825_2:=n11_;have HB:=n12_;clear n0_ n1_ n2_ n3_ n4_ n5_ n6_ n7_ n8_ n9_ n10_ n11_ n12_;(try clear hb);(try clear hb2);(try clear hk);(try clear hi)))
                      go_ret
                      exact ⟨by first | rfl | (simp [errW_none,errW_some] <;> rfl) | (simp [*,errW_none,errW_some] <;> rfl),by repeat (first | (with_reducible first | exact HB.out | apply below_alloc | apply pw_below_drewN | apply below_drew1) | exact HB.out)⟩
                    ·rw [if_neg c41] at H
                     exact absurd H (by simp)
                   ·replace c40:=Bool.eq_false_iff.mpr c40
                    subst c40
                    have H1:(some false) = some r:=by rw [if_neg (show ¬ (false = true) by decide)] at H;exact H
                    clear H
                    have H:=H1
                    clear H1
                    obtain rfl:=Option.some.inj H
                    obtain ⟨Ao52,co52,eo52⟩:=Kd.R_slice HO_4.out
                    subst eo52
                    have p819:0 ≤ (x8_2:Int):=of_decide_eq_true (by first | (with_reducible assumption) | assumption)
                    have q819:x8_2 < (t804.length:Int):=of_decide_eq_true (by first | (with_reducible assumption) | assumption)
                    obtain ⟨ad819,A819_2,c819_2,e819,hx819_0,hx819_1,hx819_2,hl819_2,hi819_2⟩:=at_T25 (Kd.N_reads' HO_3.out).2.2 x8_2 p819 q819
                    cases e819
                    obtain ⟨ce819,hce819,hMe819,hcc819⟩:=Kd.N_get HO_3.out z25 x8_2 p819 (by first | exact q819 | exact of_decide_eq_true (by first | (with_reducible assumption) | assumption) | (have e_:=(Kd.N_reads' HO_3.out).1;omega))
                    obtain ⟨ua819_2,uc819_2,rfl,ul819_2,ge819_2⟩:=k25_openF hMe819
                    have hv819_2:=hcc819 2 _ rfl
                    rw [add_field _ _ 2 (by omega)] at hv819_2
                    replace hv819_2:=Option.some.inj (hv819_2.symm.trans hx819_2)
                    injection hv819_2 with hva_ hvn_ hvc_
                    rw [hva_] at ge819_2
                    rw [hvc_] at ul819_2
                    have HL819_2:=Aside0.mk (show Kd.V k25 25 _ w.heap.size _ _ ((rd_T25 t804 x8_2).f2) from Kd.V_mk ul819_2 ge819_2)
                    clear hva_ hvn_ hvc_ ge819_2 ul819_2
                    clear hcc819 hce819
                    have HR819_2:=Aside0.mk hi819_2
                    have HC819_2:=Aside0.mk hl819_2
                    clear hi819_2 hl819_2
                    replace p819:=eq_true p819
                    replace q819:=eq_true q819
                    have p820:0 ≤ (x8_2:Int):=of_decide_eq_true (by first | (with_reducible assumption) | assumption)
                    have q820:x8_2 < (t804.length:Int):=of_decide_eq_true (by first | (with_reducible assumption) | assumption)
                    obtain ⟨ad820,A820_2,c820_2,e820,hx820_0,hx820_1,hx820_2,hl820_2,hi820_2⟩:=at_T25 (Kd.N_reads' HO_3.out).2.2 x8_2 p820 q820
                    obtain rfl:ad819 = ad820:=(by injection e820)
                    obtain ⟨ce820,hce820,hMe820,hcc820⟩:=Kd.N_get HO_3.out z25 x8_2 p820 (by first | exact q820 | exact of_decide_eq_true (by first | (with_reducible assumption) | assumption) | (have e_:=(Kd.N_reads' HO_3.out).1;omega))
                    obtain ⟨ua820_2,uc820_2,rfl,ul820_2,ge820_2⟩:=k25_openF hMe820
                    have hv820_2:=hcc820 2 _ rfl
                    rw [add_field _ _ 2 (by omega)] at hv820_2
                    replace hv820_2:=Option.some.inj (hv820_2.symm.trans hx820_2)
                    injection hv820_2 with hva_ hvn_ hvc_
                    rw [hva_] at ge820_2
                    rw [hvc_] at ul820_2
                    have HL820_2:=Aside0.mk (show Kd.V k25 25 _ w.heap.size _ _ ((rd_T25 t804 x8_2).f2) from Kd.V_mk ul820_2 ge820_2)
                    clear hva_ hvn_ hvc_ ge820_2 ul820_2
                    clear hcc820 hce820
                    have HR820_2:=Aside0.mk hi820_2
                    have HC820_2:=Aside0.mk hl820_2
                    clear hi820_2 hl820_2
                    replace p820:=eq_true p820
                    replace q820:=eq_true q820
                    have ea_:=Option.some.inj (hx819_2.symm.trans hx820_2)
                    injection ea_ with ea_ en_ ec_
                    subst ea_
                    subst ec_
                    clear en_
                    go_wp2_with (first | (go_at_call 28;(with_reducible refine (impl_SealMade.calls _ _ t804 ((rd_T25 t804 x8_2).f0) ((rd_T25 t804 x8_2).f1) _ _ ((rd_T25 t804 x8_2).f2) true _ ?side1 ?side2 ?side3 ?side4 A35.out).mono ?_);(case side1=>repeat (first | exact (Kd.N_reads' HO_3.out).2.2 | (with_reducible refine Kd.C_alloc ?_ _) | (with_reducible refine Kd.C_drewN ?_ _) | (with_reducible refine Kd.C_drew ?_)));(case side2=>exact (Kd.N_reads' HO_3.out).2.1);(case side3=>repeat (first | exact (by repeat (first | (with_reducible exact HR820_2.out) | (with_reducible refine Kd.C_alloc ?_ _) | (with_reducible refine Kd.C_drewN ?_ _) | (with_reducible refine Kd.C_drew ?_) | exact HR820_2.out)) | (with_reducible refine Kd.C_alloc ?_ _) | (with_reducible refine Kd.C_drewN ?_ _) | (with_reducible refine Kd.C_drew ?_)));(case side4=>exact HC820_2.out);rintro e w53 ⟨rfl,hb⟩;have n0_:=Aside0.mk (Kd.N_below (by (with_reducible repeat (first | apply Kd.N_alloc | apply Kd.N_drewN | apply Kd.N_drew));exact HO_3.out) hb);have n1_:=Aside0.mk (Kd.R_below (by (with_reducible repeat (first | apply Kd.R_alloc | apply Kd.R_drewN | apply Kd.R_drew));exact HO_4.out) hb);have n2_:=Aside0.mk (Kd.V_below (by (with_reducible repeat (first | apply Kd.V_alloc | apply Kd.V_drewN | apply Kd.V_drew));exact HL819_2.out) hb);have n3_:=Aside0.mk (Kd.V_below (by (with_reducible repeat (first | apply Kd.V_alloc | apply Kd.V_drewN | apply Kd.V_drew));exact HL820_2.out) hb);have n4_:=Aside0.mk (Kd.C_below (by repeat (first | (with_reducible exact HR819_2.out) | (with_reducible refine Kd.C_alloc ?_ _) | (with_reducible refine Kd.C_drewN ?_ _) | (with_reducible refine Kd.C_drew ?_) | exact HR819_2.out)) hb);have n5_:=Aside0.mk (Kd.C_below (by repeat (first | (with_reducible exact HR820_2.out) | (with_reducible refine Kd.C_alloc ?_ _) | (with_reducible refine Kd.C_drewN ?_ _) | (with_reducible refine Kd.C_drew ?_) | exact HR820_2.out)) hb);have n6_:=Aside0.mk (below_step (by repeat (first | (with_reducible first | exact HB.out | apply below_alloc | apply pw_below_drewN | apply below_drew1) | exact HB.out)) hb);clear HO_3;clear HO_4;clear HL819_2;clear HL820_2;clear HR819_2;clear HR820_2;clear HB;have HO_3:=n0_;have HO_4:=n1_;have HL819_2:=n2_;have HL820_2:=n3_;have HR819_2:=n4_;have HR820_2:=n5_;have HB:=n6_;clear n0_ n1_ n2_ n3_ n4_ n5_ n6_;(try clear hb);(try clear hb2);(try clear hk);(try clear hi);have p822:0 ≤ (x8_2:Int):=of_decide_eq_true (by first | (with_reducible assumption) | assumption);have q822:x8_2 < (t804.length:Int):=of_decide_eq_true (by first | (with_reducible assumption) | assumption);obtain ⟨ad822,A822_2,c822_2,e822,hx822_0,hx822_1,hx822_2,hl822_2,hi822_2⟩:=at_T25 (Kd.N_reads' HO_3.out).2.2 x8_2 p822 q822;obtain rfl:ad819 = ad822:=(by injection e822);obtain ⟨ce822,hce822,hMe822,hcc822⟩:=Kd.N_get HO_3.out z25 x8_2 p822 (by first | exact q822 | exact of_decide_eq_true (by first | (with_reducible assumption) | assumption) | (have e_:=(Kd.N_reads' HO_3.out).1;omega));obtain ⟨ua822_2,uc822_2,rfl,ul822_2,ge822_2⟩:=k25_openF hMe822;have hv822_2:=hcc822 2 _ rfl;rw [add_field _ _ 2 (by omega)] at hv822_2;replace hv822_2:=Option.some.inj (hv822_2.symm.trans hx822_2);injection hv822_2 with hva_ hvn_ hvc_;rw [hva_] at ge822_2;rw [hvc_] at ul822_2;have HL822_2:=Aside0.mk (show Kd.V k25 25 _ w.heap.size _ _ ((rd_T25 t804 x8_2).f2) from Kd.V_mk ul822_2 ge822_2);clear hva_ hvn_ hvc_ ge822_2 ul822_2;clear hcc822 hce822;have HR822_2:=Aside0.mk hi822_2;have HC822_2:=Aside0.mk hl822_2;clear hi822_2 hl822_2;replace p822:=eq_true p822;replace q822:=eq_true q822;have p823:0 ≤ (0:Int):=(by omega);have q823:0 < (((rd_T25 t804 x8_2).f2).length:Int):=of_decide_eq_true (by first | (with_reducible assumption) | assumption);obtain ⟨ad823,A823_2,c823_2,e823,hx823_0,hx823_1,hx823_2,hl823_2,hi823_2⟩:=at_T25 (by repeat (first | (with_reducible exact HR819_2.out) | (with_reducible refine Kd.C_alloc ?_ _) | (with_reducible refine Kd.C_drewN ?_ _) | (with_reducible refine Kd.C_drew ?_) | exact HR819_2.out)) 0 p823 q823;cases e823;obtain ⟨ce823,hce823,hMe823,hcc823⟩:=Kd.V_get HL819_2.out z25 0 p823 (by first | exact q823 | exact of_decide_eq_true (by first | (with_reducible assumption) | assumption) | (have e_:=(Kd.V_reads' HL819_2.out).1;omega));obtain ⟨ua823_2,uc823_2,rfl,ul823_2,ge823_2⟩:=k25_openF hMe823;have hv823_2:=hcc823 2 _ rfl;rw [add_field _ _ 2 (by omega)] at hv823_2;replace hv823_2:=Option.some.inj (hv823_2.symm.trans hx823_2);injection hv823_2 with hva_ hvn_ hvc_;rw [hva_] at ge823_2;rw [hvc_] at ul823_2;have HL823_2:=Aside0.mk (show Kd.V k25 25 _ w.heap.size _ _ ((rd_T25 ((rd_T25 t804 x8_2).f2) 0).f2) from Kd.V_mk ul823_2 ge823_2);clear hva_ hvn_ hvc_ ge823_2 ul823_2;clear hcc823 hce823;have qi823:(0 < ((rd_T25 t804 x8_2).f2).length) = True:=eq_true (by omega);(try rw [show ((0:Int)).toNat = 0 from rfl] at hx823_0);(try rw [show 0 * 3 = 0 from rfl] at hx823_0);(try rw [Addr.add_zero'] at hx823_0);(try rw [show ((0:Int)).toNat = 0 from rfl] at hx823_1);(try rw [show 0 * 3 = 0 from rfl] at hx823_1);(try rw [Addr.add_zero'] at hx823_1);(try rw [show ((0:Int)).toNat = 0 from rfl] at hx823_2);(try rw [show 0 * 3 = 0 from rfl] at hx823_2);(try rw [Addr.add_zero'] at hx823_2);have HR823_2:=Aside0.mk hi823_2;have HC823_2:=Aside0.mk hl823_2;clear hi823_2 hl823_2;replace p823:=eq_true p823;replace q823:=eq_true q823) | (go_at_call 28;(with_reducible refine (impl_SealMade.calls _ _ t804 ((rd_T25 ((rd_T25 t804 x8_2).f2) 0).f0) ((rd_T25 ((rd_T25 t804 x8_2).f2) 0).f1) _ _ ((rd_T25 ((rd_T25 t804 x8_2).f2) 0).f2) false _ ?side1 ?side2 ?side3 ?side4 A39.out).mono ?_);(case side1=>repeat (first | exact (Kd.N_reads' HO_3.out).2.2 | (with_reducible refine Kd.C_alloc ?_ _) | (with_reducible refine Kd.C_drewN ?_ _) | (with_reducible refine Kd.C_drew ?_)));(case side2=>exact (Kd.N_reads' HO_3.out).2.1);(case side3=>repeat (first | exact (by repeat (first | (with_reducible exact HR823_2.out) | (with_reducible refine Kd.C_alloc ?_ _) | (with_reducible refine Kd.C_drewN ?_ _) | (with_reducible refine Kd.C_drew ?_) | exact HR823_2.out)) | (with_reducible refine Kd.C_alloc ?_ _) | (with_reducible refine Kd.C_drewN ?_ _) | (with_reducible refine Kd.C_drew ?_)));(case side4=>exact HC823_2.out);rintro e w54 ⟨rfl,hb⟩;have n0_:=Aside0.mk (Kd.N_below (by (with_reducible repeat (first | apply Kd.N_alloc | apply Kd.N_drewN | apply Kd.N_drew));exact HO_3.out) hb);have n1_:=Aside0.mk (Kd.R_below (by (with_reducible repeat (first | apply Kd.R_alloc | apply Kd.R_drewN | apply Kd.R_drew));exact HO_4.out) hb);have n2_:=Aside0.mk (Kd.V_below (by (with_reducible repeat (first | apply Kd.V_alloc | apply Kd.V_drewN | apply Kd.V_drew));exact HL819_2.out) hb);have n3_:=Aside0.mk (Kd.V_below (by (with_reducible repeat (first | apply Kd.V_alloc | apply Kd.V_drewN | apply Kd.V_drew));exact HL820_2.out) hb);have n4_:=Aside0.mk (Kd.V_below (by (with_reducible repeat (first | apply Kd.V_alloc | apply Kd.V_drewN | apply Kd.V_drew));exact HL822_2.out) hb);have n5_:=Aside0.mk (Kd.V_below (by (with_reducible repeat (first | apply Kd.V_alloc | apply Kd.V_drewN | apply Kd.V_drew));exact HL823_2.out) hb);have n6_:=Aside0.mk (Kd.C_below (by repeat (first | (with_reducible exact HR819_2.out) | (with_reducible refine Kd.C_alloc ?_ _) | (with_reducible refine Kd.C_drewN ?_ _) | (with_reducible refine Kd.C_drew ?_) | exact HR819_2.out)) hb);have n7_:=Aside0.mk (Kd.C_below (by repeat (first | (with_reducible exact HR820_2.out) | (with_reducible refine Kd.C_alloc ?_ _) | (with_reducible refine Kd.C_drewN ?_ _) | (with_reducible refine Kd.C_drew ?_) | exact HR820_2.out)) hb);have n8_:=Aside0.mk (Kd.C_below (by repeat (first | (with_reducible exact HR822_2.out) | (with_reducible refine Kd.C_alloc ?_ _) | (with_reducible refine Kd.C_drewN ?_ _) | (with_reducible refine Kd.C_drew ?_) | exact HR822_2.out)) hb);have n9_:=Aside0.mk (Kd.C_below (by repeat (first | (with_reducible exact HR823_2.out) | (with_reducible refine Kd.C_alloc ?_ _) | (with_reducible refine Kd.C_drewN ?_ _) | (with_reducible refine Kd.C_drew ?_) | exact HR823_2.out)) hb);have n10_:=Aside0.mk (below_step (by repeat (first | (with_reducible first | exact HB.out | apply below_alloc | apply pw_below_drewN | apply below_drew1) | exact HB.out)) hb);clear HO_3;clear HO_4;clear HL819_2;clear HL820_2;clear HL822_2;clear HL823_2;clear HR819_2;clear HR820_2;clear HR822_2;clear HR823_2;clear HB;have HO_3:=n0_;have HO_4:=n1_;have HL819_2:=n2_;have HL820_2:=n3_;have HL822_2:=n4_;have HL823_2:=n5_;have HR819_2:=n6_;have HR820_2:=n7_;have HR822_2:=n8_;have HR823_2:=n9_;have HB:=n10_;clear n0_ n1_ n2_ n3_ n4_ n5_ n6_ n7_ n8_ n9_ n10_;(try clear hb);(try clear hb2);(try clear hk);(try clear hi)))
                    go_ret
                    exact ⟨by first | rfl | (simp [errW_none,errW_some] <;> rfl) | (simp [*,errW_none,errW_some] <;> rfl),by repeat (first | (with_reducible first | exact HB.out | apply below_alloc | apply pw_below_drewN | apply below_drew1) | exact HB.out)⟩
                  ·rw [if_neg c38] at H
                   exact absurd H (by simp)
                 ·rw [if_neg c37] at H
                  have c37b0:(((rd_T25 t804 x8_2).f0) == 1) = false:=beq_eq_false_iff_ne.mpr c37
                  have c37b1:(((rd_T25 t804 x8_2).f0) != 1) = true:=bne_iff_ne.mpr c37
                  have H':=Aside0.mk H
                  clear H
                  obtain ⟨Ao55,co55,eo55⟩:=Kd.R_slice HO_4.out
                  subst eo55
                  have p819:0 ≤ (x8_2:Int):=of_decide_eq_true (by first | (with_reducible assumption) | assumption)
                  have q819:x8_2 < (t804.length:Int):=of_decide_eq_true (by first | (with_reducible assumption) | assumption)
                  obtain ⟨ad819,A819_2,c819_2,e819,hx819_0,hx819_1,hx819_2,hl819_2,hi819_2⟩:=at_T25 (Kd.N_reads' HO_3.out).2.2 x8_2 p819 q819
                  cases e819
                  obtain ⟨ce819,hce819,hMe819,hcc819⟩:=Kd.N_get HO_3.out z25 x8_2 p819 (by first | exact q819 | exact of_decide_eq_true (by first | (with_reducible assumption) | assumption) | (have e_:=(Kd.N_reads' HO_3.out).1;omega))
                  obtain ⟨ua819_2,uc819_2,rfl,ul819_2,ge819_2⟩:=k25_openF hMe819
                  have hv819_2:=hcc819 2 _ rfl
                  rw [add_field _ _ 2 (by omega)] at hv819_2
                  replace hv819_2:=Option.some.inj (hv819_2.symm.trans hx819_2)
                  injection hv819_2 with hva_ hvn_ hvc_
                  rw [hva_] at ge819_2
                  rw [hvc_] at ul819_2
                  have HL819_2:=Aside0.mk (show Kd.V k25 25 _ w.heap.size _ _ ((rd_T25 t804 x8_2).f2) from Kd.V_mk ul819_2 ge819_2)
                  clear hva_ hvn_ hvc_ ge819_2 ul819_2
                  clear hcc819 hce819
                  have HR819_2:=Aside0.mk hi819_2
                  have HC819_2:=Aside0.mk hl819_2
                  clear hi819_2 hl819_2
                  replace p819:=eq_true p819
                  replace q819:=eq_true q819
                  have p820:0 ≤ (x8_2:Int):=of_decide_eq_true (by first | (with_reducible assumption) | assumption)
                  have q820:x8_2 < (t804.length:Int):=of_decide_eq_true (by first | (with_reducible assumption) | assumption)
                  obtain ⟨ad820,A820_2,c820_2,e820,hx820_0,hx820_1,hx820_2,hl820_2,hi820_2⟩:=at_T25 (Kd.N_reads' HO_3.out).2.2 x8_2 p820 q820
                  obtain rfl:ad819 = ad820:=(by injection e820)
                  obtain ⟨ce820,hce820,hMe820,hcc820⟩:=Kd.N_get HO_3.out z25 x8_2 p820 (by first | exact q820 | exact of_decide_eq_true (by first | (with_reducible assumption) | assumption) | (have e_:=(Kd.N_reads' HO_3.out).1;omega))
                  obtain ⟨ua820_2,uc820_2,rfl,ul820_2,ge820_2⟩:=k25_openF hMe820
                  have hv820_2:=hcc820 2 _ rfl
                  rw [add_field _ _ 2 (by omega)] at hv820_2
                  replace hv820_2:=Option.some.inj (hv820_2.symm.trans hx820_2)
                  injection hv820_2 with hva_ hvn_ hvc_
                  rw [hva_] at ge820_2
                  rw [hvc_] at ul820_2
                  have HL820_2:=Aside0.mk (show Kd.V k25 25 _ w.heap.size _ _ ((rd_T25 t804 x8_2).f2) from Kd.V_mk ul820_2 ge820_2)
                  clear hva_ hvn_ hvc_ ge820_2 ul820_2
                  clear hcc820 hce820
                  have HR820_2:=Aside0.mk hi820_2
                  have HC820_2:=Aside0.mk hl820_2
                  clear hi820_2 hl820_2
                  replace p820:=eq_true p820
                  replace q820:=eq_true q820
                  have ea_:=Option.some.inj (hx819_2.symm.trans hx820_2)
                  injection ea_ with ea_ en_ ec_
                  subst ea_
                  subst ec_
                  clear en_
                  go_wp2_with (first | (go_at_call 28;(with_reducible refine (impl_SealMade.calls _ _ t804 ((rd_T25 t804 x8_2).f0) ((rd_T25 t804 x8_2).f1) _ _ ((rd_T25 t804 x8_2).f2) true _ ?side1 ?side2 ?side3 ?side4 A35.out).mono ?_);(case side1=>repeat (first | exact (Kd.N_reads' HO_3.out).2.2 | (with_reducible refine Kd.C_alloc ?_ _) | (with_reducible refine Kd.C_drewN ?_ _) | (with_reducible refine Kd.C_drew ?_)));(case side2=>exact (Kd.N_reads' HO_3.out).2.1);(case side3=>repeat (first | exact (by repeat (first | (with_reducible exact HR820_2.out) | (with_reducible refine Kd.C_alloc ?_ _) | (with_reducible refine Kd.C_drewN ?_ _) | (with_reducible refine Kd.C_drew ?_) | exact HR820_2.out)) | (with_reducible refine Kd.C_alloc ?_ _) | (with_reducible refine Kd.C_drewN ?_ _) | (with_reducible refine Kd.C_drew ?_)));(case side4=>exact HC820_2.out);rintro e w56 ⟨rfl,hb⟩;have n0_:=Aside0.mk (Kd.N_below (by (with_reducible repeat (first | apply Kd.N_alloc | apply Kd.N_drewN | apply Kd.N_drew));exact HO_3.out) hb);have n1_:=Aside0.mk (Kd.R_below (by (with_reducible repeat (first | apply Kd.R_alloc | apply Kd.R_drewN | apply Kd.R_drew));exact HO_4.out) hb);have n2_:=Aside0.mk (Kd.V_below (by (with_reducible repeat (first | apply Kd.V_alloc | apply Kd.V_drewN | apply Kd.V_drew));exact HL819_2.out) hb);have n3_:=Aside0.mk (Kd.V_below (by (with_reducible repeat (first | apply Kd.V_alloc | apply Kd.V_drewN | apply Kd.V_drew));exact HL820_2.out) hb);have n4_:=Aside0.mk (Kd.C_below (by repeat (first | (with_reducible exact HR819_2.out) | (with_reducible refine Kd.C_alloc ?_ _) | (with_reducible refine Kd.C_drewN ?_ _) | (with_reducible refine Kd.C_drew ?_) | exact HR819_2.out)) hb);have n5_:=Aside0.mk (Kd.C_below (by repeat (first | (with_reducible exact HR820_2.out) | (with_reducible refine Kd.C_alloc ?_ _) | (with_reducible refine Kd.C_drewN ?_ _) | (with_reducible refine Kd.C_drew ?_) | exact HR820_2.out)) hb);have n6_:=Aside0.mk (below_step (by repeat (first | (with_reducible first | exact HB.out | apply below_alloc | apply pw_below_drewN | apply below_drew1) | exact HB.out)) hb);clear HO_3;clear HO_4;clear HL819_2;clear HL820_2;clear HR819_2;clear HR820_2;clear HB;have HO_3:=n0_;have HO_4:=n1_;have HL819_2:=n2_;have HL820_2:=n3_;have HR819_2:=n4_;have HR820_2:=n5_;have HB:=n6_;clear n0_ n1_ n2_ n3_ n4_ n5_ n6_;(try clear hb);(try clear hb2);(try clear hk);(try clear hi);have p822:0 ≤ (x8_2:Int):=of_decide_eq_true (by first | (with_reducible assumption) | assumption);have q822:x8_2 < (t804.length:Int):=of_decide_eq_true (by first | (with_reducible assumption) | assumption);obtain ⟨ad822,A822_2,c822_2,e822,hx822_0,hx822_1,hx822_2,hl822_2,hi822_2⟩:=at_T25 (Kd.N_reads' HO_3.out).2.2 x8_2 p822 q822;obtain rfl:ad819 = ad822:=(by injection e822);obtain ⟨ce822,hce822,hMe822,hcc822⟩:=Kd.N_get HO_3.out z25 x8_2 p822 (by first | exact q822 | exact of_decide_eq_true (by first | (with_reducible assumption) | assumption) | (have e_:=(Kd.N_reads' HO_3.out).1;omega));obtain ⟨ua822_2,uc822_2,rfl,ul822_2,ge822_2⟩:=k25_openF hMe822;have hv822_2:=hcc822 2 _ rfl;rw [add_field _ _ 2 (by omega)] at hv822_2;replace hv822_2:=Option.some.inj (hv822_2.symm.trans hx822_2);injection hv822_2 with hva_ hvn_ hvc_;rw [hva_] at ge822_2;rw [hvc_] at ul822_2;have HL822_2:=Aside0.mk (show Kd.V k25 25 _ w.heap.size _ _ ((rd_T25 t804 x8_2).f2) from Kd.V_mk ul822_2 ge822_2);clear hva_ hvn_ hvc_ ge822_2 ul822_2;clear hcc822 hce822;have HR822_2:=Aside0.mk hi822_2;have HC822_2:=Aside0.mk hl822_2;clear hi822_2 hl822_2;replace p822:=eq_true p822;replace q822:=eq_true q822))
                  go_roundg k4
                  case measure=>have:=HJ5.out;have:=HK2.out;have:=HJ17.out;have:=HK4.out;omega
                  case rel=>exact ⟨(wrap64 (x8_2 + 1)),(by first | rfl | (simp;done) | (simp [*];done)),H',⟨by have:=HJ5.out;have:=HK2.out;have:=HJ17.out;have:=HK4.out;omega⟩,⟨by (with_reducible repeat (first | apply Kd.N_alloc | apply Kd.N_drewN | apply Kd.N_drew));exact HO_3.out⟩,⟨by (with_reducible repeat (first | apply Kd.R_alloc | apply Kd.R_drewN | apply Kd.R_drew));exact HO_4.out⟩,⟨by repeat (first | (with_reducible first | exact HB.out | apply below_alloc | apply pw_below_drewN | apply below_drew1) | exact HB.out)⟩⟩
                ·replace c36:=Bool.eq_false_iff.mpr c36
                 subst c36
                 have H1:(some false) = some r:=by rw [if_neg (show ¬ (false = true) by decide)] at H;exact H
                 clear H
                 have H:=H1
                 clear H1
                 obtain rfl:=Option.some.inj H
                 obtain ⟨Ao57,co57,eo57⟩:=Kd.R_slice HO_4.out
                 subst eo57
                 have p819:0 ≤ (x8_2:Int):=of_decide_eq_true (by first | (with_reducible assumption) | assumption)
                 have q819:x8_2 < (t804.length:Int):=of_decide_eq_true (by first | (with_reducible assumption) | assumption)
                 obtain ⟨ad819,A819_2,c819_2,e819,hx819_0,hx819_1,hx819_2,hl819_2,hi819_2⟩:=at_T25 (Kd.N_reads' HO_3.out).2.2 x8_2 p819 q819
                 cases e819
                 obtain ⟨ce819,hce819,hMe819,hcc819⟩:=Kd.N_get HO_3.out z25 x8_2 p819 (by first | exact q819 | exact of_decide_eq_true (by first | (with_reducible assumption) | assumption) | (have e_:=(Kd.N_reads' HO_3.out).1;omega))
                 obtain ⟨ua819_2,uc819_2,rfl,ul819_2,ge819_2⟩:=k25_openF hMe819
                 have hv819_2:=hcc819 2 _ rfl
                 rw [add_field _ _ 2 (by omega)] at hv819_2
                 replace hv819_2:=Option.some.inj (hv819_2.symm.trans hx819_2)
                 injection hv819_2 with hva_ hvn_ hvc_
                 rw [hva_] at ge819_2
                 rw [hvc_] at ul819_2
                 have HL819_2:=Aside0.mk (show Kd.V k25 25 _ w.heap.size _ _ ((rd_T25 t804 x8_2).f2) from Kd.V_mk ul819_2 ge819_2)
                 clear hva_ hvn_ hvc_ ge819_2 ul819_2
                 clear hcc819 hce819
                 have HR819_2:=Aside0.mk hi819_2
                 have HC819_2:=Aside0.mk hl819_2
                 clear hi819_2 hl819_2
                 replace p819:=eq_true p819
                 replace q819:=eq_true q819
                 have p820:0 ≤ (x8_2:Int):=of_decide_eq_true (by first | (with_reducible assumption) | assumption)
                 have q820:x8_2 < (t804.length:Int):=of_decide_eq_true (by first | (with_reducible assumption) | assumption)
                 obtain ⟨ad820,A820_2,c820_2,e820,hx820_0,hx820_1,hx820_2,hl820_2,hi820_2⟩:=at_T25 (Kd.N_reads' HO_3.out).2.2 x8_2 p820 q820
                 obtain rfl:ad819 = ad820:=(by injection e820)
                 obtain ⟨ce820,hce820,hMe820,hcc820⟩:=Kd.N_get HO_3.out z25 x8_2 p820 (by first | exact q820 | exact of_decide_eq_true (by first | (with_reducible assumption) | assumption) | (have e_:=(Kd.N_reads' HO_3.out).1;omega))
                 obtain ⟨ua820_2,uc820_2,rfl,ul820_2,ge820_2⟩:=k25_openF hMe820
                 have hv820_2:=hcc820 2 _ rfl
                 rw [add_field _ _ 2 (by omega)] at hv820_2
                 replace hv820_2:=Option.some.inj (hv820_2.symm.trans hx820_2)
                 injection hv820_2 with hva_ hvn_ hvc_
                 rw [hva_] at ge820_2
                 rw [hvc_] at ul820_2
                 have HL820_2:=Aside0.mk (show Kd.V k25 25 _ w.heap.size _ _ ((rd_T25 t804 x8_2).f2) from Kd.V_mk ul820_2 ge820_2)
                 clear hva_ hvn_ hvc_ ge820_2 ul820_2
                 clear hcc820 hce820
                 have HR820_2:=Aside0.mk hi820_2
                 have HC820_2:=Aside0.mk hl820_2
                 clear hi820_2 hl820_2
                 replace p820:=eq_true p820
                 replace q820:=eq_true q820
                 have ea_:=Option.some.inj (hx819_2.symm.trans hx820_2)
                 injection ea_ with ea_ en_ ec_
                 subst ea_
                 subst ec_
                 clear en_
                 go_wp2_with (first | (go_at_call 28;(with_reducible refine (impl_SealMade.calls _ _ t804 ((rd_T25 t804 x8_2).f0) ((rd_T25 t804 x8_2).f1) _ _ ((rd_T25 t804 x8_2).f2) false _ ?side1 ?side2 ?side3 ?side4 A35.out).mono ?_);(case side1=>repeat (first | exact (Kd.N_reads' HO_3.out).2.2 | (with_reducible refine Kd.C_alloc ?_ _) | (with_reducible refine Kd.C_drewN ?_ _) | (with_reducible refine Kd.C_drew ?_)));(case side2=>exact (Kd.N_reads' HO_3.out).2.1);(case side3=>repeat (first | exact (by repeat (first | (with_reducible exact HR820_2.out) | (with_reducible refine Kd.C_alloc ?_ _) | (with_reducible refine Kd.C_drewN ?_ _) | (with_reducible refine Kd.C_drew ?_) | exact HR820_2.out)) | (with_reducible refine Kd.C_alloc ?_ _) | (with_reducible refine Kd.C_drewN ?_ _) | (with_reducible refine Kd.C_drew ?_)));(case side4=>exact HC820_2.out);rintro e w58 ⟨rfl,hb⟩;have n0_:=Aside0.mk (Kd.N_below (by (with_reducible repeat (first | apply Kd.N_alloc | apply Kd.N_drewN | apply Kd.N_drew));exact HO_3.out) hb);have n1_:=Aside0.mk (Kd.R_below (by (with_reducible repeat (first | apply Kd.R_alloc | apply Kd.R_drewN | apply Kd.R_drew));exact HO_4.out) hb);have n2_:=Aside0.mk (Kd.V_below (by (with_reducible repeat (first | apply Kd.V_alloc | apply Kd.V_drewN | apply Kd.V_drew));exact HL819_2.out) hb);have n3_:=Aside0.mk (Kd.V_below (by (with_reducible repeat (first | apply Kd.V_alloc | apply Kd.V_drewN | apply Kd.V_drew));exact HL820_2.out) hb);have n4_:=Aside0.mk (Kd.C_below (by repeat (first | (with_reducible exact HR819_2.out) | (with_reducible refine Kd.C_alloc ?_ _) | (with_reducible refine Kd.C_drewN ?_ _) | (with_reducible refine Kd.C_drew ?_) | exact HR819_2.out)) hb);have n5_:=Aside0.mk (Kd.C_below (by repeat (first | (with_reducible exact HR820_2.out) | (with_reducible refine Kd.C_alloc ?_ _) | (with_reducible refine Kd.C_drewN ?_ _) | (with_reducible refine Kd.C_drew ?_) | exact HR820_2.out)) hb);have n6_:=Aside0.mk (below_step (by repeat (first | (with_reducible first | exact HB.out | apply below_alloc | apply pw_below_drewN | apply below_drew1) | exact HB.out)) hb);clear HO_3;clear HO_4;clear HL819_2;clear HL820_2;clear HR819_2;clear HR820_2;clear HB;have HO_3:=n0_;have HO_4:=n1_;have HL819_2:=n2_;have HL820_2:=n3_;have HR819_2:=n4_;have HR820_2:=n5_;have HB:=n6_;clear n0_ n1_ n2_ n3_ n4_ n5_ n6_;(try clear hb);(try clear hb2);(try clear hk);(try clear hi)))
                 go_ret
                 exact ⟨by first | rfl | (simp [errW_none,errW_some] <;> rfl) | (simp [*,errW_none,errW_some] <;> rfl),by repeat (first | (with_reducible first | exact HB.out | apply below_alloc | apply pw_below_drewN | apply below_drew1) | exact HB.out)⟩
               ·replace c34:=Bool.eq_false_iff.mpr c34
                subst c34
                have H1:(some false) = some r:=by rw [if_neg (show ¬ (false = true) by decide)] at H;exact H
                clear H
                have H:=H1
                clear H1
                obtain rfl:=Option.some.inj H
                obtain ⟨Ao59,co59,eo59⟩:=Kd.R_slice HO_4.out
                subst eo59
                have p819:0 ≤ (x8_2:Int):=of_decide_eq_true (by first | (with_reducible assumption) | assumption)
                have q819:x8_2 < (t804.length:Int):=of_decide_eq_true (by first | (with_reducible assumption) | assumption)
                obtain ⟨ad819,A819_2,c819_2,e819,hx819_0,hx819_1,hx819_2,hl819_2,hi819_2⟩:=at_T25 (Kd.N_reads' HO_3.out).2.2 x8_2 p819 q819
                cases e819
                obtain ⟨ce819,hce819,hMe819,hcc819⟩:=Kd.N_get HO_3.out z25 x8_2 p819 (by first | exact q819 | exact of_decide_eq_true (by first | (with_reducible assumption) | assumption) | (have e_:=(Kd.N_reads' HO_3.out).1;omega))
                obtain ⟨ua819_2,uc819_2,rfl,ul819_2,ge819_2⟩:=k25_openF hMe819
                have hv819_2:=hcc819 2 _ rfl
                rw [add_field _ _ 2 (by omega)] at hv819_2
                replace hv819_2:=Option.some.inj (hv819_2.symm.trans hx819_2)
                injection hv819_2 with hva_ hvn_ hvc_
                rw [hva_] at ge819_2
                rw [hvc_] at ul819_2
                have HL819_2:=Aside0.mk (show Kd.V k25 25 _ w.heap.size _ _ ((rd_T25 t804 x8_2).f2) from Kd.V_mk ul819_2 ge819_2)
                clear hva_ hvn_ hvc_ ge819_2 ul819_2
                clear hcc819 hce819
                have HR819_2:=Aside0.mk hi819_2
                have HC819_2:=Aside0.mk hl819_2
                clear hi819_2 hl819_2
                replace p819:=eq_true p819
                replace q819:=eq_true q819
                go_wp2
                go_ret
                exact ⟨by first | rfl | (simp [errW_none,errW_some] <;> rfl) | (simp [*,errW_none,errW_some] <;> rfl),by repeat (first | (with_reducible first | exact HB.out | apply below_alloc | apply pw_below_drewN | apply below_drew1) | exact HB.out)⟩
              ·rw [if_neg c33] at H
               exact absurd H (by simp)
             ·rw [if_neg c32] at H
              exact absurd H (by simp)
         ·replace c20:=Bool.eq_false_iff.mpr c20
          subst c20
          have H1:(laws_FnSealKnown.l2 kj17 t807 1) = some r:=by rw [if_neg (show ¬ (false = true) by decide)] at H;exact H
          clear H
          have H:=H1
          clear H1
          have H':=Aside0.mk H
          clear H
          go_wp2
          go_loopg [12] kj17 (fun kq v12 w'=>∃ (x12_4:Int),v12 = .int .i64 x12_4∧Aside0 (laws_FnSealKnown.l2 kq t807 x12_4 = some r)∧Aside0 (kq ≤ kj17)∧Aside0 (Kd.R Kd.string 9 w' w.heap.size (fun _=>True) v809 t807)∧Aside0 (Below w.heap.size w w'))
          case atStart=>exact ⟨(1),(by first | rfl | (simp;done) | (simp [*];done)),H',⟨Nat.le_refl _⟩,⟨by (with_reducible repeat (first | apply Kd.R_alloc | apply Kd.R_drewN | apply Kd.R_drew));exact HO_4.out⟩,⟨by repeat (first | (with_reducible first | exact HB.out | apply below_alloc | apply pw_below_drewN | apply below_drew1) | exact HB.out)⟩⟩
          case round =>
           clear H'
           try clear c1
           try clear c2
           try clear p2
           try clear c3
           try clear c4
           try clear p6
           try clear c8
           try clear p8
           try clear q8
           try clear hx8
           try clear qi8
           try clear c16
           try clear c20
           try clear c21
           try clear c21b0
           try clear c25
           try clear c26
           try clear c27
           try clear c32
           try clear c32b0
           try clear c33
           try clear c33b0
           try clear c34
           try clear c36
           try clear c37
           try clear c37b0
           try clear c37b1
           try clear c38
           try clear c38b0
           try clear c38b1
           try clear c40
           try clear c41
           try clear c41b0
           try clear c41b1
           try clear c43
           try clear hx816_0
           try clear hx817_0
           try clear hx817_1
           try clear hx817_2
           try clear hx819_0
           try clear hx819_1
           try clear hx819_2
           try clear hx820_0
           try clear hx820_1
           try clear hx820_2
           try clear hx822_0
           try clear hx822_1
           try clear hx822_2
           try clear hx823_0
           try clear hx823_1
           try clear hx823_2
           try clear hx825_0
           try clear hx825_1
           try clear hx825_2
           try clear p816
           try clear p817
           try clear p819
           try clear p820
           try clear p822
           try clear p823
           try clear p825
           try clear q816
           try clear q817
           try clear q819
           try clear q820
           try clear q822
           try clear q823
           try clear q825
           obtain ⟨x12_4,rfl,HA,HK4,HO_4,HB⟩:=hrel
           cases gk with
           | zero=>exact absurd HA.out (by simp [laws_FnSealKnown.l2])
           | succ k4 =>
            have H:=HA.out
            clear HA
            simp only [laws_FnSealKnown.l2] at H
            by_cases c60:x12_4 < (t807.length:Int)
            ·rw [if_pos c60] at H
             have c60b0:decide (x12_4 < (t807.length:Int)) = true:=decide_eq_true c60
             clear c60
             obtain ⟨ji61,hji61⟩:∃ j_:Int,(wrap64 (x12_4 - 1)) = j_:=⟨_,rfl⟩
             replace H:(if 0 ≤ (ji61) then (if (ji61) < (t807.length:Int) then (if 0 ≤ x12_4 then (if ((Op.bytesLess ((rdOf ByteArray.empty t807 (ji61)).toList) ((rdOf ByteArray.empty t807 x12_4).toList)) = true) then (laws_FnSealKnown.l2 k4 t807 (wrap64 (x12_4 + 1))) else (some false)) else (none)) else (none)) else (none)) = some r:=by first | (rw [hji61] at H;exact H) | (simp only [hji61] at H ⊢;exact H)
             have hji61w:(IntKind.i64.wrap (x12_4 - 1)) = ji61:=(i64_w _).trans hji61
             by_cases c62:0 ≤ (ji61)
             ·rw [if_pos c62] at H
              have c62b0:decide (0 ≤ (ji61)) = true:=decide_eq_true c62
              clear c62
              by_cases c63:(ji61) < (t807.length:Int)
              ·rw [if_pos c63] at H
               have c63b0:decide ((ji61) < (t807.length:Int)) = true:=decide_eq_true c63
               clear c63
               by_cases c64:0 ≤ x12_4
               ·rw [if_pos c64] at H
                have c64b0:decide (0 ≤ x12_4) = true:=decide_eq_true c64
                clear c64
                by_cases c65:((Op.bytesLess ((rdOf ByteArray.empty t807 (ji61)).toList) ((rdOf ByteArray.empty t807 x12_4).toList)) = true)
                ·rw [if_pos c65] at H
                 have c65b0:(Op.bytesLess ((rdOf ByteArray.empty t807 (ji61)).toList) ((rdOf ByteArray.empty t807 x12_4).toList)) = true:=c65
                 clear c65
                 have H':=Aside0.mk H
                 clear H
                 obtain ⟨Ao66,co66,eo66⟩:=Kd.R_slice HO_4.out
                 subst eo66
                 try go_wp2
                 have n0_:=Aside0.mk (Kd.R_drew HO_4.out)
                 have n1_:=Aside0.mk (below_drew1 HB.out)
                 clear HO_4
                 clear HB
                 have HO_4:=n0_
                 have HB:=n1_
                 clear n0_ n1_
                 have p827:0 ≤ ((ji61):Int):=of_decide_eq_true (by first | (with_reducible assumption) | assumption)
                 have q827:(ji61) < (t807.length:Int):=of_decide_eq_true (by first | (with_reducible assumption) | assumption)
                 obtain ⟨ad827,e827,hx827_0⟩:=Kd.at_string (Kd.R_reads' HO_4.out).2.2 (ji61) p827 q827
                 cases e827
                 replace p827:=eq_true p827
                 replace q827:=eq_true q827
                 have p828:0 ≤ (x12_4:Int):=of_decide_eq_true (by first | (with_reducible assumption) | assumption)
                 have q828:x12_4 < (t807.length:Int):=of_decide_eq_true (by first | (with_reducible assumption) | assumption)
                 obtain ⟨ad828,e828,hx828_0⟩:=Kd.at_string (Kd.R_reads' HO_4.out).2.2 x12_4 p828 q828
                 obtain rfl:ad827 = ad828:=(by injection e828)
                 replace p828:=eq_true p828
                 replace q828:=eq_true q828
                 refine start_ (n:=10) (S:=fun w'=>w'.cell? (ad827.add ((ji61)).toNat) = some (.string (rdOf ByteArray.empty t807 (ji61)))∧w'.cell? (ad827.add (x12_4).toNat) = some (.string (rdOf ByteArray.empty t807 x12_4))) (ds:=[]) #[false,false,false,false,false,false,false,false,false,false] (by kernel_rfl) rfl rfl ⟨hx827_0,hx828_0⟩ (fun hHeld=>?_);refine with_tabW laws_FnSealKnown.tab22 laws_FnSealKnown.bits22 (fun HT_ HW_=>?_)
                 generalize wr.drew = w67 at HO_4 HB hx827_0 hx828_0 hHeld ⊢
                 refine pure_ (i:=0) (N:=some 111) (v:=?_) (a':=?_) #[true,false,false,false,false,false,false,false,false,false] rfl rfl (any_of HT_.out (by kernel_rfl)) (fun _ _ _ h=>h) (Or.inl ⟨by rfl,?_⟩) ?_ ?_
                 rotate_left;·intro w';go_simp;with_reducible rfl
                 rotate_left;·simp only [Act.put,List.setIfInBounds_toArray,List.set_cons_zero,List.set_cons_succ,i64_w,i32_w];rfl
                 refine pure_ (i:=1) (N:=some 112) (v:=?_) (a':=?_) #[true,true,false,false,false,false,false,false,false,false] rfl rfl (any_of HT_.out (by kernel_rfl)) (fun _ _ _ h=>h) (Or.inl ⟨by rfl,?_⟩) ?_ ?_
                 rotate_left;·intro w';go_simp;with_reducible rfl
                 rotate_left;·simp only [Act.put,List.setIfInBounds_toArray,List.set_cons_zero,List.set_cons_succ,i64_w,i32_w];rfl
                 refine pure_ (i:=2) (N:=some 113) (v:=?_) (a':=?_) #[true,true,true,false,false,false,false,false,false,false] rfl rfl (any_of HT_.out (by kernel_rfl)) (fun _ _ _ h=>h) (Or.inl ⟨by rfl,?_⟩) ?_ ?_
                 rotate_left;·intro w';go_simp;with_reducible rfl
                 rotate_left;·simp only [Act.put,List.setIfInBounds_toArray,List.set_cons_zero,List.set_cons_succ,i64_w,i32_w];rfl
                 refine pure_ (i:=3) (N:=some 114) (v:=?_) (a':=?_) #[true,true,true,true,false,false,false,false,false,false] rfl rfl (any_of HT_.out (by kernel_rfl)) (fun _ _ _ h=>h) (Or.inl ⟨by rfl,?_⟩) ?_ ?_
                 rotate_left;·intro w';go_simp;with_reducible rfl
                 rotate_left;·simp only [Act.put,List.setIfInBounds_toArray,List.set_cons_zero,List.set_cons_succ,i64_w,i32_w];rfl
                 refine pure_ (i:=5) (N:=some 116) (v:=?_) (a':=?_) #[true,true,true,true,false,true,false,false,false,false] rfl rfl (any_of HT_.out (by kernel_rfl)) (fun _ _ _ h=>h) (Or.inl ⟨by rfl,?_⟩) ?_ ?_
                 rotate_left;·intro w';go_simp;with_reducible rfl
                 rotate_left;·simp only [Act.put,List.setIfInBounds_toArray,List.set_cons_zero,List.set_cons_succ,i64_w,i32_w];rfl
                 refine pure_ (i:=6) (N:=some 117) (v:=?_) (a':=?_) #[true,true,true,true,false,true,true,false,false,false] rfl rfl (any_of HT_.out (by kernel_rfl)) (fun _ _ _ h=>h) (Or.inl ⟨by rfl,?_⟩) ?_ ?_
                 rotate_left;·intro w';go_simp;with_reducible rfl
                 rotate_left;·simp only [Act.put,List.setIfInBounds_toArray,List.set_cons_zero,List.set_cons_succ,i64_w,i32_w];rfl
                 refine pure_ (i:=7) (N:=some 118) (v:=?_) (a':=?_) #[true,true,true,true,false,true,true,true,false,false] rfl rfl (any_of HT_.out (by kernel_rfl)) (fun _ _ _ h=>h) (Or.inl ⟨by rfl,?_⟩) ?_ ?_
                 rotate_left;·intro w';go_simp;with_reducible rfl
                 rotate_left;·simp only [Act.put,List.setIfInBounds_toArray,List.set_cons_zero,List.set_cons_succ,i64_w,i32_w];rfl
                 refine take_ (i:=4) (N:=some 115) (v:=?_) (a':=?_) #[true,true,true,true,true,true,true,true,false,false] rfl rfl (take_ofW HT_.out HW_.out (by kernel_rfl)) (fun _ _ _ h=>h) (Or.inl ⟨by rfl,?_⟩) hHeld ?_ ?_
                 rotate_left;·rintro w' ⟨s0,s1⟩;go_simp;with_reducible rfl
                 rotate_left;·simp only [Act.put,List.setIfInBounds_toArray,List.set_cons_zero,List.set_cons_succ,i64_w,i32_w];rfl
                 refine take_ (i:=8) (N:=some 119) (v:=?_) (a':=?_) #[true,true,true,true,true,true,true,true,true,false] rfl rfl (take_ofW HT_.out HW_.out (by kernel_rfl)) (fun _ _ _ h=>h) (Or.inl ⟨by rfl,?_⟩) hHeld ?_ ?_
                 rotate_left;·rintro w' ⟨s0,s1⟩;go_simp;with_reducible rfl
                 rotate_left;·simp only [Act.put,List.setIfInBounds_toArray,List.set_cons_zero,List.set_cons_succ,i64_w,i32_w];rfl
                 refine pure_ (i:=9) (N:=some 120) (v:=?_) (a':=?_) #[true,true,true,true,true,true,true,true,true,true] rfl rfl (any_of HT_.out (by kernel_rfl)) (fun _ _ _ h=>h) (Or.inl ⟨by rfl,?_⟩) ?_ ?_
                 rotate_left;·intro w';go_simp;with_reducible rfl
                 rotate_left;·simp only [Act.put,List.setIfInBounds_toArray,List.set_cons_zero,List.set_cons_succ,i64_w,i32_w];rfl
                 refine done_ (done_of HT_.out (by kernel_rfl)) ?_
                 try go_wp2
                 go_roundg k4
                 case measure=>have:=HJ5.out;have:=HK2.out;have:=HJ17.out;have:=HK4.out;omega
                 case rel=>exact ⟨(wrap64 (x12_4 + 1)),(by first | rfl | (simp;done) | (simp [*];done)),H',⟨by have:=HJ5.out;have:=HK2.out;have:=HJ17.out;have:=HK4.out;omega⟩,⟨by (with_reducible repeat (first | apply Kd.R_alloc | apply Kd.R_drewN | apply Kd.R_drew));exact HO_4.out⟩,⟨by repeat (first | (with_reducible first | exact HB.out | apply below_alloc | apply pw_below_drewN | apply below_drew1) | exact HB.out)⟩⟩
                ·rw [if_neg c65] at H
                 have c65b0:(Op.bytesLess ((rdOf ByteArray.empty t807 (ji61)).toList) ((rdOf ByteArray.empty t807 x12_4).toList)) = false:=by simpa using c65
                 clear c65
                 obtain rfl:=Option.some.inj H
                 obtain ⟨Ao68,co68,eo68⟩:=Kd.R_slice HO_4.out
                 subst eo68
                 try go_wp2
                 have n0_:=Aside0.mk (Kd.R_drew HO_4.out)
                 have n1_:=Aside0.mk (below_drew1 HB.out)
                 clear HO_4
                 clear HB
                 have HO_4:=n0_
                 have HB:=n1_
                 clear n0_ n1_
                 have p827:0 ≤ ((ji61):Int):=of_decide_eq_true (by first | (with_reducible assumption) | assumption)
                 have q827:(ji61) < (t807.length:Int):=of_decide_eq_true (by first | (with_reducible assumption) | assumption)
                 obtain ⟨ad827,e827,hx827_0⟩:=Kd.at_string (Kd.R_reads' HO_4.out).2.2 (ji61) p827 q827
                 cases e827
                 replace p827:=eq_true p827
                 replace q827:=eq_true q827
                 have p828:0 ≤ (x12_4:Int):=of_decide_eq_true (by first | (with_reducible assumption) | assumption)
                 have q828:x12_4 < (t807.length:Int):=of_decide_eq_true (by first | (with_reducible assumption) | assumption)
                 obtain ⟨ad828,e828,hx828_0⟩:=Kd.at_string (Kd.R_reads' HO_4.out).2.2 x12_4 p828 q828
                 obtain rfl:ad827 = ad828:=(by injection e828)
                 replace p828:=eq_true p828
                 replace q828:=eq_true q828
                 refine start_ (n:=10) (S:=fun w'=>w'.cell? (ad827.add ((ji61)).toNat) = some (.string (rdOf ByteArray.empty t807 (ji61)))∧w'.cell? (ad827.add (x12_4).toNat) = some (.string (rdOf ByteArray.empty t807 x12_4))) (ds:=[]) #[false,false,false,false,false,false,false,false,false,false] (by kernel_rfl) rfl rfl ⟨hx827_0,hx828_0⟩ (fun hHeld=>?_);refine with_tabW laws_FnSealKnown.tab22 laws_FnSealKnown.bits22 (fun HT_ HW_=>?_)
                 generalize wr.drew = w69 at HO_4 HB hx827_0 hx828_0 hHeld ⊢
                 refine pure_ (i:=0) (N:=some 111) (v:=?_) (a':=?_) #[true,false,false,false,false,false,false,false,false,false] rfl rfl (any_of HT_.out (by kernel_rfl)) (fun _ _ _ h=>h) (Or.inl ⟨by rfl,?_⟩) ?_ ?_
                 rotate_left;·intro w';go_simp;with_reducible rfl
                 rotate_left;·simp only [Act.put,List.setIfInBounds_toArray,List.set_cons_zero,List.set_cons_succ,i64_w,i32_w];rfl
                 refine pure_ (i:=1) (N:=some 112) (v:=?_) (a':=?_) #[true,true,false,false,false,false,false,false,false,false] rfl rfl (any_of HT_.out (by kernel_rfl)) (fun _ _ _ h=>h) (Or.inl ⟨by rfl,?_⟩) ?_ ?_
                 rotate_left;·intro w';go_simp;with_reducible rfl
                 rotate_left;·simp only [Act.put,List.setIfInBounds_toArray,List.set_cons_zero,List.set_cons_succ,i64_w,i32_w];rfl
                 refine pure_ (i:=2) (N:=some 113) (v:=?_) (a':=?_) #[true,true,true,false,false,false,false,false,false,false] rfl rfl (any_of HT_.out (by kernel_rfl)) (fun _ _ _ h=>h) (Or.inl ⟨by rfl,?_⟩) ?_ ?_
                 rotate_left;·intro w';go_simp;with_reducible rfl
                 rotate_left;·simp only [Act.put,List.setIfInBounds_toArray,List.set_cons_zero,List.set_cons_succ,i64_w,i32_w];rfl
                 refine pure_ (i:=3) (N:=some 114) (v:=?_) (a':=?_) #[true,true,true,true,false,false,false,false,false,false] rfl rfl (any_of HT_.out (by kernel_rfl)) (fun _ _ _ h=>h) (Or.inl ⟨by rfl,?_⟩) ?_ ?_
                 rotate_left;·intro w';go_simp;with_reducible rfl
                 rotate_left;·simp only [Act.put,List.setIfInBounds_toArray,List.set_cons_zero,List.set_cons_succ,i64_w,i32_w];rfl
                 refine pure_ (i:=5) (N:=some 116) (v:=?_) (a':=?_) #[true,true,true,true,false,true,false,false,false,false] rfl rfl (any_of HT_.out (by kernel_rfl)) (fun _ _ _ h=>h) (Or.inl ⟨by rfl,?_⟩) ?_ ?_
                 rotate_left;·intro w';go_simp;with_reducible rfl
                 rotate_left;·simp only [Act.put,List.setIfInBounds_toArray,List.set_cons_zero,List.set_cons_succ,i64_w,i32_w];rfl
                 refine pure_ (i:=6) (N:=some 117) (v:=?_) (a':=?_) #[true,true,true,true,false,true,true,false,false,false] rfl rfl (any_of HT_.out (by kernel_rfl)) (fun _ _ _ h=>h) (Or.inl ⟨by rfl,?_⟩) ?_ ?_
                 rotate_left;·intro w';go_simp;with_reducible rfl
                 rotate_left;·simp only [Act.put,List.setIfInBounds_toArray,List.set_cons_zero,List.set_cons_succ,i64_w,i32_w];rfl
                 refine pure_ (i:=7) (N:=some 118) (v:=?_) (a':=?_) #[true,true,true,true,false,true,true,true,false,false] rfl rfl (any_of HT_.out (by kernel_rfl)) (fun _ _ _ h=>h) (Or.inl ⟨by rfl,?_⟩) ?_ ?_
                 rotate_left;·intro w';go_simp;with_reducible rfl
                 rotate_left;·simp only [Act.put,List.setIfInBounds_toArray,List.set_cons_zero,List.set_cons_succ,i64_w,i32_w];rfl
                 refine take_ (i:=4) (N:=some 115) (v:=?_) (a':=?_) #[true,true,true,true,true,true,true,true,false,false] rfl rfl (take_ofW HT_.out HW_.out (by kernel_rfl)) (fun _ _ _ h=>h) (Or.inl ⟨by rfl,?_⟩) hHeld ?_ ?_
                 rotate_left;·rintro w' ⟨s0,s1⟩;go_simp;with_reducible rfl
                 rotate_left;·simp only [Act.put,List.setIfInBounds_toArray,List.set_cons_zero,List.set_cons_succ,i64_w,i32_w];rfl
                 refine take_ (i:=8) (N:=some 119) (v:=?_) (a':=?_) #[true,true,true,true,true,true,true,true,true,false] rfl rfl (take_ofW HT_.out HW_.out (by kernel_rfl)) (fun _ _ _ h=>h) (Or.inl ⟨by rfl,?_⟩) hHeld ?_ ?_
                 rotate_left;·rintro w' ⟨s0,s1⟩;go_simp;with_reducible rfl
                 rotate_left;·simp only [Act.put,List.setIfInBounds_toArray,List.set_cons_zero,List.set_cons_succ,i64_w,i32_w];rfl
                 refine pure_ (i:=9) (N:=some 120) (v:=?_) (a':=?_) #[true,true,true,true,true,true,true,true,true,true] rfl rfl (any_of HT_.out (by kernel_rfl)) (fun _ _ _ h=>h) (Or.inl ⟨by rfl,?_⟩) ?_ ?_
                 rotate_left;·intro w';go_simp;with_reducible rfl
                 rotate_left;·simp only [Act.put,List.setIfInBounds_toArray,List.set_cons_zero,List.set_cons_succ,i64_w,i32_w];rfl
                 refine done_ (done_of HT_.out (by kernel_rfl)) ?_
                 try go_wp2
                 go_ret
                 exact ⟨by first | rfl | (simp [errW_none,errW_some] <;> rfl) | (simp only [← hji61];first | rfl | (simp [errW_none,errW_some] <;> rfl)) | (simp [*,errW_none,errW_some] <;> rfl),by repeat (first | (with_reducible first | exact HB.out | apply below_alloc | apply pw_below_drewN | apply below_drew1) | exact HB.out)⟩
               ·rw [if_neg c64] at H
                exact absurd H (by simp)
              ·rw [if_neg c63] at H
               exact absurd H (by simp)
             ·rw [if_neg c62] at H
              exact absurd H (by simp)
            ·rw [if_neg c60] at H
             have c60b0:decide (x12_4 < (t807.length:Int)) = false:=decide_eq_false c60
             clear c60
             obtain rfl:=Option.some.inj H
             obtain ⟨Ao70,co70,eo70⟩:=Kd.R_slice HO_4.out
             subst eo70
             go_wp2
             go_ret
             exact ⟨by first | rfl | (simp [errW_none,errW_some] <;> rfl) | (simp [*,errW_none,errW_some] <;> rfl),by repeat (first | (with_reducible first | exact HB.out | apply below_alloc | apply pw_below_drewN | apply below_drew1) | exact HB.out)⟩
def laws_FnSealKnown.Pure:Prop:=∀ (l0:List Int),l0.length ≤ maxLen → l0.length * 1 ≤ 140737488351232 → (∀ x ∈ l0,(Lit.int .u8 x).wf = true) → ∃ k,laws_FnSealKnown.f k l0 = some true
theorem laws_FnSealKnown.walk (P:laws_FnSealKnown.Pure) (a0:Option Addr) (len0 cap0:Nat) (z0:List Int) (w:World) (w0:(a0 = none∧len0 = 0∧cap0 = 0∧z0 = []) ∨ ∃ x,a0 = some x∧len0 ≤ cap0∧cap0 ≤ maxLen∧z0.length = cap0∧(∀ i,i < z0.length → w.cell? (x.add i) = some (.int .u8 (z0.getD i 0)))∧∀ n ∈ z0,(Lit.int .u8 n).wf = true) (y0:len0 * 1 ≤ 140737488351232) :
  Calls Tryd.prog 11 #[.slice a0 len0 cap0] w fun e w'=>e = .returned (.bool true)∧Below w.heap.size w w':=by
 obtain ⟨l0,rfl,hr0,hm0,hw0,hc0⟩:=ReadsInt.ofRowC w0
 obtain ⟨k,h⟩:=P l0 hm0 y0 hw0
 refine (laws_FnSealKnown.calls k _ _ l0 true w (Kd.C_of_reads (d:=(0:Int)) (h1:=fun _=>rfl) hr0) hc0 h).mono ?_
 rintro e w' ⟨rfl,hd⟩
 exact ⟨rfl,hd⟩
end Go.Proofs.YtbcjpdahdecehaaDoor.P
