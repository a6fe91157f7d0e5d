/- What the Go functions that the laws reach compute, and that their calls come to just that: told by a program of this session (aprint.py). No condition. -/
import Derived.Test.YthljlnkanllpnaaP0
import Derived.Test.YthljlnkanllpnaaP1
import Derived.Test.YthljlnkanllpnaaP2
import Derived.Test.YthljlnkanllpnaaP3
import Derived.Test.YthljlnkanllpnaaHSame
import Derived.Test.YthljlnkanllpnaaHUndo
namespace Go.Proofs.Ythljlnkanllpnaa.P
open Go.RowKit Go.Proofs.YthljlnkanllpnaaW.PrintWords Go.Proofs.YthljlnkanllpnaaW.PrintLast Go.Proofs.YthljlnkanllpnaaW.PrintMore
attribute [local go_sem] max2_int min2_int max_two min_two max_three min_three max_four min_four
set_option linter.unusedVariables false
set_option linter.unusedSimpArgs false
attribute [local go_sem high] eqA32
def laws_FnHistoryUndo.j0 : Nat → List (List Int) → List (S32) → Int → List (S32) → Bool → Bool → Option (Bool)
 | 0, _, _, _, _, _, _ => none
 | k + 1, x3, x4, x5, x6, x7, x42 => if x42 = true then (some false) else (if x7 = true then ((some (([] : List (S32)) : List (S32))).bind fun y763 => (if y763.length + x6.length < 8796093022208 then ((some (y763 ++ x6 : List (S32))).bind fun y766 => (if 0 ≤ x5 then (if x5 < (x4.length : Int) then ((some (([(⟨(rd_T32 x4 x5).f0, (rd_T32 x4 x5).f1⟩ : S32)] : List (S32)) : List (S32))).bind fun y770 => (if y766.length + y770.length < 8796093022208 then ((impl_HistoryOk.f k x3 x6).bind fun t776 => (if t776 = true then ((impl_HistorySame.f k x3 (y766 ++ y770) x4).bind fun t777 => (some t777)) else (some false))) else (none))) else (none)) else (none))) else (none))) else (some true))
def laws_FnHistoryUndo.f (k : Nat) (l0 : List Int) : Option (Bool) := if (l0.length : Int) > 1048576 then (some true) else ((spec_DrawHistoryUndo.f k l0).bind fun bt747 => ((impl_HistoryUndo.f k bt747.1 bt747.2.1 bt747.2.2).bind fun bt754 => ((spec_HistoryUndo.f k bt747.1 bt747.2.1 bt747.2.2).bind fun bt758 => ((laws_mnEvents.f k bt754.1 bt758.1).bind fun t762 => (if t762 = true then (laws_FnHistoryUndo.j0 k bt747.1 bt747.2.1 bt747.2.2 bt754.1 bt754.2 (bt754.2 != bt758.2)) else (laws_FnHistoryUndo.j0 k bt747.1 bt747.2.1 bt747.2.2 bt754.1 bt754.2 true))))))
theorem laws_FnHistoryUndo.mono_l : ∀ k, (∀ y0 y1 y2 y3 y4 y5, LeO (laws_FnHistoryUndo.j0 k y0 y1 y2 y3 y4 y5) (laws_FnHistoryUndo.j0 (k + 1) y0 y1 y2 y3 y4 y5))
 | 0 => fun _ _ _ _ _ _ r h => by simp [laws_FnHistoryUndo.j0] at h
 | k + 1 => by
  have ih0 := laws_FnHistoryUndo.mono_l k
  ·intro y0 y1 y2 y3 y4 y5
   unfold laws_FnHistoryUndo.j0
   repeat' first
   | (with_reducible exact ih0 _ _ _ _ _ _)
   | (with_reducible exact impl_HistoryOk.mono _ _ _)
   | (with_reducible exact impl_HistorySame.mono _ _ _ _)
   | (with_reducible exact impl_HistoryUndo.mono _ _ _ _)
   | (with_reducible exact laws_mnEvents.mono _ _ _)
   | (with_reducible exact spec_DrawHistoryUndo.mono _ _)
   | (with_reducible exact spec_HistoryUndo.mono _ _ _ _)
   | (with_reducible exact LeO.refl _)
   | (with_reducible exact LeO.none _)
   | (with_reducible refine LeO.ite ?_ ?_)
   | (with_reducible refine LeO.bind ?_ (fun _ => ?_))
   | exact ih0 _ _ _ _ _ _
   | exact impl_HistoryOk.mono _ _ _
   | exact impl_HistorySame.mono _ _ _ _
   | exact impl_HistoryUndo.mono _ _ _ _
   | exact laws_mnEvents.mono _ _ _
   | exact spec_DrawHistoryUndo.mono _ _
   | exact spec_HistoryUndo.mono _ _ _ _
   | exact LeO.none _
   | refine LeO.ite ?_ ?_
   | refine LeO.bind ?_ (fun _ => ?_)
theorem laws_FnHistoryUndo.mono : ∀ a0 k, LeO (laws_FnHistoryUndo.f k a0) (laws_FnHistoryUndo.f (k + 1) a0) := by
 intro a0 k
 have ih0 := laws_FnHistoryUndo.mono_l k
 unfold laws_FnHistoryUndo.f
 repeat' first
   | (with_reducible exact ih0 _ _ _ _ _ _)
   | (with_reducible exact impl_HistoryOk.mono _ _ _)
   | (with_reducible exact impl_HistorySame.mono _ _ _ _)
   | (with_reducible exact impl_HistoryUndo.mono _ _ _ _)
   | (with_reducible exact laws_mnEvents.mono _ _ _)
   | (with_reducible exact spec_DrawHistoryUndo.mono _ _)
   | (with_reducible exact spec_HistoryUndo.mono _ _ _ _)
   | (with_reducible exact LeO.refl _)
   | (with_reducible exact LeO.none _)
   | (with_reducible refine LeO.ite ?_ ?_)
   | (with_reducible refine LeO.bind ?_ (fun _ => ?_))
   | exact ih0 _ _ _ _ _ _
   | exact impl_HistoryOk.mono _ _ _
   | exact impl_HistorySame.mono _ _ _ _
   | exact impl_HistoryUndo.mono _ _ _ _
   | exact laws_mnEvents.mono _ _ _
   | exact spec_DrawHistoryUndo.mono _ _
   | exact spec_HistoryUndo.mono _ _ _ _
   | exact LeO.none _
   | refine LeO.ite ?_ ?_
   | refine LeO.bind ?_ (fun _ => ?_)
def laws_FnHistoryUndo.T10 : Bool × List (List Nat × List Nat) := (true, [([], []), ([], []), ([0, 1], [0, 1]), ([], []), ([], []), ([3, 4], [3, 4]), ([5], [5]), ([6], [6]), ([2, 7, 2], [2, 7]), ([8, 8, 0, 1, 2, 3, 4, 5, 6, 7, 8], [8])])
def laws_FnHistoryUndo.B10 : List Nat := [0, 0, 3, 0, 0, 24, 56, 120, 255, 511]
theorem laws_FnHistoryUndo.tab10 : rtab .any (opsOf Try.f13 10) = laws_FnHistoryUndo.T10 := by kernel_rfl
theorem laws_FnHistoryUndo.bits10 : waitsOk laws_FnHistoryUndo.T10.2 laws_FnHistoryUndo.B10 = true := by kernel_rfl
set_option maxHeartbeats 8000000 in
set_option maxRecDepth 100000 in
theorem laws_FnHistoryUndo.calls (k : Nat) (A0 : Option Addr) (c0 : Nat) (l0 : List Int) (r : Bool) (w : World) (hr0 : Kd.C (Kd.int .u8) w A0 l0.length l0) (hc0 : l0.length ≤ c0) (h : laws_FnHistoryUndo.f k l0 = some r) :
  Calls Try.prog 13 #[.slice A0 l0.length c0] w fun e w' => e = .returned (.bool r) ∧ Below w.heap.size w w' := by
 have hu32 := Try.underlying32
 have HR0 := Aside0.mk hr0
 have HC0 := Aside0.mk hc0
 clear hr0 hc0
 have HB := Aside0.mk (Below.refl w.heap.size w)
 have H : (if (l0.length : Int) > 1048576 then (some true) else ((spec_DrawHistoryUndo.f k l0).bind fun bt747 => ((impl_HistoryUndo.f k bt747.1 bt747.2.1 bt747.2.2).bind fun bt754 => ((spec_HistoryUndo.f k bt747.1 bt747.2.1 bt747.2.2).bind fun bt758 => ((laws_mnEvents.f k bt754.1 bt758.1).bind fun t762 => (if t762 = true then (laws_FnHistoryUndo.j0 k bt747.1 bt747.2.1 bt747.2.2 bt754.1 bt754.2 (bt754.2 != bt758.2)) else (laws_FnHistoryUndo.j0 k bt747.1 bt747.2.1 bt747.2.2 bt754.1 bt754.2 true))))))) = some r := h
 clear h
 by_cases c2 : (l0.length : Int) > 1048576
 ·rw [if_pos c2] at H
  have c2b0 : decide (1048576 < (l0.length : Int)) = true := decide_eq_true c2
  have c2b1 : decide (1048576 < l0.length) = true := decide_eq_true (by omega)
  clear c2
  obtain rfl := Option.some.inj H
  go_enter Try.func13, Try.ntmps13
  go_wp2
  go_ret
  exact ⟨by first | rfl | (simp [errW_none, errW_some] <;> rfl) | (simp [*, errW_none, errW_some] <;> rfl), by repeat (first | (with_reducible first | exact HB.out | apply below_alloc | apply pw_below_drewN | apply below_drew1) | exact HB.out)⟩
 ·rw [if_neg c2] at H
  have c2b0 : decide (1048576 < (l0.length : Int)) = false := decide_eq_false c2
  have c2b1 : decide (1048576 < l0.length) = false := decide_eq_false (by omega)
  clear c2
  replace H := Option.bind_eq_some_iff.mp H
  obtain ⟨⟨t747, t748, t749⟩, A30, H⟩ := H
  replace H : ((impl_HistoryUndo.f k t747 t748 t749).bind fun bt754 => ((spec_HistoryUndo.f k t747 t748 t749).bind fun bt758 => ((laws_mnEvents.f k bt754.1 bt758.1).bind fun t762 => (if t762 = true then (laws_FnHistoryUndo.j0 k t747 t748 t749 bt754.1 bt754.2 (bt754.2 != bt758.2)) else (laws_FnHistoryUndo.j0 k t747 t748 t749 bt754.1 bt754.2 true))))) = some r := H
  have A3 := Aside0.mk A30
  clear A30
  replace H := Option.bind_eq_some_iff.mp H
  obtain ⟨⟨t754, t755⟩, A40, H⟩ := H
  replace H : ((spec_HistoryUndo.f k t747 t748 t749).bind fun bt758 => ((laws_mnEvents.f k t754 bt758.1).bind fun t762 => (if t762 = true then (laws_FnHistoryUndo.j0 k t747 t748 t749 t754 t755 (t755 != bt758.2)) else (laws_FnHistoryUndo.j0 k t747 t748 t749 t754 t755 true)))) = some r := H
  have A4 := Aside0.mk A40
  clear A40
  replace H := Option.bind_eq_some_iff.mp H
  obtain ⟨⟨t758, t759⟩, A50, H⟩ := H
  replace H : ((laws_mnEvents.f k t754 t758).bind fun t762 => (if t762 = true then (laws_FnHistoryUndo.j0 k t747 t748 t749 t754 t755 (t755 != t759)) else (laws_FnHistoryUndo.j0 k t747 t748 t749 t754 t755 true))) = some r := H
  have A5 := Aside0.mk A50
  clear A50
  have HC6 := Aside0.mk H
  clear H
  go_enter Try.func13, Try.ntmps13
  go_upto_region 6 with (first | ((with_reducible refine gate_callee (f := 40) rfl ?_); refine goesL_ (some 16) rfl rfl Try.func40 (by kernel_rfl) rfl #[.slice A0 l0.length c0] rfl (by (try simp only [List.map_toArray, List.map_cons, List.map_nil]); first | done | rfl | (simp only [List.length_drop, List.length_take]; rfl)) ?_; (with_reducible refine (spec_DrawHistoryUndo.calls k _ _ l0 t747 t748 t749 _ ?side1 ?side2 A3.out).mono ?_); (case side1 => repeat (first | exact HR0.out | (with_reducible refine Kd.C_alloc ?_ _) | (with_reducible refine Kd.C_drewN ?_ _) | (with_reducible refine Kd.C_drew ?_))); (case side2 => exact HC0.out); rintro e w7 ⟨v750, v752, rfl, ho0, ho1, hb⟩; refine ⟨_, rfl, ?_⟩; have n0_ := Aside0.mk (Kd.S_lower ho0 (below_size (by repeat (first | (with_reducible first | exact HB.out | apply below_alloc | apply pw_below_drewN | apply below_drew1) | exact HB.out)))); have n1_ := Aside0.mk (Kd.R_lower ho1 (below_size (by repeat (first | (with_reducible first | exact HB.out | apply below_alloc | apply pw_below_drewN | apply below_drew1) | exact HB.out)))); have n2_ := Aside0.mk (below_step (by repeat (first | (with_reducible first | exact HB.out | apply below_alloc | apply pw_below_drewN | apply below_drew1) | exact HB.out)) hb); clear HB; have HO751 := n0_; have HO753 := n1_; have HB := n2_; clear n0_ n1_ n2_; (try clear hb); (try clear hb2); (try clear hk); (try clear hi); (try clear ho0); (try clear ho1); obtain ⟨Ao8, co8, eo8⟩ := Kd.S_slice HO751.out; subst eo8; obtain ⟨Ao9, co9, eo9⟩ := Kd.R_slice HO753.out; subst eo9) | ((with_reducible refine gate_callee (f := 41) rfl ?_); refine goesL_ (some 24) rfl rfl Try.func41 (by kernel_rfl) rfl #[.slice Ao8 t747.length co8, .slice Ao9 t748.length co9, .int .i64 t749] rfl (by (try simp only [List.map_toArray, List.map_cons, List.map_nil]); first | done | rfl | (simp only [List.length_drop, List.length_take]; rfl)) ?_; (with_reducible refine (impl_HistoryUndo.calls k _ _ t747 _ _ t748 t749 t754 t755 _ ?side1 ?side2 ?side3 ?side4 A4.out).mono ?_); (case side1 => repeat (first | exact (Kd.S_reads' HO751.out).2.2 | (with_reducible refine Kd.C_alloc ?_ _) | (with_reducible refine Kd.C_drewN ?_ _) | (with_reducible refine Kd.C_drew ?_))); (case side2 => exact (Kd.S_reads' HO751.out).2.1); (case side3 => repeat (first | exact (Kd.R_reads' HO753.out).2.2 | (with_reducible refine Kd.C_alloc ?_ _) | (with_reducible refine Kd.C_drewN ?_ _) | (with_reducible refine Kd.C_drew ?_))); (case side4 => exact (Kd.R_reads' HO753.out).2.1); rintro e w10 ⟨v756, rfl, ho0, hb⟩; refine ⟨_, rfl, ?_⟩; have n0_ := Aside0.mk (Kd.S_below (by (with_reducible repeat (first | apply Kd.S_alloc | apply Kd.S_drewN | apply Kd.S_drew)); exact HO751.out) hb); have n1_ := Aside0.mk (Kd.R_elder' (by (with_reducible repeat (first | apply Kd.R_alloc | apply Kd.R_drewN | apply Kd.R_drew)); exact HO753.out) (Kd.R_base ho0) hb); have n2_ := Aside0.mk (Kd.R_lower (Kd.R_new' ho0 (Kd.R_lt (by (with_reducible repeat (first | apply Kd.R_alloc | apply Kd.R_drewN | apply Kd.R_drew)); exact HO753.out))) (below_size (by repeat (first | (with_reducible first | exact HB.out | apply below_alloc | apply pw_below_drewN | apply below_drew1) | exact HB.out)))); have n3_ := Aside0.mk (below_step (by repeat (first | (with_reducible first | exact HB.out | apply below_alloc | apply pw_below_drewN | apply below_drew1) | exact HB.out)) hb); clear HO751; clear HO753; clear HB; have HO751 := n0_; have HO753 := n1_; have HO757 := n2_; have HB := n3_; clear n0_ n1_ n2_ n3_; (try clear hb); (try clear hb2); (try clear hk); (try clear hi); (try clear ho0)) | ((with_reducible refine gate_callee (f := 42) rfl ?_); refine goesL_ (some 31) rfl rfl Try.func42 (by kernel_rfl) rfl #[.slice Ao8 t747.length co8, .slice Ao9 t748.length co9, .int .i64 t749] rfl (by (try simp only [List.map_toArray, List.map_cons, List.map_nil]); first | done | rfl | (simp only [List.length_drop, List.length_take]; rfl)) ?_; (with_reducible refine (spec_HistoryUndo.calls k _ _ t747 _ _ t748 t749 t758 t759 _ ?side1 ?side2 ?side3 ?side4 A5.out).mono ?_); (case side1 => repeat (first | exact (Kd.S_reads' HO751.out).2.2 | (with_reducible refine Kd.C_alloc ?_ _) | (with_reducible refine Kd.C_drewN ?_ _) | (with_reducible refine Kd.C_drew ?_))); (case side2 => exact (Kd.S_reads' HO751.out).2.1); (case side3 => repeat (first | exact (Kd.R_reads' HO753.out).2.2 | (with_reducible refine Kd.C_alloc ?_ _) | (with_reducible refine Kd.C_drewN ?_ _) | (with_reducible refine Kd.C_drew ?_))); (case side4 => exact (Kd.R_reads' HO753.out).2.1); rintro e w11 ⟨v760, rfl, ho0, hb⟩; refine ⟨_, rfl, ?_⟩; have n0_ := Aside0.mk (Kd.S_below (by (with_reducible repeat (first | apply Kd.S_alloc | apply Kd.S_drewN | apply Kd.S_drew)); exact HO751.out) hb); have n1_ := Aside0.mk (Kd.R_elder' (by (with_reducible repeat (first | apply Kd.R_alloc | apply Kd.R_drewN | apply Kd.R_drew)); exact HO753.out) (Kd.R_base ho0) hb); have n2_ := Aside0.mk (Kd.R_elder' (by (with_reducible repeat (first | apply Kd.R_alloc | apply Kd.R_drewN | apply Kd.R_drew)); exact HO757.out) (Kd.R_base ho0) hb); have n3_ := Aside0.mk (Kd.R_lower (Kd.R_new' (Kd.R_new' ho0 (Kd.R_lt (by (with_reducible repeat (first | apply Kd.R_alloc | apply Kd.R_drewN | apply Kd.R_drew)); exact HO753.out))) (Kd.R_lt (by (with_reducible repeat (first | apply Kd.R_alloc | apply Kd.R_drewN | apply Kd.R_drew)); exact HO757.out))) (below_size (by repeat (first | (with_reducible first | exact HB.out | apply below_alloc | apply pw_below_drewN | apply below_drew1) | exact HB.out)))); have n4_ := Aside0.mk (below_step (by repeat (first | (with_reducible first | exact HB.out | apply below_alloc | apply pw_below_drewN | apply below_drew1) | exact HB.out)) hb); clear HO751; clear HO753; clear HO757; clear HB; have HO751 := n0_; have HO753 := n1_; have HO757 := n2_; have HO761 := n3_; have HB := n4_; clear n0_ n1_ n2_ n3_ n4_; (try clear hb); (try clear hb2); (try clear hk); (try clear hi); (try clear ho0)))
  (try simp only [Act.put, List.setIfInBounds_toArray, List.set_cons_zero, List.set_cons_succ])
  go_cut [42] (fun v42 wc => ∃ (kq : Nat) (x42_5 : Bool), v42 = .bool x42_5 ∧ Aside0 (laws_FnHistoryUndo.j0 kq t747 t748 t749 t754 t755 x42_5 = some r) ∧ Aside0 (kq ≤ k) ∧ Aside0 (Kd.S (Kd.slice 3 (Kd.int .i64)) 27 wc w.heap.size (fun _ => True) (.slice Ao8 t747.length co8) t747) ∧ Aside0 (Kd.R k32 32 wc w.heap.size (fun k_ => some k_ ≠ (v756 : Value).ownBlock) (.slice Ao9 t748.length co9) t748) ∧ Aside0 (Kd.R k32 32 wc w.heap.size (fun k_ => some k_ ≠ ((.slice Ao9 t748.length co9) : Value).ownBlock) v756 t754) ∧ Aside0 (Below w.heap.size w wc))
  case first =>
   have H := HC6.out
   clear HC6
   replace H := Option.bind_eq_some_iff.mp H
   obtain ⟨t762, A120, H⟩ := H
   replace H : (if t762 = true then (laws_FnHistoryUndo.j0 k t747 t748 t749 t754 t755 (t755 != t759)) else (laws_FnHistoryUndo.j0 k t747 t748 t749 t754 t755 true)) = some r := H
   have A12 := Aside0.mk A120
   clear A120
   by_cases c13 : t762 = true
   ·subst c13
    have H1 : (laws_FnHistoryUndo.j0 k t747 t748 t749 t754 t755 (t755 != t759)) = some r := by rw [if_pos rfl] at H; exact H
    clear H
    have H := H1
    clear H1
    have H' := Aside0.mk H
    clear H
    obtain ⟨Ao14, co14, eo14⟩ := Kd.R_slice HO757.out
    subst eo14
    obtain ⟨Ao15, co15, eo15⟩ := Kd.R_slice HO761.out
    subst eo15
    go_wp2_with (first | ((with_reducible refine gate_callee (f := 34) rfl ?_); refine goesL_ (some 36) rfl rfl Try.func34 (by kernel_rfl) rfl #[.slice Ao14 t754.length co14, .slice Ao15 t758.length co15] rfl (by (try simp only [List.map_toArray, List.map_cons, List.map_nil]); first | done | rfl | (simp only [List.length_drop, List.length_take]; rfl)) ?_; (with_reducible refine (laws_mnEvents.calls k _ _ t754 _ _ t758 true _ ?side1 ?side2 ?side3 ?side4 A12.out).mono ?_); (case side1 => repeat (first | exact (Kd.R_reads' HO757.out).2.2 | (with_reducible refine Kd.C_alloc ?_ _) | (with_reducible refine Kd.C_drewN ?_ _) | (with_reducible refine Kd.C_drew ?_))); (case side2 => exact (Kd.R_reads' HO757.out).2.1); (case side3 => repeat (first | exact (Kd.R_reads' HO761.out).2.2 | (with_reducible refine Kd.C_alloc ?_ _) | (with_reducible refine Kd.C_drewN ?_ _) | (with_reducible refine Kd.C_drew ?_))); (case side4 => exact (Kd.R_reads' HO761.out).2.1); rintro e w' ⟨rfl, ⟨nd, rfl⟩⟩; refine ⟨_, rfl, ?_⟩))
    go_meet
    case rel => exact ⟨_, ((t755 != t759)), (by first | rfl | (simp; done) | (simp [*]; done)), H', ⟨by first | omega | exact Nat.le_refl _⟩, ⟨by (with_reducible repeat (first | apply Kd.S_alloc | apply Kd.S_drewN | apply Kd.S_drew)); exact HO751.out⟩, ⟨by (with_reducible repeat (first | apply Kd.R_alloc | apply Kd.R_drewN | apply Kd.R_drew)); exact Kd.R_mono HO753.out (fun _ hk => hk.1.2)⟩, ⟨by (with_reducible repeat (first | apply Kd.R_alloc | apply Kd.R_drewN | apply Kd.R_drew)); exact Kd.R_mono HO757.out (fun _ hk => hk.1.2)⟩, ⟨by repeat (first | (with_reducible first | exact HB.out | apply below_alloc | apply pw_below_drewN | apply below_drew1) | exact HB.out)⟩⟩
   ·replace c13 := Bool.eq_false_iff.mpr c13
    subst c13
    have H1 : (laws_FnHistoryUndo.j0 k t747 t748 t749 t754 t755 true) = some r := by rw [if_neg (show ¬ (false = true) by decide)] at H; exact H
    clear H
    have H := H1
    clear H1
    have H' := Aside0.mk H
    clear H
    obtain ⟨Ao16, co16, eo16⟩ := Kd.R_slice HO757.out
    subst eo16
    obtain ⟨Ao17, co17, eo17⟩ := Kd.R_slice HO761.out
    subst eo17
    go_wp2_with (first | ((with_reducible refine gate_callee (f := 34) rfl ?_); refine goesL_ (some 36) rfl rfl Try.func34 (by kernel_rfl) rfl #[.slice Ao16 t754.length co16, .slice Ao17 t758.length co17] rfl (by (try simp only [List.map_toArray, List.map_cons, List.map_nil]); first | done | rfl | (simp only [List.length_drop, List.length_take]; rfl)) ?_; (with_reducible refine (laws_mnEvents.calls k _ _ t754 _ _ t758 false _ ?side1 ?side2 ?side3 ?side4 A12.out).mono ?_); (case side1 => repeat (first | exact (Kd.R_reads' HO757.out).2.2 | (with_reducible refine Kd.C_alloc ?_ _) | (with_reducible refine Kd.C_drewN ?_ _) | (with_reducible refine Kd.C_drew ?_))); (case side2 => exact (Kd.R_reads' HO757.out).2.1); (case side3 => repeat (first | exact (Kd.R_reads' HO761.out).2.2 | (with_reducible refine Kd.C_alloc ?_ _) | (with_reducible refine Kd.C_drewN ?_ _) | (with_reducible refine Kd.C_drew ?_))); (case side4 => exact (Kd.R_reads' HO761.out).2.1); rintro e w' ⟨rfl, ⟨nd, rfl⟩⟩; refine ⟨_, rfl, ?_⟩))
    go_meet
    case rel => exact ⟨_, (true), (by first | rfl | (simp; done) | (simp [*]; done)), H', ⟨by first | omega | exact Nat.le_refl _⟩, ⟨by (with_reducible repeat (first | apply Kd.S_alloc | apply Kd.S_drewN | apply Kd.S_drew)); exact HO751.out⟩, ⟨by (with_reducible repeat (first | apply Kd.R_alloc | apply Kd.R_drewN | apply Kd.R_drew)); exact Kd.R_mono HO753.out (fun _ hk => hk.1.2)⟩, ⟨by (with_reducible repeat (first | apply Kd.R_alloc | apply Kd.R_drewN | apply Kd.R_drew)); exact Kd.R_mono HO757.out (fun _ hk => hk.1.2)⟩, ⟨by repeat (first | (with_reducible first | exact HB.out | apply below_alloc | apply pw_below_drewN | apply below_drew1) | exact HB.out)⟩⟩
  case rest =>
   clear HC6
   try clear c1
   try clear c2
   try clear c2b0
   try clear c2b1
   try clear p2
   try clear c3
   try clear c4
   try clear c13
   obtain ⟨kq, x42_5, rfl, HA, HJ5, HO_3, HO_4, HO_6, HB⟩ := hcut
   cases kq with
   | zero => exact absurd HA.out (by simp [laws_FnHistoryUndo.j0])
   | succ kj5 =>
    have H := HA.out
    clear HA
    simp only [laws_FnHistoryUndo.j0] at H
    by_cases c18 : x42_5 = true
    ·subst c18
     have H1 : (some false) = some r := by rw [if_pos rfl] at H; exact H
     clear H
     have H := H1
     clear H1
     obtain rfl := Option.some.inj H
     go_wp2
     go_ret
     exact ⟨by first | rfl | (simp [errW_none, errW_some] <;> rfl) | (simp [*, errW_none, errW_some] <;> rfl), by repeat (first | (with_reducible first | exact HB.out | apply below_alloc | apply pw_below_drewN | apply below_drew1) | exact HB.out)⟩
    ·replace c18 := Bool.eq_false_iff.mpr c18
     subst c18
     have H1 : (if t755 = true then ((some (([] : List (S32)) : List (S32))).bind fun y763 => (if y763.length + t754.length < 8796093022208 then ((some (y763 ++ t754 : List (S32))).bind fun y766 => (if 0 ≤ t749 then (if t749 < (t748.length : Int) then ((some (([(⟨(rd_T32 t748 t749).f0, (rd_T32 t748 t749).f1⟩ : S32)] : List (S32)) : List (S32))).bind fun y770 => (if y766.length + y770.length < 8796093022208 then ((impl_HistoryOk.f kj5 t747 t754).bind fun t776 => (if t776 = true then ((impl_HistorySame.f kj5 t747 (y766 ++ y770) t748).bind fun t777 => (some t777)) else (some false))) else (none))) else (none)) else (none))) else (none))) else (some true)) = some r := by rw [if_neg (show ¬ (false = true) by decide)] at H; exact H
     clear H
     have H := H1
     clear H1
     by_cases c19 : t755 = true
     ·subst c19
      have H1 : ((some (([] : List (S32)) : List (S32))).bind fun y763 => (if y763.length + t754.length < 8796093022208 then ((some (y763 ++ t754 : List (S32))).bind fun y766 => (if 0 ≤ t749 then (if t749 < (t748.length : Int) then ((some (([(⟨(rd_T32 t748 t749).f0, (rd_T32 t748 t749).f1⟩ : S32)] : List (S32)) : List (S32))).bind fun y770 => (if y766.length + y770.length < 8796093022208 then ((impl_HistoryOk.f kj5 t747 t754).bind fun t776 => (if t776 = true then ((impl_HistorySame.f kj5 t747 (y766 ++ y770) t748).bind fun t777 => (some t777)) else (some false))) else (none))) else (none)) else (none))) else (none))) = some r := by rw [if_pos rfl] at H; exact H
      clear H
      have H := H1
      clear H1
      obtain ⟨y763, hy763⟩ : ∃ y_ : List (S32), y_ = (([] : List (S32))) := ⟨_, rfl⟩
      replace H : (if y763.length + t754.length < 8796093022208 then ((some (y763 ++ t754 : List (S32))).bind fun y766 => (if 0 ≤ t749 then (if t749 < (t748.length : Int) then ((some (([(⟨(rd_T32 t748 t749).f0, (rd_T32 t748 t749).f1⟩ : S32)] : List (S32)) : List (S32))).bind fun y770 => (if y766.length + y770.length < 8796093022208 then ((impl_HistoryOk.f kj5 t747 t754).bind fun t776 => (if t776 = true then ((impl_HistorySame.f kj5 t747 (y766 ++ y770) t748).bind fun t777 => (some t777)) else (some false))) else (none))) else (none)) else (none))) else (none)) = some r := by first | (rw [hy763]; with_reducible exact H) | (have H2_ := (Option.bind_some _ _).symm.trans H; rw [hy763]; with_reducible exact H2_) | (have H2_ := (Option.bind_some _ _).symm.trans H; with_reducible exact H2_) | with_reducible exact H | (rw [hy763]; exact H) | exact H
      have Ny763 := Aside0.mk hy763
      clear hy763
      by_cases c20 : y763.length + t754.length < 8796093022208
      ·rw [if_pos c20] at H
       have LMc20 := Aside0.mk c20
       clear c20
       obtain ⟨y766, hy766⟩ : ∃ y_ : List (S32), y_ = (y763 ++ t754) := ⟨_, rfl⟩
       replace H : (if 0 ≤ t749 then (if t749 < (t748.length : Int) then ((some (([(⟨(rd_T32 t748 t749).f0, (rd_T32 t748 t749).f1⟩ : S32)] : List (S32)) : List (S32))).bind fun y770 => (if y766.length + y770.length < 8796093022208 then ((impl_HistoryOk.f kj5 t747 t754).bind fun t776 => (if t776 = true then ((impl_HistorySame.f kj5 t747 (y766 ++ y770) t748).bind fun t777 => (some t777)) else (some false))) else (none))) else (none)) else (none)) = some r := by first | (rw [hy766]; with_reducible exact H) | (have H2_ := (Option.bind_some _ _).symm.trans H; rw [hy766]; with_reducible exact H2_) | (have H2_ := (Option.bind_some _ _).symm.trans H; with_reducible exact H2_) | with_reducible exact H | (rw [hy766]; exact H) | exact H
       have Ny766 := Aside0.mk hy766
       clear hy766
       by_cases c21 : 0 ≤ t749
       ·rw [if_pos c21] at H
        have c21b0 : decide (0 ≤ t749) = true := decide_eq_true c21
        clear c21
        by_cases c22 : t749 < (t748.length : Int)
        ·rw [if_pos c22] at H
         have c22b0 : decide (t749 < (t748.length : Int)) = true := decide_eq_true c22
         clear c22
         obtain ⟨y770, hy770⟩ : ∃ y_ : List (S32), y_ = (([(⟨(rd_T32 t748 t749).f0, (rd_T32 t748 t749).f1⟩ : S32)] : List (S32))) := ⟨_, rfl⟩
         replace H : (if y766.length + y770.length < 8796093022208 then ((impl_HistoryOk.f kj5 t747 t754).bind fun t776 => (if t776 = true then ((impl_HistorySame.f kj5 t747 (y766 ++ y770) t748).bind fun t777 => (some t777)) else (some false))) else (none)) = some r := by first | (rw [hy770]; with_reducible exact H) | (have H2_ := (Option.bind_some _ _).symm.trans H; rw [hy770]; with_reducible exact H2_) | (have H2_ := (Option.bind_some _ _).symm.trans H; with_reducible exact H2_) | with_reducible exact H | (rw [hy770]; exact H) | exact H
         have Ny770 := Aside0.mk hy770
         clear hy770
         by_cases c23 : y766.length + y770.length < 8796093022208
         ·rw [if_pos c23] at H
          have LMc23 := Aside0.mk c23
          clear c23
          obtain ⟨y773, hy773⟩ : ∃ y_ : List (S32), y_ = (y766 ++ y770) := ⟨_, rfl⟩
          replace H : ((impl_HistoryOk.f kj5 t747 t754).bind fun t776 => (if t776 = true then ((impl_HistorySame.f kj5 t747 y773 t748).bind fun t777 => (some t777)) else (some false))) = some r := by first | (rw [hy773]; with_reducible exact H) | (have H2_ := (Option.bind_some _ _).symm.trans H; rw [hy773]; with_reducible exact H2_) | (have H2_ := (Option.bind_some _ _).symm.trans H; with_reducible exact H2_) | with_reducible exact H | (rw [hy773]; exact H) | exact H
          have Ny773 := Aside0.mk hy773
          clear hy773
          replace H := Option.bind_eq_some_iff.mp H
          obtain ⟨t776, A240, H⟩ := H
          replace H : (if t776 = true then ((impl_HistorySame.f kj5 t747 y773 t748).bind fun t777 => (some t777)) else (some false)) = some r := H
          have A24 := Aside0.mk A240
          clear A240
          by_cases c25 : t776 = true
          ·subst c25
           have H1 : ((impl_HistorySame.f kj5 t747 y773 t748).bind fun t777 => (some t777)) = some r := by rw [if_pos rfl] at H; exact H
           clear H
           have H := H1
           clear H1
           replace H := Option.bind_eq_some_iff.mp H
           obtain ⟨t777, A260, H⟩ := H
           replace H : (some t777) = some r := H
           have A26 := Aside0.mk A260
           clear A260
           obtain rfl := Option.some.inj H
           obtain ⟨Ao27, co27, eo27⟩ := Kd.R_slice HO_6.out
           subst eo27
           try go_wp2
           have n0_ := Aside0.mk (Kd.S_drew HO_3.out)
           have n1_ := Aside0.mk (Kd.R_drew HO_4.out)
           have n2_ := Aside0.mk (Kd.R_drew HO_6.out)
           have n3_ := Aside0.mk (below_drew1 HB.out)
           clear HO_3
           clear HO_4
           clear HO_6
           clear HB
           have HO_3 := n0_
           have HO_4 := n1_
           have HO_6 := n2_
           have HB := n3_
           clear n0_ n1_ n2_ n3_
           have p769 : 0 ≤ (t749 : Int) := of_decide_eq_true (by first | (with_reducible assumption) | assumption)
           have q769 : t749 < (t748.length : Int) := of_decide_eq_true (by first | (with_reducible assumption) | assumption)
           obtain ⟨ad769, e769, hx769_0, hx769_1⟩ := at_T32 (Kd.R_reads' HO_4.out).2.2 t749 p769 q769
           cases e769
           replace p769 := eq_true p769
           replace q769 := eq_true q769
           refine start_ (n := 10) (S := fun w' => w'.cell? (ad769.add ((t749).toNat * 2)) = some (.int .i64 ((rd_T32 t748 t749).f0)) ∧ w'.cell? ⟨(ad769.add ((t749).toNat * 2)).block, (ad769.add ((t749).toNat * 2)).off + 1, none⟩ = some (.int .i64 ((rd_T32 t748 t749).f1))) (ds := []) #[false, false, false, false, false, false, false, false, false, false] (by kernel_rfl) rfl rfl ⟨hx769_0, hx769_1⟩ (fun hHeld => ?_); refine with_tabW laws_FnHistoryUndo.tab10 laws_FnHistoryUndo.bits10 (fun HT_ HW_ => ?_)
           generalize wc.drew = w28 at HO_3 HO_4 HO_6 HB hx769_0 hx769_1 hHeld ⊢
           refine pure_ (i := 1) (N := some 46) (v := ?_) (a' := ?_) #[false, true, false, false, false, false, false, false, false, false] rfl rfl (any_of HT_.out (by kernel_rfl)) (fun _ _ _ h => h) (Or.inl ⟨by rfl, ?_⟩) ?_ ?_
           rotate_left
           ·intro w'
            go_simp
            with_reducible rfl
           rotate_left
           ·simp only [Act.put, List.setIfInBounds_toArray, List.set_cons_zero, List.set_cons_succ, i64_w, i32_w]
            rfl
           refine pure_ (i := 3) (N := some 48) (v := ?_) (a' := ?_) #[false, true, false, true, false, false, false, false, false, false] rfl rfl (any_of HT_.out (by kernel_rfl)) (fun _ _ _ h => h) (Or.inl ⟨by rfl, ?_⟩) ?_ ?_
           rotate_left
           ·intro w'
            go_simp
            with_reducible rfl
           rotate_left
           ·simp only [Act.put, List.setIfInBounds_toArray, List.set_cons_zero, List.set_cons_succ, i64_w, i32_w]
            rfl
           refine pure_ (i := 4) (N := some 49) (v := ?_) (a' := ?_) #[false, true, false, true, true, false, false, false, false, false] rfl rfl (any_of HT_.out (by kernel_rfl)) (fun _ _ _ h => h) (Or.inl ⟨by rfl, ?_⟩) ?_ ?_
           rotate_left
           ·intro w'
            go_simp
            with_reducible rfl
           rotate_left
           ·simp only [Act.put, List.setIfInBounds_toArray, List.set_cons_zero, List.set_cons_succ, i64_w, i32_w]
            rfl
           refine pure_ (i := 5) (N := some 50) (v := ?_) (a' := ?_) #[false, true, false, true, true, true, false, false, false, false] rfl rfl (any_of HT_.out (by kernel_rfl)) (fun _ _ _ h => h) (Or.inl ⟨by rfl, ?_⟩) ?_ ?_
           rotate_left
           ·intro w'
            go_simp
            with_reducible rfl
           rotate_left
           ·simp only [Act.put, List.setIfInBounds_toArray, List.set_cons_zero, List.set_cons_succ, i64_w, i32_w]
            rfl
           refine take_ (i := 6) (N := some 51) (v := ?_) (a' := ?_) #[false, true, false, true, true, true, true, false, false, false] rfl rfl (take_ofW HT_.out HW_.out (by kernel_rfl)) (fun _ _ _ h => h) (Or.inl ⟨by rfl, ?_⟩) hHeld ?_ ?_
           rotate_left
           ·rintro w' ⟨s0, s1⟩
            go_simp
            with_reducible rfl
           rotate_left
           ·simp only [Act.put, List.setIfInBounds_toArray, List.set_cons_zero, List.set_cons_succ, i64_w, i32_w]
            rfl
           refine join_ (σ := Value × Value × Value) 2 #[true, true, true, true, true, true, true, true, false, false] (fun s_ => [(45, s_.1), (47, s_.2.1), (52, s_.2.2)]) (fun s_ w' => (w'.cell? (ad769.add ((t749).toNat * 2)) = some (.int .i64 ((rd_T32 t748 t749).f0)) ∧ w'.cell? ⟨(ad769.add ((t749).toNat * 2)).block, (ad769.add ((t749).toNat * 2)).off + 1, none⟩ = some (.int .i64 ((rd_T32 t748 t749).f1))) ∧ (Kd.R k32 32 w' w.heap.size (fun k_ => some k_ ≠ (s_.2.2 : Value).ownBlock ∧ some k_ ≠ (.slice (some ad769) t748.length co9 : Value).ownBlock ∧ some k_ ≠ (.slice Ao27 t754.length co27 : Value).ownBlock) s_.2.1 y766) ∧ (Kd.R k32 32 w' w.heap.size (fun k_ => some k_ ≠ (s_.2.1 : Value).ownBlock ∧ some k_ ≠ (.slice (some ad769) t748.length co9 : Value).ownBlock ∧ some k_ ≠ (.slice Ao27 t754.length co27 : Value).ownBlock) s_.2.2 y770) ∧ (Kd.S (Kd.slice 3 (Kd.int .i64)) 27 w' w.heap.size (fun _ => True) (.slice Ao8 t747.length co8) t747) ∧ (Kd.R k32 32 w' w.heap.size (fun k_ => some k_ ≠ (s_.2.1 : Value).ownBlock ∧ some k_ ≠ (s_.2.2 : Value).ownBlock ∧ some k_ ≠ (.slice Ao27 t754.length co27 : Value).ownBlock) (.slice (some ad769) t748.length co9) t748) ∧ (Kd.R k32 32 w' w.heap.size (fun k_ => some k_ ≠ (s_.2.1 : Value).ownBlock ∧ some k_ ≠ (s_.2.2 : Value).ownBlock ∧ some k_ ≠ (.slice (some ad769) t748.length co9 : Value).ownBlock) (.slice Ao27 t754.length co27) t754) ∧ (Below w.heap.size w w')) ?_ ?_
           rotate_left
           ·intro hCont
            refine two_ (i := 0) (j := 7) (Ni := some 45) (Nj := some 52) #[true, true, false, true, true, true, true, false, false, false] #[false, true, false, true, true, true, true, true, false, false] rfl rfl rfl rfl (two_of HT_.out (by kernel_rfl)) (by decide) (by decide) (fun K hK => ?_) (fun K hK => ?_)
            ·skip
             refine Kd.R_lit_step k32 _ 32 ?hg (N := 45) ?hd (xs := ([] : List (S32))) (inner := []) (ok := fun _ => True) (okp := fun _ => True) ?hr ?hp (fun _ hk => hk) trivial (Below.refl _ _) (Nat.le_refl _) (by simp) ?_; (case hd => rfl); (case hg => rfl); (case hr => first | (go_simp; done) | (go_simp; rfl)); (case hp => exact (Reps.none _ _))
             intro v764 w29 ho30 hb hg_ hnew_
             have HS0_ := (hb.cell (World.block_lt_of_cell? _ _ (hHeld.1))).trans (hHeld.1)
             have HS1_ := (hb.cell (World.block_lt_of_cell? _ _ (hHeld.2))).trans (hHeld.2)
             clear hg_ hnew_
             (first | rw [← Ny763.out] at ho30 | (simp only [Int.reduceToNat] at ho30; rw [← Ny763.out] at ho30))
             have n0_ := Aside0.mk (Kd.S_below (by (with_reducible repeat (first | apply Kd.S_alloc | apply Kd.S_drewN | apply Kd.S_drew)); exact HO_3.out) hb)
             have n1_ := Aside0.mk (Kd.R_elder' (by (with_reducible repeat (first | apply Kd.R_alloc | apply Kd.R_drewN | apply Kd.R_drew)); exact HO_4.out) (Kd.R_base ho30) hb)
             have n2_ := Aside0.mk (Kd.R_elder' (by (with_reducible repeat (first | apply Kd.R_alloc | apply Kd.R_drewN | apply Kd.R_drew)); exact HO_6.out) (Kd.R_base ho30) hb)
             have n3_ := Aside0.mk (Kd.R_lower (Kd.R_new' (Kd.R_new' ho30 (Kd.R_lt (by (with_reducible repeat (first | apply Kd.R_alloc | apply Kd.R_drewN | apply Kd.R_drew)); exact HO_4.out))) (Kd.R_lt (by (with_reducible repeat (first | apply Kd.R_alloc | apply Kd.R_drewN | apply Kd.R_drew)); exact HO_6.out))) (below_size (by repeat (first | (with_reducible first | exact HB.out | apply below_alloc | apply pw_below_drewN | apply below_drew1) | exact HB.out))))
             have n4_ := Aside0.mk (below_step (by repeat (first | (with_reducible first | exact HB.out | apply below_alloc | apply pw_below_drewN | apply below_drew1) | exact HB.out)) hb)
             clear HO_3
             clear HO_4
             clear HO_6
             clear HB
             have HO_3 := n0_
             have HO_4 := n1_
             have HO_6 := n2_
             have HO765 := n3_
             have HB := n4_
             clear n0_ n1_ n2_ n3_ n4_
             clear hb ho30
             refine hK.out _ _ ⟨HS0_, HS1_⟩ (fun hHeld => ?_)
             clear hK K
             refine norm_ (a' := ?_) ?_ ?_
             rotate_left
             ·show Act.put _ (some 45) _ = _
              simp only [Act.put, List.setIfInBounds_toArray, List.set_cons_zero, List.set_cons_succ, i64_w, i32_w]
              rfl
             refine two_ (i := 2) (j := 7) (Ni := some 47) (Nj := some 52) #[true, true, true, true, true, true, true, false, false, false] #[true, true, false, true, true, true, true, true, false, false] rfl rfl rfl rfl (two_of HT_.out (by kernel_rfl)) (by decide) (by decide) (fun K hK => ?_) (fun K hK => ?_)
             ·skip
              refine Kd.R_append_rows_step k32 (w0 := w) w.heap.size (by rfl) (.tmp 45) (.tmp 46) 24 32 (.agg #[(.int .i64 0), (.int .i64 0)]) 16 rfl Try.underlying24 info32 rfl (by decide) (by omega) v764 y763 t754 _ _ _ (fun k_ => some k_ ≠ (.slice (some ad769) t748.length co9 : Value).ownBlock ∧ some k_ ≠ (.slice Ao27 t754.length co27 : Value).ownBlock) (fun _ => False) rfl rfl ?aO ?aR (fun _ _ h => h) (fun _ h => h.elim) ?aF ?aB ?aS ?aL ?_
              (case aR => repeat (first | exact (Kd.R_reads' HO_6.out).2.2 | (with_reducible refine Kd.C_alloc ?_ _) | (with_reducible refine Kd.C_drewN ?_ _) | (with_reducible refine Kd.C_drew ?_)))
              (case aB => exact (by repeat (first | (with_reducible first | exact HB.out | apply below_alloc | apply pw_below_drewN | apply below_drew1) | exact HB.out)))
              (case aF => exact (fun k_ hk => ⟨Kd.fresh' (Kd.R_lt (by (with_reducible repeat (first | apply Kd.R_alloc | apply Kd.R_drewN | apply Kd.R_drew)); exact HO_4.out)) k_ hk, Kd.fresh' (Kd.R_lt (by (with_reducible repeat (first | apply Kd.R_alloc | apply Kd.R_drewN | apply Kd.R_drew)); exact HO_6.out)) k_ hk⟩))
              (case aO => exact (by (with_reducible repeat (first | apply Kd.R_alloc | apply Kd.R_drewN | apply Kd.R_drew)); exact Kd.R_mono HO765.out (fun _ hk => ⟨hk.1.2, hk.2⟩)))
              (case aS => exact (below_size (by repeat (first | (with_reducible first | exact HB.out | apply below_alloc | apply pw_below_drewN | apply below_drew1) | exact HB.out))))
              (case aL => have := LMc20.out; omega)
              intro v767 w31 ho hb hg hat
              rw [← Ny766.out] at ho
              have n0_ := Aside0.mk (Kd.S_over' (by (with_reducible repeat (first | apply Kd.S_alloc | apply Kd.S_drewN | apply Kd.S_drew)); exact HO_3.out) (Kd.R_typed (by (with_reducible repeat (first | apply Kd.R_alloc | apply Kd.R_drewN | apply Kd.R_drew)); exact HO765.out)) (by decide) hg)
              have n1_ := Aside0.mk (Kd.R_after (ok := (fun k_ => some k_ ≠ (.slice Ao27 t754.length co27 : Value).ownBlock)) (by (with_reducible repeat (first | apply Kd.R_alloc | apply Kd.R_drewN | apply Kd.R_drew)); exact HO_4.out) hg hat)
              have n2_ := Aside0.mk (Kd.R_after (ok := (fun k_ => some k_ ≠ (.slice (some ad769) t748.length co9 : Value).ownBlock)) (by (with_reducible repeat (first | apply Kd.R_alloc | apply Kd.R_drewN | apply Kd.R_drew)); exact HO_6.out) hg hat)
              have n3_ := Aside0.mk (hb)
              have n4_ := Aside0.mk (ho)
              clear HO_3
              clear HO_4
              clear HO_6
              clear HB
              clear HO765
              have HO_3 := n0_
              have HO_4 := n1_
              have HO_6 := n2_
              have HB := n3_
              have HO768 := n4_
              clear n0_ n1_ n2_ n3_ n4_
              clear ho hb hg hat
              obtain ⟨adz769_, ez769_, HZ769_0, HZ769_1⟩ := at_T32 (Kd.R_reads' HO_4.out).2.2 t749 (by first | exact p769 | exact of_eq_true p769) (by first | exact q769 | exact of_eq_true q769)
              obtain rfl := Option.some.inj ez769_
              refine hK.out _ _ ⟨HZ769_0, HZ769_1⟩ (fun hHeld => ?_)
              clear hK K
              refine norm_ (a' := ?_) ?_ ?_
              rotate_left
              ·show Act.put _ (some 47) _ = _
               simp only [Act.put, List.setIfInBounds_toArray, List.set_cons_zero, List.set_cons_succ, i64_w, i32_w]
               rfl
              refine one_ (i := 7) (N := some 52) #[true, true, true, true, true, true, true, true, false, false] rfl rfl (one_of HT_.out (by kernel_rfl)) (by decide) (fun K hK => ?_)
              refine Kd.R_lit_step k32 _ 32 ?hg (N := 52) ?hd (xs := ([(⟨(rd_T32 t748 t749).f0, (rd_T32 t748 t749).f1⟩ : S32)] : List (S32))) (inner := [.int .i64 ((rd_T32 t748 t749).f0), .int .i64 ((rd_T32 t748 t749).f1)]) (ok := fun _ => True) (okp := fun _ => True) ?hr ?hp (fun _ hk => hk) trivial (Below.refl _ _) (Nat.le_refl _) (by simp) ?_; (case hd => rfl); (case hg => rfl); (case hr => first | (go_simp; done) | (go_simp; rfl)); (case hp => exact (Reps.c2 (show Kd.M k32 _ _ _ (⟨(rd_T32 t748 t749).f0, (rd_T32 t748 t749).f1⟩ : S32) [.int .i64 ((rd_T32 t748 t749).f0), .int .i64 ((rd_T32 t748 t749).f1)] from (k32_mkM _ _ _ (⟨(rd_T32 t748 t749).f0, (rd_T32 t748 t749).f1⟩ : S32) )) (Reps.none _ _)))
              intro v771 w32 ho33 hb hg_ hnew_
              have HS0_ := (hb.cell (World.block_lt_of_cell? _ _ (hHeld.1))).trans (hHeld.1)
              have HS1_ := (hb.cell (World.block_lt_of_cell? _ _ (hHeld.2))).trans (hHeld.2)
              clear hg_ hnew_
              (first | rw [← Ny770.out] at ho33 | (simp only [Int.reduceToNat] at ho33; rw [← Ny770.out] at ho33))
              have n0_ := Aside0.mk (Kd.S_below (by (with_reducible repeat (first | apply Kd.S_alloc | apply Kd.S_drewN | apply Kd.S_drew)); exact HO_3.out) hb)
              have n1_ := Aside0.mk (Kd.R_elder' (by (with_reducible repeat (first | apply Kd.R_alloc | apply Kd.R_drewN | apply Kd.R_drew)); exact HO_4.out) (Kd.R_base ho33) hb)
              have n2_ := Aside0.mk (Kd.R_elder' (by (with_reducible repeat (first | apply Kd.R_alloc | apply Kd.R_drewN | apply Kd.R_drew)); exact HO_6.out) (Kd.R_base ho33) hb)
              have n3_ := Aside0.mk (Kd.R_elder' (by (with_reducible repeat (first | apply Kd.R_alloc | apply Kd.R_drewN | apply Kd.R_drew)); exact HO768.out) (Kd.R_base ho33) hb)
              have n4_ := Aside0.mk (Kd.R_lower (Kd.R_new' (Kd.R_new' (Kd.R_new' ho33 (Kd.R_lt (by (with_reducible repeat (first | apply Kd.R_alloc | apply Kd.R_drewN | apply Kd.R_drew)); exact HO_4.out))) (Kd.R_lt (by (with_reducible repeat (first | apply Kd.R_alloc | apply Kd.R_drewN | apply Kd.R_drew)); exact HO_6.out))) (Kd.R_lt (by (with_reducible repeat (first | apply Kd.R_alloc | apply Kd.R_drewN | apply Kd.R_drew)); exact HO768.out))) (below_size (by repeat (first | (with_reducible first | exact HB.out | apply below_alloc | apply pw_below_drewN | apply below_drew1) | exact HB.out))))
              have n5_ := Aside0.mk (below_step (by repeat (first | (with_reducible first | exact HB.out | apply below_alloc | apply pw_below_drewN | apply below_drew1) | exact HB.out)) hb)
              clear HO_3
              clear HO_4
              clear HO_6
              clear HO768
              clear HB
              have HO_3 := n0_
              have HO_4 := n1_
              have HO_6 := n2_
              have HO768 := n3_
              have HO772 := n4_
              have HB := n5_
              clear n0_ n1_ n2_ n3_ n4_ n5_
              clear hb ho33
              refine hK.out _ _ ⟨HS0_, HS1_⟩ (fun hHeld => ?_)
              clear hK K
              refine norm_ (a' := ?_) ?_ ?_
              rotate_left
              ·show Act.put _ (some 52) _ = _
               simp only [Act.put, List.setIfInBounds_toArray, List.set_cons_zero, List.set_cons_succ, i64_w, i32_w]
               rfl
              exact norm_ (by simp only [putAll, Act.put, List.setIfInBounds_toArray, List.set_cons_zero, List.set_cons_succ]) (hCont (v764, v767, v771) _ ⟨hHeld, (by (with_reducible repeat (first | apply Kd.R_alloc | apply Kd.R_drewN | apply Kd.R_drew)); exact Kd.R_mono HO768.out (fun _ hk => ⟨hk.2, ⟨hk.1.1, hk.1.2⟩⟩)), (by (with_reducible repeat (first | apply Kd.R_alloc | apply Kd.R_drewN | apply Kd.R_drew)); exact Kd.R_mono HO772.out (fun _ hk => ⟨hk.2, ⟨hk.1.1.2, hk.1.2⟩⟩)), (by (with_reducible repeat (first | apply Kd.S_alloc | apply Kd.S_drewN | apply Kd.S_drew)); exact HO_3.out), (by (with_reducible repeat (first | apply Kd.R_alloc | apply Kd.R_drewN | apply Kd.R_drew)); exact Kd.R_mono HO_4.out (fun _ hk => ⟨hk.1.2, ⟨hk.2, hk.1.1⟩⟩)), (by (with_reducible repeat (first | apply Kd.R_alloc | apply Kd.R_drewN | apply Kd.R_drew)); exact Kd.R_mono HO_6.out (fun _ hk => ⟨hk.1.2, ⟨hk.2, hk.1.1⟩⟩)), (by repeat (first | (with_reducible first | exact HB.out | apply below_alloc | apply pw_below_drewN | apply below_drew1) | exact HB.out))⟩)
             ·skip
              refine Kd.R_lit_step k32 _ 32 ?hg (N := 52) ?hd (xs := ([(⟨(rd_T32 t748 t749).f0, (rd_T32 t748 t749).f1⟩ : S32)] : List (S32))) (inner := [.int .i64 ((rd_T32 t748 t749).f0), .int .i64 ((rd_T32 t748 t749).f1)]) (ok := fun _ => True) (okp := fun _ => True) ?hr ?hp (fun _ hk => hk) trivial (Below.refl _ _) (Nat.le_refl _) (by simp) ?_; (case hd => rfl); (case hg => rfl); (case hr => first | (go_simp; done) | (go_simp; rfl)); (case hp => exact (Reps.c2 (show Kd.M k32 _ _ _ (⟨(rd_T32 t748 t749).f0, (rd_T32 t748 t749).f1⟩ : S32) [.int .i64 ((rd_T32 t748 t749).f0), .int .i64 ((rd_T32 t748 t749).f1)] from (k32_mkM _ _ _ (⟨(rd_T32 t748 t749).f0, (rd_T32 t748 t749).f1⟩ : S32) )) (Reps.none _ _)))
              intro v771 w31 ho32 hb hg_ hnew_
              have HS0_ := (hb.cell (World.block_lt_of_cell? _ _ (hHeld.1))).trans (hHeld.1)
              have HS1_ := (hb.cell (World.block_lt_of_cell? _ _ (hHeld.2))).trans (hHeld.2)
              clear hg_ hnew_
              (first | rw [← Ny770.out] at ho32 | (simp only [Int.reduceToNat] at ho32; rw [← Ny770.out] at ho32))
              have n0_ := Aside0.mk (Kd.S_below (by (with_reducible repeat (first | apply Kd.S_alloc | apply Kd.S_drewN | apply Kd.S_drew)); exact HO_3.out) hb)
              have n1_ := Aside0.mk (Kd.R_elder' (by (with_reducible repeat (first | apply Kd.R_alloc | apply Kd.R_drewN | apply Kd.R_drew)); exact HO_4.out) (Kd.R_base ho32) hb)
              have n2_ := Aside0.mk (Kd.R_elder' (by (with_reducible repeat (first | apply Kd.R_alloc | apply Kd.R_drewN | apply Kd.R_drew)); exact HO_6.out) (Kd.R_base ho32) hb)
              have n3_ := Aside0.mk (Kd.R_elder' (by (with_reducible repeat (first | apply Kd.R_alloc | apply Kd.R_drewN | apply Kd.R_drew)); exact HO765.out) (Kd.R_base ho32) hb)
              have n4_ := Aside0.mk (Kd.R_lower (Kd.R_new' (Kd.R_new' (Kd.R_new' ho32 (Kd.R_lt (by (with_reducible repeat (first | apply Kd.R_alloc | apply Kd.R_drewN | apply Kd.R_drew)); exact HO_4.out))) (Kd.R_lt (by (with_reducible repeat (first | apply Kd.R_alloc | apply Kd.R_drewN | apply Kd.R_drew)); exact HO_6.out))) (Kd.R_lt (by (with_reducible repeat (first | apply Kd.R_alloc | apply Kd.R_drewN | apply Kd.R_drew)); exact HO765.out))) (below_size (by repeat (first | (with_reducible first | exact HB.out | apply below_alloc | apply pw_below_drewN | apply below_drew1) | exact HB.out))))
              have n5_ := Aside0.mk (below_step (by repeat (first | (with_reducible first | exact HB.out | apply below_alloc | apply pw_below_drewN | apply below_drew1) | exact HB.out)) hb)
              clear HO_3
              clear HO_4
              clear HO_6
              clear HO765
              clear HB
              have HO_3 := n0_
              have HO_4 := n1_
              have HO_6 := n2_
              have HO765 := n3_
              have HO772 := n4_
              have HB := n5_
              clear n0_ n1_ n2_ n3_ n4_ n5_
              clear hb ho32
              refine hK.out _ _ ⟨HS0_, HS1_⟩ (fun hHeld => ?_)
              clear hK K
              refine norm_ (a' := ?_) ?_ ?_
              rotate_left
              ·show Act.put _ (some 52) _ = _
               simp only [Act.put, List.setIfInBounds_toArray, List.set_cons_zero, List.set_cons_succ, i64_w, i32_w]
               rfl
              refine one_ (i := 2) (N := some 47) #[true, true, true, true, true, true, true, true, false, false] rfl rfl (one_of HT_.out (by kernel_rfl)) (by decide) (fun K hK => ?_)
              refine Kd.R_append_rows_step k32 (w0 := w) w.heap.size (by rfl) (.tmp 45) (.tmp 46) 24 32 (.agg #[(.int .i64 0), (.int .i64 0)]) 16 rfl Try.underlying24 info32 rfl (by decide) (by omega) v764 y763 t754 _ _ _ (fun k_ => some k_ ≠ (.slice (some ad769) t748.length co9 : Value).ownBlock ∧ some k_ ≠ (.slice Ao27 t754.length co27 : Value).ownBlock ∧ some k_ ≠ (v771 : Value).ownBlock) (fun _ => False) rfl rfl ?aO ?aR (fun _ _ h => h) (fun _ h => h.elim) ?aF ?aB ?aS ?aL ?_
              (case aR => repeat (first | exact (Kd.R_reads' HO_6.out).2.2 | (with_reducible refine Kd.C_alloc ?_ _) | (with_reducible refine Kd.C_drewN ?_ _) | (with_reducible refine Kd.C_drew ?_)))
              (case aB => exact (by repeat (first | (with_reducible first | exact HB.out | apply below_alloc | apply pw_below_drewN | apply below_drew1) | exact HB.out)))
              (case aF => exact (fun k_ hk => ⟨Kd.fresh' (Kd.R_lt (by (with_reducible repeat (first | apply Kd.R_alloc | apply Kd.R_drewN | apply Kd.R_drew)); exact HO_4.out)) k_ hk, Kd.fresh' (Kd.R_lt (by (with_reducible repeat (first | apply Kd.R_alloc | apply Kd.R_drewN | apply Kd.R_drew)); exact HO_6.out)) k_ hk, Kd.fresh' (Kd.R_lt (by (with_reducible repeat (first | apply Kd.R_alloc | apply Kd.R_drewN | apply Kd.R_drew)); exact HO772.out)) k_ hk⟩))
              (case aO => exact (by (with_reducible repeat (first | apply Kd.R_alloc | apply Kd.R_drewN | apply Kd.R_drew)); exact Kd.R_mono HO765.out (fun _ hk => ⟨hk.1.1.2, ⟨hk.1.2, hk.2⟩⟩)))
              (case aS => exact (below_size (by repeat (first | (with_reducible first | exact HB.out | apply below_alloc | apply pw_below_drewN | apply below_drew1) | exact HB.out))))
              (case aL => have := LMc20.out; omega)
              intro v767 w33 ho hb hg hat
              rw [← Ny766.out] at ho
              have n0_ := Aside0.mk (Kd.S_over' (by (with_reducible repeat (first | apply Kd.S_alloc | apply Kd.S_drewN | apply Kd.S_drew)); exact HO_3.out) (Kd.R_typed (by (with_reducible repeat (first | apply Kd.R_alloc | apply Kd.R_drewN | apply Kd.R_drew)); exact HO765.out)) (by decide) hg)
              have n1_ := Aside0.mk (Kd.R_after (ok := (fun k_ => some k_ ≠ (.slice Ao27 t754.length co27 : Value).ownBlock ∧ some k_ ≠ (v771 : Value).ownBlock)) (by (with_reducible repeat (first | apply Kd.R_alloc | apply Kd.R_drewN | apply Kd.R_drew)); exact Kd.R_mono HO_4.out (fun _ hk => ⟨⟨hk.1.1, hk.2⟩, hk.1.2⟩)) hg hat)
              have n2_ := Aside0.mk (Kd.R_after (ok := (fun k_ => some k_ ≠ (.slice (some ad769) t748.length co9 : Value).ownBlock ∧ some k_ ≠ (v771 : Value).ownBlock)) (by (with_reducible repeat (first | apply Kd.R_alloc | apply Kd.R_drewN | apply Kd.R_drew)); exact Kd.R_mono HO_6.out (fun _ hk => ⟨⟨hk.1.1, hk.2⟩, hk.1.2⟩)) hg hat)
              have n3_ := Aside0.mk (Kd.R_after (ok := (fun k_ => some k_ ≠ (.slice (some ad769) t748.length co9 : Value).ownBlock ∧ some k_ ≠ (.slice Ao27 t754.length co27 : Value).ownBlock)) (by (with_reducible repeat (first | apply Kd.R_alloc | apply Kd.R_drewN | apply Kd.R_drew)); exact Kd.R_mono HO772.out (fun _ hk => ⟨⟨hk.1.1.2, hk.1.2⟩, hk.2⟩)) hg hat)
              have n4_ := Aside0.mk (hb)
              have n5_ := Aside0.mk (ho)
              clear HO_3
              clear HO_4
              clear HO_6
              clear HO772
              clear HB
              clear HO765
              have HO_3 := n0_
              have HO_4 := n1_
              have HO_6 := n2_
              have HO772 := n3_
              have HB := n4_
              have HO768 := n5_
              clear n0_ n1_ n2_ n3_ n4_ n5_
              clear ho hb hg hat
              obtain ⟨adz769_, ez769_, HZ769_0, HZ769_1⟩ := at_T32 (Kd.R_reads' HO_4.out).2.2 t749 (by first | exact p769 | exact of_eq_true p769) (by first | exact q769 | exact of_eq_true q769)
              obtain rfl := Option.some.inj ez769_
              refine hK.out _ _ ⟨HZ769_0, HZ769_1⟩ (fun hHeld => ?_)
              clear hK K
              refine norm_ (a' := ?_) ?_ ?_
              rotate_left
              ·show Act.put _ (some 47) _ = _
               simp only [Act.put, List.setIfInBounds_toArray, List.set_cons_zero, List.set_cons_succ, i64_w, i32_w]
               rfl
              exact norm_ (by simp only [putAll, Act.put, List.setIfInBounds_toArray, List.set_cons_zero, List.set_cons_succ]) (hCont (v764, v767, v771) _ ⟨hHeld, (by (with_reducible repeat (first | apply Kd.R_alloc | apply Kd.R_drewN | apply Kd.R_drew)); exact Kd.R_mono HO768.out (fun _ hk => ⟨hk.2.2, ⟨hk.1, hk.2.1⟩⟩)), (by (with_reducible repeat (first | apply Kd.R_alloc | apply Kd.R_drewN | apply Kd.R_drew)); exact Kd.R_mono HO772.out (fun _ hk => ⟨hk.2, ⟨hk.1.1, hk.1.2⟩⟩)), (by (with_reducible repeat (first | apply Kd.S_alloc | apply Kd.S_drewN | apply Kd.S_drew)); exact HO_3.out), (by (with_reducible repeat (first | apply Kd.R_alloc | apply Kd.R_drewN | apply Kd.R_drew)); exact Kd.R_mono HO_4.out (fun _ hk => ⟨hk.2, ⟨hk.1.2, hk.1.1⟩⟩)), (by (with_reducible repeat (first | apply Kd.R_alloc | apply Kd.R_drewN | apply Kd.R_drew)); exact Kd.R_mono HO_6.out (fun _ hk => ⟨hk.2, ⟨hk.1.2, hk.1.1⟩⟩)), (by repeat (first | (with_reducible first | exact HB.out | apply below_alloc | apply pw_below_drewN | apply below_drew1) | exact HB.out))⟩)
            ·skip
             refine Kd.R_lit_step k32 _ 32 ?hg (N := 52) ?hd (xs := ([(⟨(rd_T32 t748 t749).f0, (rd_T32 t748 t749).f1⟩ : S32)] : List (S32))) (inner := [.int .i64 ((rd_T32 t748 t749).f0), .int .i64 ((rd_T32 t748 t749).f1)]) (ok := fun _ => True) (okp := fun _ => True) ?hr ?hp (fun _ hk => hk) trivial (Below.refl _ _) (Nat.le_refl _) (by simp) ?_; (case hd => rfl); (case hg => rfl); (case hr => first | (go_simp; done) | (go_simp; rfl)); (case hp => exact (Reps.c2 (show Kd.M k32 _ _ _ (⟨(rd_T32 t748 t749).f0, (rd_T32 t748 t749).f1⟩ : S32) [.int .i64 ((rd_T32 t748 t749).f0), .int .i64 ((rd_T32 t748 t749).f1)] from (k32_mkM _ _ _ (⟨(rd_T32 t748 t749).f0, (rd_T32 t748 t749).f1⟩ : S32) )) (Reps.none _ _)))
             intro v771 w29 ho30 hb hg_ hnew_
             have HS0_ := (hb.cell (World.block_lt_of_cell? _ _ (hHeld.1))).trans (hHeld.1)
             have HS1_ := (hb.cell (World.block_lt_of_cell? _ _ (hHeld.2))).trans (hHeld.2)
             clear hg_ hnew_
             (first | rw [← Ny770.out] at ho30 | (simp only [Int.reduceToNat] at ho30; rw [← Ny770.out] at ho30))
             have n0_ := Aside0.mk (Kd.S_below (by (with_reducible repeat (first | apply Kd.S_alloc | apply Kd.S_drewN | apply Kd.S_drew)); exact HO_3.out) hb)
             have n1_ := Aside0.mk (Kd.R_elder' (by (with_reducible repeat (first | apply Kd.R_alloc | apply Kd.R_drewN | apply Kd.R_drew)); exact HO_4.out) (Kd.R_base ho30) hb)
             have n2_ := Aside0.mk (Kd.R_elder' (by (with_reducible repeat (first | apply Kd.R_alloc | apply Kd.R_drewN | apply Kd.R_drew)); exact HO_6.out) (Kd.R_base ho30) hb)
             have n3_ := Aside0.mk (Kd.R_lower (Kd.R_new' (Kd.R_new' ho30 (Kd.R_lt (by (with_reducible repeat (first | apply Kd.R_alloc | apply Kd.R_drewN | apply Kd.R_drew)); exact HO_4.out))) (Kd.R_lt (by (with_reducible repeat (first | apply Kd.R_alloc | apply Kd.R_drewN | apply Kd.R_drew)); exact HO_6.out))) (below_size (by repeat (first | (with_reducible first | exact HB.out | apply below_alloc | apply pw_below_drewN | apply below_drew1) | exact HB.out))))
             have n4_ := Aside0.mk (below_step (by repeat (first | (with_reducible first | exact HB.out | apply below_alloc | apply pw_below_drewN | apply below_drew1) | exact HB.out)) hb)
             clear HO_3
             clear HO_4
             clear HO_6
             clear HB
             have HO_3 := n0_
             have HO_4 := n1_
             have HO_6 := n2_
             have HO772 := n3_
             have HB := n4_
             clear n0_ n1_ n2_ n3_ n4_
             clear hb ho30
             refine hK.out _ _ ⟨HS0_, HS1_⟩ (fun hHeld => ?_)
             clear hK K
             refine norm_ (a' := ?_) ?_ ?_
             rotate_left
             ·show Act.put _ (some 52) _ = _
              simp only [Act.put, List.setIfInBounds_toArray, List.set_cons_zero, List.set_cons_succ, i64_w, i32_w]
              rfl
             refine one_ (i := 0) (N := some 45) #[true, true, false, true, true, true, true, true, false, false] rfl rfl (one_of HT_.out (by kernel_rfl)) (by decide) (fun K hK => ?_)
             refine Kd.R_lit_step k32 _ 32 ?hg (N := 45) ?hd (xs := ([] : List (S32))) (inner := []) (ok := fun _ => True) (okp := fun _ => True) ?hr ?hp (fun _ hk => hk) trivial (Below.refl _ _) (Nat.le_refl _) (by simp) ?_; (case hd => rfl); (case hg => rfl); (case hr => first | (go_simp; done) | (go_simp; rfl)); (case hp => exact (Reps.none _ _))
             intro v764 w31 ho32 hb hg_ hnew_
             have HS0_ := (hb.cell (World.block_lt_of_cell? _ _ (hHeld.1))).trans (hHeld.1)
             have HS1_ := (hb.cell (World.block_lt_of_cell? _ _ (hHeld.2))).trans (hHeld.2)
             clear hg_ hnew_
             (first | rw [← Ny763.out] at ho32 | (simp only [Int.reduceToNat] at ho32; rw [← Ny763.out] at ho32))
             have n0_ := Aside0.mk (Kd.S_below (by (with_reducible repeat (first | apply Kd.S_alloc | apply Kd.S_drewN | apply Kd.S_drew)); exact HO_3.out) hb)
             have n1_ := Aside0.mk (Kd.R_elder' (by (with_reducible repeat (first | apply Kd.R_alloc | apply Kd.R_drewN | apply Kd.R_drew)); exact HO_4.out) (Kd.R_base ho32) hb)
             have n2_ := Aside0.mk (Kd.R_elder' (by (with_reducible repeat (first | apply Kd.R_alloc | apply Kd.R_drewN | apply Kd.R_drew)); exact HO_6.out) (Kd.R_base ho32) hb)
             have n3_ := Aside0.mk (Kd.R_elder' (by (with_reducible repeat (first | apply Kd.R_alloc | apply Kd.R_drewN | apply Kd.R_drew)); exact HO772.out) (Kd.R_base ho32) hb)
             have n4_ := Aside0.mk (Kd.R_lower (Kd.R_new' (Kd.R_new' (Kd.R_new' ho32 (Kd.R_lt (by (with_reducible repeat (first | apply Kd.R_alloc | apply Kd.R_drewN | apply Kd.R_drew)); exact HO_4.out))) (Kd.R_lt (by (with_reducible repeat (first | apply Kd.R_alloc | apply Kd.R_drewN | apply Kd.R_drew)); exact HO_6.out))) (Kd.R_lt (by (with_reducible repeat (first | apply Kd.R_alloc | apply Kd.R_drewN | apply Kd.R_drew)); exact HO772.out))) (below_size (by repeat (first | (with_reducible first | exact HB.out | apply below_alloc | apply pw_below_drewN | apply below_drew1) | exact HB.out))))
             have n5_ := Aside0.mk (below_step (by repeat (first | (with_reducible first | exact HB.out | apply below_alloc | apply pw_below_drewN | apply below_drew1) | exact HB.out)) hb)
             clear HO_3
             clear HO_4
             clear HO_6
             clear HO772
             clear HB
             have HO_3 := n0_
             have HO_4 := n1_
             have HO_6 := n2_
             have HO772 := n3_
             have HO765 := n4_
             have HB := n5_
             clear n0_ n1_ n2_ n3_ n4_ n5_
             clear hb ho32
             refine hK.out _ _ ⟨HS0_, HS1_⟩ (fun hHeld => ?_)
             clear hK K
             refine norm_ (a' := ?_) ?_ ?_
             rotate_left
             ·show Act.put _ (some 45) _ = _
              simp only [Act.put, List.setIfInBounds_toArray, List.set_cons_zero, List.set_cons_succ, i64_w, i32_w]
              rfl
             refine one_ (i := 2) (N := some 47) #[true, true, true, true, true, true, true, true, false, false] rfl rfl (one_of HT_.out (by kernel_rfl)) (by decide) (fun K hK => ?_)
             refine Kd.R_append_rows_step k32 (w0 := w) w.heap.size (by rfl) (.tmp 45) (.tmp 46) 24 32 (.agg #[(.int .i64 0), (.int .i64 0)]) 16 rfl Try.underlying24 info32 rfl (by decide) (by omega) v764 y763 t754 _ _ _ (fun k_ => some k_ ≠ (.slice (some ad769) t748.length co9 : Value).ownBlock ∧ some k_ ≠ (.slice Ao27 t754.length co27 : Value).ownBlock ∧ some k_ ≠ (v771 : Value).ownBlock) (fun _ => False) rfl rfl ?aO ?aR (fun _ _ h => h) (fun _ h => h.elim) ?aF ?aB ?aS ?aL ?_
             (case aR => repeat (first | exact (Kd.R_reads' HO_6.out).2.2 | (with_reducible refine Kd.C_alloc ?_ _) | (with_reducible refine Kd.C_drewN ?_ _) | (with_reducible refine Kd.C_drew ?_)))
             (case aB => exact (by repeat (first | (with_reducible first | exact HB.out | apply below_alloc | apply pw_below_drewN | apply below_drew1) | exact HB.out)))
             (case aF => exact (fun k_ hk => ⟨Kd.fresh' (Kd.R_lt (by (with_reducible repeat (first | apply Kd.R_alloc | apply Kd.R_drewN | apply Kd.R_drew)); exact HO_4.out)) k_ hk, Kd.fresh' (Kd.R_lt (by (with_reducible repeat (first | apply Kd.R_alloc | apply Kd.R_drewN | apply Kd.R_drew)); exact HO_6.out)) k_ hk, Kd.fresh' (Kd.R_lt (by (with_reducible repeat (first | apply Kd.R_alloc | apply Kd.R_drewN | apply Kd.R_drew)); exact HO772.out)) k_ hk⟩))
             (case aO => exact (by (with_reducible repeat (first | apply Kd.R_alloc | apply Kd.R_drewN | apply Kd.R_drew)); exact Kd.R_mono HO765.out (fun _ hk => ⟨hk.1.1.2, ⟨hk.1.2, hk.2⟩⟩)))
             (case aS => exact (below_size (by repeat (first | (with_reducible first | exact HB.out | apply below_alloc | apply pw_below_drewN | apply below_drew1) | exact HB.out))))
             (case aL => have := LMc20.out; omega)
             intro v767 w33 ho hb hg hat
             rw [← Ny766.out] at ho
             have n0_ := Aside0.mk (Kd.S_over' (by (with_reducible repeat (first | apply Kd.S_alloc | apply Kd.S_drewN | apply Kd.S_drew)); exact HO_3.out) (Kd.R_typed (by (with_reducible repeat (first | apply Kd.R_alloc | apply Kd.R_drewN | apply Kd.R_drew)); exact HO765.out)) (by decide) hg)
             have n1_ := Aside0.mk (Kd.R_after (ok := (fun k_ => some k_ ≠ (.slice Ao27 t754.length co27 : Value).ownBlock ∧ some k_ ≠ (v771 : Value).ownBlock)) (by (with_reducible repeat (first | apply Kd.R_alloc | apply Kd.R_drewN | apply Kd.R_drew)); exact HO_4.out) hg hat)
             have n2_ := Aside0.mk (Kd.R_after (ok := (fun k_ => some k_ ≠ (.slice (some ad769) t748.length co9 : Value).ownBlock ∧ some k_ ≠ (v771 : Value).ownBlock)) (by (with_reducible repeat (first | apply Kd.R_alloc | apply Kd.R_drewN | apply Kd.R_drew)); exact HO_6.out) hg hat)
             have n3_ := Aside0.mk (Kd.R_after (ok := (fun k_ => some k_ ≠ (.slice (some ad769) t748.length co9 : Value).ownBlock ∧ some k_ ≠ (.slice Ao27 t754.length co27 : Value).ownBlock)) (by (with_reducible repeat (first | apply Kd.R_alloc | apply Kd.R_drewN | apply Kd.R_drew)); exact Kd.R_mono HO772.out (fun _ hk => ⟨⟨hk.1.1.2, hk.1.2⟩, hk.2⟩)) hg hat)
             have n4_ := Aside0.mk (hb)
             have n5_ := Aside0.mk (ho)
             clear HO_3
             clear HO_4
             clear HO_6
             clear HO772
             clear HB
             clear HO765
             have HO_3 := n0_
             have HO_4 := n1_
             have HO_6 := n2_
             have HO772 := n3_
             have HB := n4_
             have HO768 := n5_
             clear n0_ n1_ n2_ n3_ n4_ n5_
             clear ho hb hg hat
             obtain ⟨adz769_, ez769_, HZ769_0, HZ769_1⟩ := at_T32 (Kd.R_reads' HO_4.out).2.2 t749 (by first | exact p769 | exact of_eq_true p769) (by first | exact q769 | exact of_eq_true q769)
             obtain rfl := Option.some.inj ez769_
             refine hK.out _ _ ⟨HZ769_0, HZ769_1⟩ (fun hHeld => ?_)
             clear hK K
             refine norm_ (a' := ?_) ?_ ?_
             rotate_left
             ·show Act.put _ (some 47) _ = _
              simp only [Act.put, List.setIfInBounds_toArray, List.set_cons_zero, List.set_cons_succ, i64_w, i32_w]
              rfl
             exact norm_ (by simp only [putAll, Act.put, List.setIfInBounds_toArray, List.set_cons_zero, List.set_cons_succ]) (hCont (v764, v767, v771) _ ⟨hHeld, (by (with_reducible repeat (first | apply Kd.R_alloc | apply Kd.R_drewN | apply Kd.R_drew)); exact Kd.R_mono HO768.out (fun _ hk => ⟨hk.2.2, ⟨hk.1, hk.2.1⟩⟩)), (by (with_reducible repeat (first | apply Kd.R_alloc | apply Kd.R_drewN | apply Kd.R_drew)); exact Kd.R_mono HO772.out (fun _ hk => ⟨hk.2, ⟨hk.1.1, hk.1.2⟩⟩)), (by (with_reducible repeat (first | apply Kd.S_alloc | apply Kd.S_drewN | apply Kd.S_drew)); exact HO_3.out), (by (with_reducible repeat (first | apply Kd.R_alloc | apply Kd.R_drewN | apply Kd.R_drew)); exact Kd.R_mono HO_4.out (fun _ hk => ⟨hk.2, ⟨hk.1.2, hk.1.1⟩⟩)), (by (with_reducible repeat (first | apply Kd.R_alloc | apply Kd.R_drewN | apply Kd.R_drew)); exact Kd.R_mono HO_6.out (fun _ hk => ⟨hk.2, ⟨hk.1.2, hk.1.1⟩⟩)), (by repeat (first | (with_reducible first | exact HB.out | apply below_alloc | apply pw_below_drewN | apply below_drew1) | exact HB.out))⟩)
           rintro ⟨v764, v767, v771⟩ w34 ⟨hS_, h0_, h1_, h2_, h3_, h4_, h5_⟩
           have n0_ : Aside0 (Kd.R k32 32 w34 w.heap.size (fun k_ => some k_ ≠ (v771 : Value).ownBlock ∧ some k_ ≠ (.slice (some ad769) t748.length co9 : Value).ownBlock ∧ some k_ ≠ (.slice Ao27 t754.length co27 : Value).ownBlock) v767 y766) := ⟨h0_⟩
           have n1_ : Aside0 (Kd.R k32 32 w34 w.heap.size (fun k_ => some k_ ≠ (v767 : Value).ownBlock ∧ some k_ ≠ (.slice (some ad769) t748.length co9 : Value).ownBlock ∧ some k_ ≠ (.slice Ao27 t754.length co27 : Value).ownBlock) v771 y770) := ⟨h1_⟩
           have n2_ : Aside0 (Kd.S (Kd.slice 3 (Kd.int .i64)) 27 w34 w.heap.size (fun _ => True) (.slice Ao8 t747.length co8) t747) := ⟨h2_⟩
           have n3_ : Aside0 (Kd.R k32 32 w34 w.heap.size (fun k_ => some k_ ≠ (v767 : Value).ownBlock ∧ some k_ ≠ (v771 : Value).ownBlock ∧ some k_ ≠ (.slice Ao27 t754.length co27 : Value).ownBlock) (.slice (some ad769) t748.length co9) t748) := ⟨h3_⟩
           have n4_ : Aside0 (Kd.R k32 32 w34 w.heap.size (fun k_ => some k_ ≠ (v767 : Value).ownBlock ∧ some k_ ≠ (v771 : Value).ownBlock ∧ some k_ ≠ (.slice (some ad769) t748.length co9 : Value).ownBlock) (.slice Ao27 t754.length co27) t754) := ⟨h4_⟩
           have n5_ : Aside0 (Below w.heap.size w w34) := ⟨h5_⟩
           clear HO_3
           clear HO_4
           clear HO_6
           clear HB
           clear h0_ h1_ h2_ h3_ h4_ h5_
           have HO768 := n0_
           have HO772 := n1_
           have HO_3 := n2_
           have HO_4 := n3_
           have HO_6 := n4_
           have HB := n5_
           clear n0_ n1_ n2_ n3_ n4_ n5_
           have hHeld : w34.cell? (ad769.add ((t749).toNat * 2)) = some (.int .i64 ((rd_T32 t748 t749).f0)) ∧ w34.cell? ⟨(ad769.add ((t749).toNat * 2)).block, (ad769.add ((t749).toNat * 2)).off + 1, none⟩ = some (.int .i64 ((rd_T32 t748 t749).f1)) := hS_
           obtain ⟨Ao36, co36, eo36⟩ := Kd.R_slice HO772.out
           (first | subst eo36 | (injection eo36 with f1_ f2_ f3_; have f4_ := f1_.symm; have f5_ := f3_.symm; clear f1_ f2_ f3_; subst f4_; subst f5_))
           refine norm_ (a' := ?_) ?_ ?_
           rotate_left
           ·simp only [putAll, Act.put, List.setIfInBounds_toArray, List.set_cons_zero, List.set_cons_succ]
            rfl
           refine one_ (i := 8) (N := some 53) #[true, true, true, true, true, true, true, true, true, false] rfl rfl (one_of HT_.out (by kernel_rfl)) (by decide) (fun K hK => ?_)
           refine Kd.R_append_rows_step k32 (w0 := w) w.heap.size (by rfl) (.tmp 47) (.tmp 52) 24 32 (.agg #[(.int .i64 0), (.int .i64 0)]) 16 rfl Try.underlying24 info32 rfl (by decide) (by omega) v767 y766 y770 _ _ _ (fun k_ => some k_ ≠ (.slice (some ad769) t748.length co9 : Value).ownBlock ∧ some k_ ≠ (.slice Ao27 t754.length co27 : Value).ownBlock ∧ some k_ ≠ (.slice Ao36 y770.length co36 : Value).ownBlock) (fun _ => False) rfl rfl ?aO ?aR (fun _ _ h => h) (fun _ h => h.elim) ?aF ?aB ?aS ?aL ?_
           (case aR => repeat (first | exact (Kd.R_reads' HO772.out).2.2 | (with_reducible refine Kd.C_alloc ?_ _) | (with_reducible refine Kd.C_drewN ?_ _) | (with_reducible refine Kd.C_drew ?_)))
           (case aB => exact (by repeat (first | (with_reducible first | exact HB.out | apply below_alloc | apply pw_below_drewN | apply below_drew1) | exact HB.out)))
           (case aF => exact (fun k_ hk => ⟨Kd.fresh' (Kd.R_lt (by (with_reducible repeat (first | apply Kd.R_alloc | apply Kd.R_drewN | apply Kd.R_drew)); exact HO_4.out)) k_ hk, Kd.fresh' (Kd.R_lt (by (with_reducible repeat (first | apply Kd.R_alloc | apply Kd.R_drewN | apply Kd.R_drew)); exact HO_6.out)) k_ hk, Kd.fresh' (Kd.R_lt (by (with_reducible repeat (first | apply Kd.R_alloc | apply Kd.R_drewN | apply Kd.R_drew)); exact HO772.out)) k_ hk⟩))
           (case aO => exact (by (with_reducible repeat (first | apply Kd.R_alloc | apply Kd.R_drewN | apply Kd.R_drew)); exact Kd.R_mono HO768.out (fun _ hk => ⟨hk.2.1, ⟨hk.2.2, hk.1⟩⟩)))
           (case aS => exact (below_size (by repeat (first | (with_reducible first | exact HB.out | apply below_alloc | apply pw_below_drewN | apply below_drew1) | exact HB.out))))
           (case aL => have := LMc23.out; omega)
           intro v774 w35 ho hb hg hat
           rw [← Ny773.out] at ho
           have n0_ := Aside0.mk (Kd.S_over' (by (with_reducible repeat (first | apply Kd.S_alloc | apply Kd.S_drewN | apply Kd.S_drew)); exact HO_3.out) (Kd.R_typed (by (with_reducible repeat (first | apply Kd.R_alloc | apply Kd.R_drewN | apply Kd.R_drew)); exact HO768.out)) (by decide) hg)
           have n1_ := Aside0.mk (Kd.R_after (ok := (fun k_ => some k_ ≠ (.slice Ao27 t754.length co27 : Value).ownBlock ∧ some k_ ≠ (.slice Ao36 y770.length co36 : Value).ownBlock)) (by (with_reducible repeat (first | apply Kd.R_alloc | apply Kd.R_drewN | apply Kd.R_drew)); exact Kd.R_mono HO_4.out (fun _ hk => ⟨⟨hk.2.2, hk.2.1⟩, hk.1⟩)) hg hat)
           have n2_ := Aside0.mk (Kd.R_after (ok := (fun k_ => some k_ ≠ (.slice (some ad769) t748.length co9 : Value).ownBlock ∧ some k_ ≠ (.slice Ao36 y770.length co36 : Value).ownBlock)) (by (with_reducible repeat (first | apply Kd.R_alloc | apply Kd.R_drewN | apply Kd.R_drew)); exact Kd.R_mono HO_6.out (fun _ hk => ⟨⟨hk.2.2, hk.2.1⟩, hk.1⟩)) hg hat)
           have n3_ := Aside0.mk (Kd.R_after (ok := (fun k_ => some k_ ≠ (.slice (some ad769) t748.length co9 : Value).ownBlock ∧ some k_ ≠ (.slice Ao27 t754.length co27 : Value).ownBlock)) (by (with_reducible repeat (first | apply Kd.R_alloc | apply Kd.R_drewN | apply Kd.R_drew)); exact Kd.R_mono HO772.out (fun _ hk => ⟨⟨hk.2.1, hk.2.2⟩, hk.1⟩)) hg hat)
           have n4_ := Aside0.mk (hb)
           have n5_ := Aside0.mk (ho)
           clear HO_3
           clear HO_4
           clear HO_6
           clear HO772
           clear HB
           clear HO768
           have HO_3 := n0_
           have HO_4 := n1_
           have HO_6 := n2_
           have HO772 := n3_
           have HB := n4_
           have HO775 := n5_
           clear n0_ n1_ n2_ n3_ n4_ n5_
           clear ho hb hg hat
           obtain ⟨adz769_, ez769_, HZ769_0, HZ769_1⟩ := at_T32 (Kd.R_reads' HO_4.out).2.2 t749 (by first | exact p769 | exact of_eq_true p769) (by first | exact q769 | exact of_eq_true q769)
           obtain rfl := Option.some.inj ez769_
           refine hK.out _ _ ⟨HZ769_0, HZ769_1⟩ (fun hHeld => ?_)
           clear hK K
           refine norm_ (a' := ?_) ?_ ?_
           rotate_left
           ·show Act.put _ (some 53) _ = _
            simp only [Act.put, List.setIfInBounds_toArray, List.set_cons_zero, List.set_cons_succ, i64_w, i32_w]
            rfl
           refine pure_ (i := 9) (N := some 10) (v := ?_) (a' := ?_) #[true, true, true, true, true, true, true, true, true, true] rfl rfl (any_of HT_.out (by kernel_rfl)) (fun _ _ _ h => h) (Or.inl ⟨by rfl, ?_⟩) ?_ ?_
           rotate_left
           ·intro w'
            go_simp
            with_reducible rfl
           rotate_left
           ·simp only [Act.put, List.setIfInBounds_toArray, List.set_cons_zero, List.set_cons_succ, i64_w, i32_w]
            rfl
           refine done_ (done_of HT_.out (by kernel_rfl)) ?_
           try go_wp2_with (first | ((with_reducible refine gate_callee (f := 27) rfl ?_); refine goesL_ (some 56) rfl rfl Try.func27 (by kernel_rfl) rfl #[.slice Ao8 t747.length co8, .slice Ao27 t754.length co27] rfl (by (try simp only [List.map_toArray, List.map_cons, List.map_nil]); first | done | rfl | (simp only [List.length_drop, List.length_take]; rfl)) ?_; (with_reducible refine (impl_HistoryOk.calls kj5 _ _ t747 _ _ t754 true _ ?side1 ?side2 ?side3 ?side4 A24.out).mono ?_); (case side1 => repeat (first | exact (Kd.S_reads' HO_3.out).2.2 | (with_reducible refine Kd.C_alloc ?_ _) | (with_reducible refine Kd.C_drewN ?_ _) | (with_reducible refine Kd.C_drew ?_))); (case side2 => exact (Kd.S_reads' HO_3.out).2.1); (case side3 => repeat (first | exact (Kd.R_reads' HO_6.out).2.2 | (with_reducible refine Kd.C_alloc ?_ _) | (with_reducible refine Kd.C_drewN ?_ _) | (with_reducible refine Kd.C_drew ?_))); (case side4 => exact (Kd.R_reads' HO_6.out).2.1); rintro e w37 ⟨rfl, hb⟩; refine ⟨_, rfl, ?_⟩; have n0_ := Aside0.mk (Kd.S_below (by (with_reducible repeat (first | apply Kd.S_alloc | apply Kd.S_drewN | apply Kd.S_drew)); exact HO_3.out) hb); have n1_ := Aside0.mk (Kd.R_below (by (with_reducible repeat (first | apply Kd.R_alloc | apply Kd.R_drewN | apply Kd.R_drew)); exact HO_4.out) hb); have n2_ := Aside0.mk (Kd.R_below (by (with_reducible repeat (first | apply Kd.R_alloc | apply Kd.R_drewN | apply Kd.R_drew)); exact HO_6.out) hb); have n3_ := Aside0.mk (Kd.R_below (by (with_reducible repeat (first | apply Kd.R_alloc | apply Kd.R_drewN | apply Kd.R_drew)); exact HO772.out) hb); have n4_ := Aside0.mk (Kd.R_below (by (with_reducible repeat (first | apply Kd.R_alloc | apply Kd.R_drewN | apply Kd.R_drew)); exact HO775.out) hb); have n5_ := Aside0.mk (below_step (by repeat (first | (with_reducible first | exact HB.out | apply below_alloc | apply pw_below_drewN | apply below_drew1) | exact HB.out)) hb); clear HO_3; clear HO_4; clear HO_6; clear HO772; clear HO775; clear HB; have HO_3 := n0_; have HO_4 := n1_; have HO_6 := n2_; have HO772 := n3_; have HO775 := n4_; have HB := n5_; clear n0_ n1_ n2_ n3_ n4_ n5_; (try clear hb); (try clear hb2); (try clear hk); (try clear hi); obtain ⟨Ao38, co38, eo38⟩ := Kd.R_slice HO775.out; subst eo38) | (go_at_call 45; (with_reducible refine (impl_HistorySame.calls kj5 _ _ t747 _ _ y773 _ _ t748 t777 _ ?side1 ?side2 ?side3 ?side4 ?side5 ?side6 A26.out).mono ?_); (case side1 => repeat (first | exact (Kd.S_reads' HO_3.out).2.2 | (with_reducible refine Kd.C_alloc ?_ _) | (with_reducible refine Kd.C_drewN ?_ _) | (with_reducible refine Kd.C_drew ?_))); (case side2 => exact (Kd.S_reads' HO_3.out).2.1); (case side3 => repeat (first | exact (Kd.R_reads' HO775.out).2.2 | (with_reducible refine Kd.C_alloc ?_ _) | (with_reducible refine Kd.C_drewN ?_ _) | (with_reducible refine Kd.C_drew ?_))); (case side4 => exact (Kd.R_reads' HO775.out).2.1); (case side5 => repeat (first | exact (Kd.R_reads' HO_4.out).2.2 | (with_reducible refine Kd.C_alloc ?_ _) | (with_reducible refine Kd.C_drewN ?_ _) | (with_reducible refine Kd.C_drew ?_))); (case side6 => exact (Kd.R_reads' HO_4.out).2.1); rintro e w39 ⟨rfl, hb⟩; have n0_ := Aside0.mk (Kd.S_below (by (with_reducible repeat (first | apply Kd.S_alloc | apply Kd.S_drewN | apply Kd.S_drew)); exact HO_3.out) hb); have n1_ := Aside0.mk (Kd.R_below (by (with_reducible repeat (first | apply Kd.R_alloc | apply Kd.R_drewN | apply Kd.R_drew)); exact HO_4.out) hb); have n2_ := Aside0.mk (Kd.R_below (by (with_reducible repeat (first | apply Kd.R_alloc | apply Kd.R_drewN | apply Kd.R_drew)); exact HO_6.out) hb); have n3_ := Aside0.mk (Kd.R_below (by (with_reducible repeat (first | apply Kd.R_alloc | apply Kd.R_drewN | apply Kd.R_drew)); exact HO772.out) hb); have n4_ := Aside0.mk (Kd.R_below (by (with_reducible repeat (first | apply Kd.R_alloc | apply Kd.R_drewN | apply Kd.R_drew)); exact HO775.out) hb); have n5_ := Aside0.mk (below_step (by repeat (first | (with_reducible first | exact HB.out | apply below_alloc | apply pw_below_drewN | apply below_drew1) | exact HB.out)) hb); clear HO_3; clear HO_4; clear HO_6; clear HO772; clear HO775; clear HB; have HO_3 := n0_; have HO_4 := n1_; have HO_6 := n2_; have HO772 := n3_; have HO775 := n4_; have HB := n5_; clear n0_ n1_ n2_ n3_ n4_ n5_; (try clear hb); (try clear hb2); (try clear hk); (try clear hi)))
           go_ret
           exact ⟨by first | rfl | (simp [errW_none, errW_some] <;> rfl) | (simp [*, errW_none, errW_some] <;> rfl), by repeat (first | (with_reducible first | exact HB.out | apply below_alloc | apply pw_below_drewN | apply below_drew1) | exact HB.out)⟩
          ·replace c25 := Bool.eq_false_iff.mpr c25
           subst c25
           have H1 : (some false) = some r := by rw [if_neg (show ¬ (false = true) by decide)] at H; exact H
           clear H
           have H := H1
           clear H1
           obtain rfl := Option.some.inj H
           obtain ⟨Ao40, co40, eo40⟩ := Kd.R_slice HO_6.out
           subst eo40
           try go_wp2
           have n0_ := Aside0.mk (Kd.S_drew HO_3.out)
           have n1_ := Aside0.mk (Kd.R_drew HO_4.out)
           have n2_ := Aside0.mk (Kd.R_drew HO_6.out)
           have n3_ := Aside0.mk (below_drew1 HB.out)
           clear HO_3
           clear HO_4
           clear HO_6
           clear HB
           have HO_3 := n0_
           have HO_4 := n1_
           have HO_6 := n2_
           have HB := n3_
           clear n0_ n1_ n2_ n3_
           have p769 : 0 ≤ (t749 : Int) := of_decide_eq_true (by first | (with_reducible assumption) | assumption)
           have q769 : t749 < (t748.length : Int) := of_decide_eq_true (by first | (with_reducible assumption) | assumption)
           obtain ⟨ad769, e769, hx769_0, hx769_1⟩ := at_T32 (Kd.R_reads' HO_4.out).2.2 t749 p769 q769
           cases e769
           replace p769 := eq_true p769
           replace q769 := eq_true q769
           refine start_ (n := 10) (S := fun w' => w'.cell? (ad769.add ((t749).toNat * 2)) = some (.int .i64 ((rd_T32 t748 t749).f0)) ∧ w'.cell? ⟨(ad769.add ((t749).toNat * 2)).block, (ad769.add ((t749).toNat * 2)).off + 1, none⟩ = some (.int .i64 ((rd_T32 t748 t749).f1))) (ds := []) #[false, false, false, false, false, false, false, false, false, false] (by kernel_rfl) rfl rfl ⟨hx769_0, hx769_1⟩ (fun hHeld => ?_); refine with_tabW laws_FnHistoryUndo.tab10 laws_FnHistoryUndo.bits10 (fun HT_ HW_ => ?_)
           generalize wc.drew = w41 at HO_3 HO_4 HO_6 HB hx769_0 hx769_1 hHeld ⊢
           refine pure_ (i := 1) (N := some 46) (v := ?_) (a' := ?_) #[false, true, false, false, false, false, false, false, false, false] rfl rfl (any_of HT_.out (by kernel_rfl)) (fun _ _ _ h => h) (Or.inl ⟨by rfl, ?_⟩) ?_ ?_
           rotate_left
           ·intro w'
            go_simp
            with_reducible rfl
           rotate_left
           ·simp only [Act.put, List.setIfInBounds_toArray, List.set_cons_zero, List.set_cons_succ, i64_w, i32_w]
            rfl
           refine pure_ (i := 3) (N := some 48) (v := ?_) (a' := ?_) #[false, true, false, true, false, false, false, false, false, false] rfl rfl (any_of HT_.out (by kernel_rfl)) (fun _ _ _ h => h) (Or.inl ⟨by rfl, ?_⟩) ?_ ?_
           rotate_left
           ·intro w'
            go_simp
            with_reducible rfl
           rotate_left
           ·simp only [Act.put, List.setIfInBounds_toArray, List.set_cons_zero, List.set_cons_succ, i64_w, i32_w]
            rfl
           refine pure_ (i := 4) (N := some 49) (v := ?_) (a' := ?_) #[false, true, false, true, true, false, false, false, false, false] rfl rfl (any_of HT_.out (by kernel_rfl)) (fun _ _ _ h => h) (Or.inl ⟨by rfl, ?_⟩) ?_ ?_
           rotate_left
           ·intro w'
            go_simp
            with_reducible rfl
           rotate_left
           ·simp only [Act.put, List.setIfInBounds_toArray, List.set_cons_zero, List.set_cons_succ, i64_w, i32_w]
            rfl
           refine pure_ (i := 5) (N := some 50) (v := ?_) (a' := ?_) #[false, true, false, true, true, true, false, false, false, false] rfl rfl (any_of HT_.out (by kernel_rfl)) (fun _ _ _ h => h) (Or.inl ⟨by rfl, ?_⟩) ?_ ?_
           rotate_left
           ·intro w'
            go_simp
            with_reducible rfl
           rotate_left
           ·simp only [Act.put, List.setIfInBounds_toArray, List.set_cons_zero, List.set_cons_succ, i64_w, i32_w]
            rfl
           refine take_ (i := 6) (N := some 51) (v := ?_) (a' := ?_) #[false, true, false, true, true, true, true, false, false, false] rfl rfl (take_ofW HT_.out HW_.out (by kernel_rfl)) (fun _ _ _ h => h) (Or.inl ⟨by rfl, ?_⟩) hHeld ?_ ?_
           rotate_left
           ·rintro w' ⟨s0, s1⟩
            go_simp
            with_reducible rfl
           rotate_left
           ·simp only [Act.put, List.setIfInBounds_toArray, List.set_cons_zero, List.set_cons_succ, i64_w, i32_w]
            rfl
           refine join_ (σ := Value × Value × Value) 2 #[true, true, true, true, true, true, true, true, false, false] (fun s_ => [(45, s_.1), (47, s_.2.1), (52, s_.2.2)]) (fun s_ w' => (w'.cell? (ad769.add ((t749).toNat * 2)) = some (.int .i64 ((rd_T32 t748 t749).f0)) ∧ w'.cell? ⟨(ad769.add ((t749).toNat * 2)).block, (ad769.add ((t749).toNat * 2)).off + 1, none⟩ = some (.int .i64 ((rd_T32 t748 t749).f1))) ∧ (Kd.R k32 32 w' w.heap.size (fun k_ => some k_ ≠ (s_.2.2 : Value).ownBlock ∧ some k_ ≠ (.slice (some ad769) t748.length co9 : Value).ownBlock ∧ some k_ ≠ (.slice Ao40 t754.length co40 : Value).ownBlock) s_.2.1 y766) ∧ (Kd.R k32 32 w' w.heap.size (fun k_ => some k_ ≠ (s_.2.1 : Value).ownBlock ∧ some k_ ≠ (.slice (some ad769) t748.length co9 : Value).ownBlock ∧ some k_ ≠ (.slice Ao40 t754.length co40 : Value).ownBlock) s_.2.2 y770) ∧ (Kd.S (Kd.slice 3 (Kd.int .i64)) 27 w' w.heap.size (fun _ => True) (.slice Ao8 t747.length co8) t747) ∧ (Kd.R k32 32 w' w.heap.size (fun k_ => some k_ ≠ (s_.2.1 : Value).ownBlock ∧ some k_ ≠ (s_.2.2 : Value).ownBlock ∧ some k_ ≠ (.slice Ao40 t754.length co40 : Value).ownBlock) (.slice (some ad769) t748.length co9) t748) ∧ (Kd.R k32 32 w' w.heap.size (fun k_ => some k_ ≠ (s_.2.1 : Value).ownBlock ∧ some k_ ≠ (s_.2.2 : Value).ownBlock ∧ some k_ ≠ (.slice (some ad769) t748.length co9 : Value).ownBlock) (.slice Ao40 t754.length co40) t754) ∧ (Below w.heap.size w w')) ?_ ?_
           rotate_left
           ·intro hCont
            refine two_ (i := 0) (j := 7) (Ni := some 45) (Nj := some 52) #[true, true, false, true, true, true, true, false, false, false] #[false, true, false, true, true, true, true, true, false, false] rfl rfl rfl rfl (two_of HT_.out (by kernel_rfl)) (by decide) (by decide) (fun K hK => ?_) (fun K hK => ?_)
            ·skip
             refine Kd.R_lit_step k32 _ 32 ?hg (N := 45) ?hd (xs := ([] : List (S32))) (inner := []) (ok := fun _ => True) (okp := fun _ => True) ?hr ?hp (fun _ hk => hk) trivial (Below.refl _ _) (Nat.le_refl _) (by simp) ?_; (case hd => rfl); (case hg => rfl); (case hr => first | (go_simp; done) | (go_simp; rfl)); (case hp => exact (Reps.none _ _))
             intro v764 w42 ho43 hb hg_ hnew_
             have HS0_ := (hb.cell (World.block_lt_of_cell? _ _ (hHeld.1))).trans (hHeld.1)
             have HS1_ := (hb.cell (World.block_lt_of_cell? _ _ (hHeld.2))).trans (hHeld.2)
             clear hg_ hnew_
             (first | rw [← Ny763.out] at ho43 | (simp only [Int.reduceToNat] at ho43; rw [← Ny763.out] at ho43))
             have n0_ := Aside0.mk (Kd.S_below (by (with_reducible repeat (first | apply Kd.S_alloc | apply Kd.S_drewN | apply Kd.S_drew)); exact HO_3.out) hb)
             have n1_ := Aside0.mk (Kd.R_elder' (by (with_reducible repeat (first | apply Kd.R_alloc | apply Kd.R_drewN | apply Kd.R_drew)); exact HO_4.out) (Kd.R_base ho43) hb)
             have n2_ := Aside0.mk (Kd.R_elder' (by (with_reducible repeat (first | apply Kd.R_alloc | apply Kd.R_drewN | apply Kd.R_drew)); exact HO_6.out) (Kd.R_base ho43) hb)
             have n3_ := Aside0.mk (Kd.R_lower (Kd.R_new' (Kd.R_new' ho43 (Kd.R_lt (by (with_reducible repeat (first | apply Kd.R_alloc | apply Kd.R_drewN | apply Kd.R_drew)); exact HO_4.out))) (Kd.R_lt (by (with_reducible repeat (first | apply Kd.R_alloc | apply Kd.R_drewN | apply Kd.R_drew)); exact HO_6.out))) (below_size (by repeat (first | (with_reducible first | exact HB.out | apply below_alloc | apply pw_below_drewN | apply below_drew1) | exact HB.out))))
             have n4_ := Aside0.mk (below_step (by repeat (first | (with_reducible first | exact HB.out | apply below_alloc | apply pw_below_drewN | apply below_drew1) | exact HB.out)) hb)
             clear HO_3
             clear HO_4
             clear HO_6
             clear HB
             have HO_3 := n0_
             have HO_4 := n1_
             have HO_6 := n2_
             have HO765 := n3_
             have HB := n4_
             clear n0_ n1_ n2_ n3_ n4_
             clear hb ho43
             refine hK.out _ _ ⟨HS0_, HS1_⟩ (fun hHeld => ?_)
             clear hK K
             refine norm_ (a' := ?_) ?_ ?_
             rotate_left
             ·show Act.put _ (some 45) _ = _
              simp only [Act.put, List.setIfInBounds_toArray, List.set_cons_zero, List.set_cons_succ, i64_w, i32_w]
              rfl
             refine two_ (i := 2) (j := 7) (Ni := some 47) (Nj := some 52) #[true, true, true, true, true, true, true, false, false, false] #[true, true, false, true, true, true, true, true, false, false] rfl rfl rfl rfl (two_of HT_.out (by kernel_rfl)) (by decide) (by decide) (fun K hK => ?_) (fun K hK => ?_)
             ·skip
              refine Kd.R_append_rows_step k32 (w0 := w) w.heap.size (by rfl) (.tmp 45) (.tmp 46) 24 32 (.agg #[(.int .i64 0), (.int .i64 0)]) 16 rfl Try.underlying24 info32 rfl (by decide) (by omega) v764 y763 t754 _ _ _ (fun k_ => some k_ ≠ (.slice (some ad769) t748.length co9 : Value).ownBlock ∧ some k_ ≠ (.slice Ao40 t754.length co40 : Value).ownBlock) (fun _ => False) rfl rfl ?aO ?aR (fun _ _ h => h) (fun _ h => h.elim) ?aF ?aB ?aS ?aL ?_
              (case aR => repeat (first | exact (Kd.R_reads' HO_6.out).2.2 | (with_reducible refine Kd.C_alloc ?_ _) | (with_reducible refine Kd.C_drewN ?_ _) | (with_reducible refine Kd.C_drew ?_)))
              (case aB => exact (by repeat (first | (with_reducible first | exact HB.out | apply below_alloc | apply pw_below_drewN | apply below_drew1) | exact HB.out)))
              (case aF => exact (fun k_ hk => ⟨Kd.fresh' (Kd.R_lt (by (with_reducible repeat (first | apply Kd.R_alloc | apply Kd.R_drewN | apply Kd.R_drew)); exact HO_4.out)) k_ hk, Kd.fresh' (Kd.R_lt (by (with_reducible repeat (first | apply Kd.R_alloc | apply Kd.R_drewN | apply Kd.R_drew)); exact HO_6.out)) k_ hk⟩))
              (case aO => exact (by (with_reducible repeat (first | apply Kd.R_alloc | apply Kd.R_drewN | apply Kd.R_drew)); exact Kd.R_mono HO765.out (fun _ hk => ⟨hk.1.2, hk.2⟩)))
              (case aS => exact (below_size (by repeat (first | (with_reducible first | exact HB.out | apply below_alloc | apply pw_below_drewN | apply below_drew1) | exact HB.out))))
              (case aL => have := LMc20.out; omega)
              intro v767 w44 ho hb hg hat
              rw [← Ny766.out] at ho
              have n0_ := Aside0.mk (Kd.S_over' (by (with_reducible repeat (first | apply Kd.S_alloc | apply Kd.S_drewN | apply Kd.S_drew)); exact HO_3.out) (Kd.R_typed (by (with_reducible repeat (first | apply Kd.R_alloc | apply Kd.R_drewN | apply Kd.R_drew)); exact HO765.out)) (by decide) hg)
              have n1_ := Aside0.mk (Kd.R_after (ok := (fun k_ => some k_ ≠ (.slice Ao40 t754.length co40 : Value).ownBlock)) (by (with_reducible repeat (first | apply Kd.R_alloc | apply Kd.R_drewN | apply Kd.R_drew)); exact HO_4.out) hg hat)
              have n2_ := Aside0.mk (Kd.R_after (ok := (fun k_ => some k_ ≠ (.slice (some ad769) t748.length co9 : Value).ownBlock)) (by (with_reducible repeat (first | apply Kd.R_alloc | apply Kd.R_drewN | apply Kd.R_drew)); exact HO_6.out) hg hat)
              have n3_ := Aside0.mk (hb)
              have n4_ := Aside0.mk (ho)
              clear HO_3
              clear HO_4
              clear HO_6
              clear HB
              clear HO765
              have HO_3 := n0_
              have HO_4 := n1_
              have HO_6 := n2_
              have HB := n3_
              have HO768 := n4_
              clear n0_ n1_ n2_ n3_ n4_
              clear ho hb hg hat
              obtain ⟨adz769_, ez769_, HZ769_0, HZ769_1⟩ := at_T32 (Kd.R_reads' HO_4.out).2.2 t749 (by first | exact p769 | exact of_eq_true p769) (by first | exact q769 | exact of_eq_true q769)
              obtain rfl := Option.some.inj ez769_
              refine hK.out _ _ ⟨HZ769_0, HZ769_1⟩ (fun hHeld => ?_)
              clear hK K
              refine norm_ (a' := ?_) ?_ ?_
              rotate_left
              ·show Act.put _ (some 47) _ = _
               simp only [Act.put, List.setIfInBounds_toArray, List.set_cons_zero, List.set_cons_succ, i64_w, i32_w]
               rfl
              refine one_ (i := 7) (N := some 52) #[true, true, true, true, true, true, true, true, false, false] rfl rfl (one_of HT_.out (by kernel_rfl)) (by decide) (fun K hK => ?_)
              refine Kd.R_lit_step k32 _ 32 ?hg (N := 52) ?hd (xs := ([(⟨(rd_T32 t748 t749).f0, (rd_T32 t748 t749).f1⟩ : S32)] : List (S32))) (inner := [.int .i64 ((rd_T32 t748 t749).f0), .int .i64 ((rd_T32 t748 t749).f1)]) (ok := fun _ => True) (okp := fun _ => True) ?hr ?hp (fun _ hk => hk) trivial (Below.refl _ _) (Nat.le_refl _) (by simp) ?_; (case hd => rfl); (case hg => rfl); (case hr => first | (go_simp; done) | (go_simp; rfl)); (case hp => exact (Reps.c2 (show Kd.M k32 _ _ _ (⟨(rd_T32 t748 t749).f0, (rd_T32 t748 t749).f1⟩ : S32) [.int .i64 ((rd_T32 t748 t749).f0), .int .i64 ((rd_T32 t748 t749).f1)] from (k32_mkM _ _ _ (⟨(rd_T32 t748 t749).f0, (rd_T32 t748 t749).f1⟩ : S32) )) (Reps.none _ _)))
              intro v771 w45 ho46 hb hg_ hnew_
              have HS0_ := (hb.cell (World.block_lt_of_cell? _ _ (hHeld.1))).trans (hHeld.1)
              have HS1_ := (hb.cell (World.block_lt_of_cell? _ _ (hHeld.2))).trans (hHeld.2)
              clear hg_ hnew_
              (first | rw [← Ny770.out] at ho46 | (simp only [Int.reduceToNat] at ho46; rw [← Ny770.out] at ho46))
              have n0_ := Aside0.mk (Kd.S_below (by (with_reducible repeat (first | apply Kd.S_alloc | apply Kd.S_drewN | apply Kd.S_drew)); exact HO_3.out) hb)
              have n1_ := Aside0.mk (Kd.R_elder' (by (with_reducible repeat (first | apply Kd.R_alloc | apply Kd.R_drewN | apply Kd.R_drew)); exact HO_4.out) (Kd.R_base ho46) hb)
              have n2_ := Aside0.mk (Kd.R_elder' (by (with_reducible repeat (first | apply Kd.R_alloc | apply Kd.R_drewN | apply Kd.R_drew)); exact HO_6.out) (Kd.R_base ho46) hb)
              have n3_ := Aside0.mk (Kd.R_elder' (by (with_reducible repeat (first | apply Kd.R_alloc | apply Kd.R_drewN | apply Kd.R_drew)); exact HO768.out) (Kd.R_base ho46) hb)
              have n4_ := Aside0.mk (Kd.R_lower (Kd.R_new' (Kd.R_new' (Kd.R_new' ho46 (Kd.R_lt (by (with_reducible repeat (first | apply Kd.R_alloc | apply Kd.R_drewN | apply Kd.R_drew)); exact HO_4.out))) (Kd.R_lt (by (with_reducible repeat (first | apply Kd.R_alloc | apply Kd.R_drewN | apply Kd.R_drew)); exact HO_6.out))) (Kd.R_lt (by (with_reducible repeat (first | apply Kd.R_alloc | apply Kd.R_drewN | apply Kd.R_drew)); exact HO768.out))) (below_size (by repeat (first | (with_reducible first | exact HB.out | apply below_alloc | apply pw_below_drewN | apply below_drew1) | exact HB.out))))
              have n5_ := Aside0.mk (below_step (by repeat (first | (with_reducible first | exact HB.out | apply below_alloc | apply pw_below_drewN | apply below_drew1) | exact HB.out)) hb)
              clear HO_3
              clear HO_4
              clear HO_6
              clear HO768
              clear HB
              have HO_3 := n0_
              have HO_4 := n1_
              have HO_6 := n2_
              have HO768 := n3_
              have HO772 := n4_
              have HB := n5_
              clear n0_ n1_ n2_ n3_ n4_ n5_
              clear hb ho46
              refine hK.out _ _ ⟨HS0_, HS1_⟩ (fun hHeld => ?_)
              clear hK K
              refine norm_ (a' := ?_) ?_ ?_
              rotate_left
              ·show Act.put _ (some 52) _ = _
               simp only [Act.put, List.setIfInBounds_toArray, List.set_cons_zero, List.set_cons_succ, i64_w, i32_w]
               rfl
              exact norm_ (by simp only [putAll, Act.put, List.setIfInBounds_toArray, List.set_cons_zero, List.set_cons_succ]) (hCont (v764, v767, v771) _ ⟨hHeld, (by (with_reducible repeat (first | apply Kd.R_alloc | apply Kd.R_drewN | apply Kd.R_drew)); exact Kd.R_mono HO768.out (fun _ hk => ⟨hk.2, ⟨hk.1.1, hk.1.2⟩⟩)), (by (with_reducible repeat (first | apply Kd.R_alloc | apply Kd.R_drewN | apply Kd.R_drew)); exact Kd.R_mono HO772.out (fun _ hk => ⟨hk.2, ⟨hk.1.1.2, hk.1.2⟩⟩)), (by (with_reducible repeat (first | apply Kd.S_alloc | apply Kd.S_drewN | apply Kd.S_drew)); exact HO_3.out), (by (with_reducible repeat (first | apply Kd.R_alloc | apply Kd.R_drewN | apply Kd.R_drew)); exact Kd.R_mono HO_4.out (fun _ hk => ⟨hk.1.2, ⟨hk.2, hk.1.1⟩⟩)), (by (with_reducible repeat (first | apply Kd.R_alloc | apply Kd.R_drewN | apply Kd.R_drew)); exact Kd.R_mono HO_6.out (fun _ hk => ⟨hk.1.2, ⟨hk.2, hk.1.1⟩⟩)), (by repeat (first | (with_reducible first | exact HB.out | apply below_alloc | apply pw_below_drewN | apply below_drew1) | exact HB.out))⟩)
             ·skip
              refine Kd.R_lit_step k32 _ 32 ?hg (N := 52) ?hd (xs := ([(⟨(rd_T32 t748 t749).f0, (rd_T32 t748 t749).f1⟩ : S32)] : List (S32))) (inner := [.int .i64 ((rd_T32 t748 t749).f0), .int .i64 ((rd_T32 t748 t749).f1)]) (ok := fun _ => True) (okp := fun _ => True) ?hr ?hp (fun _ hk => hk) trivial (Below.refl _ _) (Nat.le_refl _) (by simp) ?_; (case hd => rfl); (case hg => rfl); (case hr => first | (go_simp; done) | (go_simp; rfl)); (case hp => exact (Reps.c2 (show Kd.M k32 _ _ _ (⟨(rd_T32 t748 t749).f0, (rd_T32 t748 t749).f1⟩ : S32) [.int .i64 ((rd_T32 t748 t749).f0), .int .i64 ((rd_T32 t748 t749).f1)] from (k32_mkM _ _ _ (⟨(rd_T32 t748 t749).f0, (rd_T32 t748 t749).f1⟩ : S32) )) (Reps.none _ _)))
              intro v771 w44 ho45 hb hg_ hnew_
              have HS0_ := (hb.cell (World.block_lt_of_cell? _ _ (hHeld.1))).trans (hHeld.1)
              have HS1_ := (hb.cell (World.block_lt_of_cell? _ _ (hHeld.2))).trans (hHeld.2)
              clear hg_ hnew_
              (first | rw [← Ny770.out] at ho45 | (simp only [Int.reduceToNat] at ho45; rw [← Ny770.out] at ho45))
              have n0_ := Aside0.mk (Kd.S_below (by (with_reducible repeat (first | apply Kd.S_alloc | apply Kd.S_drewN | apply Kd.S_drew)); exact HO_3.out) hb)
              have n1_ := Aside0.mk (Kd.R_elder' (by (with_reducible repeat (first | apply Kd.R_alloc | apply Kd.R_drewN | apply Kd.R_drew)); exact HO_4.out) (Kd.R_base ho45) hb)
              have n2_ := Aside0.mk (Kd.R_elder' (by (with_reducible repeat (first | apply Kd.R_alloc | apply Kd.R_drewN | apply Kd.R_drew)); exact HO_6.out) (Kd.R_base ho45) hb)
              have n3_ := Aside0.mk (Kd.R_elder' (by (with_reducible repeat (first | apply Kd.R_alloc | apply Kd.R_drewN | apply Kd.R_drew)); exact HO765.out) (Kd.R_base ho45) hb)
              have n4_ := Aside0.mk (Kd.R_lower (Kd.R_new' (Kd.R_new' (Kd.R_new' ho45 (Kd.R_lt (by (with_reducible repeat (first | apply Kd.R_alloc | apply Kd.R_drewN | apply Kd.R_drew)); exact HO_4.out))) (Kd.R_lt (by (with_reducible repeat (first | apply Kd.R_alloc | apply Kd.R_drewN | apply Kd.R_drew)); exact HO_6.out))) (Kd.R_lt (by (with_reducible repeat (first | apply Kd.R_alloc | apply Kd.R_drewN | apply Kd.R_drew)); exact HO765.out))) (below_size (by repeat (first | (with_reducible first | exact HB.out | apply below_alloc | apply pw_below_drewN | apply below_drew1) | exact HB.out))))
              have n5_ := Aside0.mk (below_step (by repeat (first | (with_reducible first | exact HB.out | apply below_alloc | apply pw_below_drewN | apply below_drew1) | exact HB.out)) hb)
              clear HO_3
              clear HO_4
              clear HO_6
              clear HO765
              clear HB
              have HO_3 := n0_
              have HO_4 := n1_
              have HO_6 := n2_
              have HO765 := n3_
              have HO772 := n4_
              have HB := n5_
              clear n0_ n1_ n2_ n3_ n4_ n5_
              clear hb ho45
              refine hK.out _ _ ⟨HS0_, HS1_⟩ (fun hHeld => ?_)
              clear hK K
              refine norm_ (a' := ?_) ?_ ?_
              rotate_left
              ·show Act.put _ (some 52) _ = _
               simp only [Act.put, List.setIfInBounds_toArray, List.set_cons_zero, List.set_cons_succ, i64_w, i32_w]
               rfl
              refine one_ (i := 2) (N := some 47) #[true, true, true, true, true, true, true, true, false, false] rfl rfl (one_of HT_.out (by kernel_rfl)) (by decide) (fun K hK => ?_)
              refine Kd.R_append_rows_step k32 (w0 := w) w.heap.size (by rfl) (.tmp 45) (.tmp 46) 24 32 (.agg #[(.int .i64 0), (.int .i64 0)]) 16 rfl Try.underlying24 info32 rfl (by decide) (by omega) v764 y763 t754 _ _ _ (fun k_ => some k_ ≠ (.slice (some ad769) t748.length co9 : Value).ownBlock ∧ some k_ ≠ (.slice Ao40 t754.length co40 : Value).ownBlock ∧ some k_ ≠ (v771 : Value).ownBlock) (fun _ => False) rfl rfl ?aO ?aR (fun _ _ h => h) (fun _ h => h.elim) ?aF ?aB ?aS ?aL ?_
              (case aR => repeat (first | exact (Kd.R_reads' HO_6.out).2.2 | (with_reducible refine Kd.C_alloc ?_ _) | (with_reducible refine Kd.C_drewN ?_ _) | (with_reducible refine Kd.C_drew ?_)))
              (case aB => exact (by repeat (first | (with_reducible first | exact HB.out | apply below_alloc | apply pw_below_drewN | apply below_drew1) | exact HB.out)))
              (case aF => exact (fun k_ hk => ⟨Kd.fresh' (Kd.R_lt (by (with_reducible repeat (first | apply Kd.R_alloc | apply Kd.R_drewN | apply Kd.R_drew)); exact HO_4.out)) k_ hk, Kd.fresh' (Kd.R_lt (by (with_reducible repeat (first | apply Kd.R_alloc | apply Kd.R_drewN | apply Kd.R_drew)); exact HO_6.out)) k_ hk, Kd.fresh' (Kd.R_lt (by (with_reducible repeat (first | apply Kd.R_alloc | apply Kd.R_drewN | apply Kd.R_drew)); exact HO772.out)) k_ hk⟩))
              (case aO => exact (by (with_reducible repeat (first | apply Kd.R_alloc | apply Kd.R_drewN | apply Kd.R_drew)); exact Kd.R_mono HO765.out (fun _ hk => ⟨hk.1.1.2, ⟨hk.1.2, hk.2⟩⟩)))
              (case aS => exact (below_size (by repeat (first | (with_reducible first | exact HB.out | apply below_alloc | apply pw_below_drewN | apply below_drew1) | exact HB.out))))
              (case aL => have := LMc20.out; omega)
              intro v767 w46 ho hb hg hat
              rw [← Ny766.out] at ho
              have n0_ := Aside0.mk (Kd.S_over' (by (with_reducible repeat (first | apply Kd.S_alloc | apply Kd.S_drewN | apply Kd.S_drew)); exact HO_3.out) (Kd.R_typed (by (with_reducible repeat (first | apply Kd.R_alloc | apply Kd.R_drewN | apply Kd.R_drew)); exact HO765.out)) (by decide) hg)
              have n1_ := Aside0.mk (Kd.R_after (ok := (fun k_ => some k_ ≠ (.slice Ao40 t754.length co40 : Value).ownBlock ∧ some k_ ≠ (v771 : Value).ownBlock)) (by (with_reducible repeat (first | apply Kd.R_alloc | apply Kd.R_drewN | apply Kd.R_drew)); exact Kd.R_mono HO_4.out (fun _ hk => ⟨⟨hk.1.1, hk.2⟩, hk.1.2⟩)) hg hat)
              have n2_ := Aside0.mk (Kd.R_after (ok := (fun k_ => some k_ ≠ (.slice (some ad769) t748.length co9 : Value).ownBlock ∧ some k_ ≠ (v771 : Value).ownBlock)) (by (with_reducible repeat (first | apply Kd.R_alloc | apply Kd.R_drewN | apply Kd.R_drew)); exact Kd.R_mono HO_6.out (fun _ hk => ⟨⟨hk.1.1, hk.2⟩, hk.1.2⟩)) hg hat)
              have n3_ := Aside0.mk (Kd.R_after (ok := (fun k_ => some k_ ≠ (.slice (some ad769) t748.length co9 : Value).ownBlock ∧ some k_ ≠ (.slice Ao40 t754.length co40 : Value).ownBlock)) (by (with_reducible repeat (first | apply Kd.R_alloc | apply Kd.R_drewN | apply Kd.R_drew)); exact Kd.R_mono HO772.out (fun _ hk => ⟨⟨hk.1.1.2, hk.1.2⟩, hk.2⟩)) hg hat)
              have n4_ := Aside0.mk (hb)
              have n5_ := Aside0.mk (ho)
              clear HO_3
              clear HO_4
              clear HO_6
              clear HO772
              clear HB
              clear HO765
              have HO_3 := n0_
              have HO_4 := n1_
              have HO_6 := n2_
              have HO772 := n3_
              have HB := n4_
              have HO768 := n5_
              clear n0_ n1_ n2_ n3_ n4_ n5_
              clear ho hb hg hat
              obtain ⟨adz769_, ez769_, HZ769_0, HZ769_1⟩ := at_T32 (Kd.R_reads' HO_4.out).2.2 t749 (by first | exact p769 | exact of_eq_true p769) (by first | exact q769 | exact of_eq_true q769)
              obtain rfl := Option.some.inj ez769_
              refine hK.out _ _ ⟨HZ769_0, HZ769_1⟩ (fun hHeld => ?_)
              clear hK K
              refine norm_ (a' := ?_) ?_ ?_
              rotate_left
              ·show Act.put _ (some 47) _ = _
               simp only [Act.put, List.setIfInBounds_toArray, List.set_cons_zero, List.set_cons_succ, i64_w, i32_w]
               rfl
              exact norm_ (by simp only [putAll, Act.put, List.setIfInBounds_toArray, List.set_cons_zero, List.set_cons_succ]) (hCont (v764, v767, v771) _ ⟨hHeld, (by (with_reducible repeat (first | apply Kd.R_alloc | apply Kd.R_drewN | apply Kd.R_drew)); exact Kd.R_mono HO768.out (fun _ hk => ⟨hk.2.2, ⟨hk.1, hk.2.1⟩⟩)), (by (with_reducible repeat (first | apply Kd.R_alloc | apply Kd.R_drewN | apply Kd.R_drew)); exact Kd.R_mono HO772.out (fun _ hk => ⟨hk.2, ⟨hk.1.1, hk.1.2⟩⟩)), (by (with_reducible repeat (first | apply Kd.S_alloc | apply Kd.S_drewN | apply Kd.S_drew)); exact HO_3.out), (by (with_reducible repeat (first | apply Kd.R_alloc | apply Kd.R_drewN | apply Kd.R_drew)); exact Kd.R_mono HO_4.out (fun _ hk => ⟨hk.2, ⟨hk.1.2, hk.1.1⟩⟩)), (by (with_reducible repeat (first | apply Kd.R_alloc | apply Kd.R_drewN | apply Kd.R_drew)); exact Kd.R_mono HO_6.out (fun _ hk => ⟨hk.2, ⟨hk.1.2, hk.1.1⟩⟩)), (by repeat (first | (with_reducible first | exact HB.out | apply below_alloc | apply pw_below_drewN | apply below_drew1) | exact HB.out))⟩)
            ·skip
             refine Kd.R_lit_step k32 _ 32 ?hg (N := 52) ?hd (xs := ([(⟨(rd_T32 t748 t749).f0, (rd_T32 t748 t749).f1⟩ : S32)] : List (S32))) (inner := [.int .i64 ((rd_T32 t748 t749).f0), .int .i64 ((rd_T32 t748 t749).f1)]) (ok := fun _ => True) (okp := fun _ => True) ?hr ?hp (fun _ hk => hk) trivial (Below.refl _ _) (Nat.le_refl _) (by simp) ?_; (case hd => rfl); (case hg => rfl); (case hr => first | (go_simp; done) | (go_simp; rfl)); (case hp => exact (Reps.c2 (show Kd.M k32 _ _ _ (⟨(rd_T32 t748 t749).f0, (rd_T32 t748 t749).f1⟩ : S32) [.int .i64 ((rd_T32 t748 t749).f0), .int .i64 ((rd_T32 t748 t749).f1)] from (k32_mkM _ _ _ (⟨(rd_T32 t748 t749).f0, (rd_T32 t748 t749).f1⟩ : S32) )) (Reps.none _ _)))
             intro v771 w42 ho43 hb hg_ hnew_
             have HS0_ := (hb.cell (World.block_lt_of_cell? _ _ (hHeld.1))).trans (hHeld.1)
             have HS1_ := (hb.cell (World.block_lt_of_cell? _ _ (hHeld.2))).trans (hHeld.2)
             clear hg_ hnew_
             (first | rw [← Ny770.out] at ho43 | (simp only [Int.reduceToNat] at ho43; rw [← Ny770.out] at ho43))
             have n0_ := Aside0.mk (Kd.S_below (by (with_reducible repeat (first | apply Kd.S_alloc | apply Kd.S_drewN | apply Kd.S_drew)); exact HO_3.out) hb)
             have n1_ := Aside0.mk (Kd.R_elder' (by (with_reducible repeat (first | apply Kd.R_alloc | apply Kd.R_drewN | apply Kd.R_drew)); exact HO_4.out) (Kd.R_base ho43) hb)
             have n2_ := Aside0.mk (Kd.R_elder' (by (with_reducible repeat (first | apply Kd.R_alloc | apply Kd.R_drewN | apply Kd.R_drew)); exact HO_6.out) (Kd.R_base ho43) hb)
             have n3_ := Aside0.mk (Kd.R_lower (Kd.R_new' (Kd.R_new' ho43 (Kd.R_lt (by (with_reducible repeat (first | apply Kd.R_alloc | apply Kd.R_drewN | apply Kd.R_drew)); exact HO_4.out))) (Kd.R_lt (by (with_reducible repeat (first | apply Kd.R_alloc | apply Kd.R_drewN | apply Kd.R_drew)); exact HO_6.out))) (below_size (by repeat (first | (with_reducible first | exact HB.out | apply below_alloc | apply pw_below_drewN | apply below_drew1) | exact HB.out))))
             have n4_ := Aside0.mk (below_step (by repeat (first | (with_reducible first | exact HB.out | apply below_alloc | apply pw_below_drewN | apply below_drew1) | exact HB.out)) hb)
             clear HO_3
             clear HO_4
             clear HO_6
             clear HB
             have HO_3 := n0_
             have HO_4 := n1_
             have HO_6 := n2_
             have HO772 := n3_
             have HB := n4_
             clear n0_ n1_ n2_ n3_ n4_
             clear hb ho43
             refine hK.out _ _ ⟨HS0_, HS1_⟩ (fun hHeld => ?_)
             clear hK K
             refine norm_ (a' := ?_) ?_ ?_
             rotate_left
             ·show Act.put _ (some 52) _ = _
              simp only [Act.put, List.setIfInBounds_toArray, List.set_cons_zero, List.set_cons_succ, i64_w, i32_w]
              rfl
             refine one_ (i := 0) (N := some 45) #[true, true, false, true, true, true, true, true, false, false] rfl rfl (one_of HT_.out (by kernel_rfl)) (by decide) (fun K hK => ?_)
             refine Kd.R_lit_step k32 _ 32 ?hg (N := 45) ?hd (xs := ([] : List (S32))) (inner := []) (ok := fun _ => True) (okp := fun _ => True) ?hr ?hp (fun _ hk => hk) trivial (Below.refl _ _) (Nat.le_refl _) (by simp) ?_; (case hd => rfl); (case hg => rfl); (case hr => first | (go_simp; done) | (go_simp; rfl)); (case hp => exact (Reps.none _ _))
             intro v764 w44 ho45 hb hg_ hnew_
             have HS0_ := (hb.cell (World.block_lt_of_cell? _ _ (hHeld.1))).trans (hHeld.1)
             have HS1_ := (hb.cell (World.block_lt_of_cell? _ _ (hHeld.2))).trans (hHeld.2)
             clear hg_ hnew_
             (first | rw [← Ny763.out] at ho45 | (simp only [Int.reduceToNat] at ho45; rw [← Ny763.out] at ho45))
             have n0_ := Aside0.mk (Kd.S_below (by (with_reducible repeat (first | apply Kd.S_alloc | apply Kd.S_drewN | apply Kd.S_drew)); exact HO_3.out) hb)
             have n1_ := Aside0.mk (Kd.R_elder' (by (with_reducible repeat (first | apply Kd.R_alloc | apply Kd.R_drewN | apply Kd.R_drew)); exact HO_4.out) (Kd.R_base ho45) hb)
             have n2_ := Aside0.mk (Kd.R_elder' (by (with_reducible repeat (first | apply Kd.R_alloc | apply Kd.R_drewN | apply Kd.R_drew)); exact HO_6.out) (Kd.R_base ho45) hb)
             have n3_ := Aside0.mk (Kd.R_elder' (by (with_reducible repeat (first | apply Kd.R_alloc | apply Kd.R_drewN | apply Kd.R_drew)); exact HO772.out) (Kd.R_base ho45) hb)
             have n4_ := Aside0.mk (Kd.R_lower (Kd.R_new' (Kd.R_new' (Kd.R_new' ho45 (Kd.R_lt (by (with_reducible repeat (first | apply Kd.R_alloc | apply Kd.R_drewN | apply Kd.R_drew)); exact HO_4.out))) (Kd.R_lt (by (with_reducible repeat (first | apply Kd.R_alloc | apply Kd.R_drewN | apply Kd.R_drew)); exact HO_6.out))) (Kd.R_lt (by (with_reducible repeat (first | apply Kd.R_alloc | apply Kd.R_drewN | apply Kd.R_drew)); exact HO772.out))) (below_size (by repeat (first | (with_reducible first | exact HB.out | apply below_alloc | apply pw_below_drewN | apply below_drew1) | exact HB.out))))
             have n5_ := Aside0.mk (below_step (by repeat (first | (with_reducible first | exact HB.out | apply below_alloc | apply pw_below_drewN | apply below_drew1) | exact HB.out)) hb)
             clear HO_3
             clear HO_4
             clear HO_6
             clear HO772
             clear HB
             have HO_3 := n0_
             have HO_4 := n1_
             have HO_6 := n2_
             have HO772 := n3_
             have HO765 := n4_
             have HB := n5_
             clear n0_ n1_ n2_ n3_ n4_ n5_
             clear hb ho45
             refine hK.out _ _ ⟨HS0_, HS1_⟩ (fun hHeld => ?_)
             clear hK K
             refine norm_ (a' := ?_) ?_ ?_
             rotate_left
             ·show Act.put _ (some 45) _ = _
              simp only [Act.put, List.setIfInBounds_toArray, List.set_cons_zero, List.set_cons_succ, i64_w, i32_w]
              rfl
             refine one_ (i := 2) (N := some 47) #[true, true, true, true, true, true, true, true, false, false] rfl rfl (one_of HT_.out (by kernel_rfl)) (by decide) (fun K hK => ?_)
             refine Kd.R_append_rows_step k32 (w0 := w) w.heap.size (by rfl) (.tmp 45) (.tmp 46) 24 32 (.agg #[(.int .i64 0), (.int .i64 0)]) 16 rfl Try.underlying24 info32 rfl (by decide) (by omega) v764 y763 t754 _ _ _ (fun k_ => some k_ ≠ (.slice (some ad769) t748.length co9 : Value).ownBlock ∧ some k_ ≠ (.slice Ao40 t754.length co40 : Value).ownBlock ∧ some k_ ≠ (v771 : Value).ownBlock) (fun _ => False) rfl rfl ?aO ?aR (fun _ _ h => h) (fun _ h => h.elim) ?aF ?aB ?aS ?aL ?_
             (case aR => repeat (first | exact (Kd.R_reads' HO_6.out).2.2 | (with_reducible refine Kd.C_alloc ?_ _) | (with_reducible refine Kd.C_drewN ?_ _) | (with_reducible refine Kd.C_drew ?_)))
             (case aB => exact (by repeat (first | (with_reducible first | exact HB.out | apply below_alloc | apply pw_below_drewN | apply below_drew1) | exact HB.out)))
             (case aF => exact (fun k_ hk => ⟨Kd.fresh' (Kd.R_lt (by (with_reducible repeat (first | apply Kd.R_alloc | apply Kd.R_drewN | apply Kd.R_drew)); exact HO_4.out)) k_ hk, Kd.fresh' (Kd.R_lt (by (with_reducible repeat (first | apply Kd.R_alloc | apply Kd.R_drewN | apply Kd.R_drew)); exact HO_6.out)) k_ hk, Kd.fresh' (Kd.R_lt (by (with_reducible repeat (first | apply Kd.R_alloc | apply Kd.R_drewN | apply Kd.R_drew)); exact HO772.out)) k_ hk⟩))
             (case aO => exact (by (with_reducible repeat (first | apply Kd.R_alloc | apply Kd.R_drewN | apply Kd.R_drew)); exact Kd.R_mono HO765.out (fun _ hk => ⟨hk.1.1.2, ⟨hk.1.2, hk.2⟩⟩)))
             (case aS => exact (below_size (by repeat (first | (with_reducible first | exact HB.out | apply below_alloc | apply pw_below_drewN | apply below_drew1) | exact HB.out))))
             (case aL => have := LMc20.out; omega)
             intro v767 w46 ho hb hg hat
             rw [← Ny766.out] at ho
             have n0_ := Aside0.mk (Kd.S_over' (by (with_reducible repeat (first | apply Kd.S_alloc | apply Kd.S_drewN | apply Kd.S_drew)); exact HO_3.out) (Kd.R_typed (by (with_reducible repeat (first | apply Kd.R_alloc | apply Kd.R_drewN | apply Kd.R_drew)); exact HO765.out)) (by decide) hg)
             have n1_ := Aside0.mk (Kd.R_after (ok := (fun k_ => some k_ ≠ (.slice Ao40 t754.length co40 : Value).ownBlock ∧ some k_ ≠ (v771 : Value).ownBlock)) (by (with_reducible repeat (first | apply Kd.R_alloc | apply Kd.R_drewN | apply Kd.R_drew)); exact HO_4.out) hg hat)
             have n2_ := Aside0.mk (Kd.R_after (ok := (fun k_ => some k_ ≠ (.slice (some ad769) t748.length co9 : Value).ownBlock ∧ some k_ ≠ (v771 : Value).ownBlock)) (by (with_reducible repeat (first | apply Kd.R_alloc | apply Kd.R_drewN | apply Kd.R_drew)); exact HO_6.out) hg hat)
             have n3_ := Aside0.mk (Kd.R_after (ok := (fun k_ => some k_ ≠ (.slice (some ad769) t748.length co9 : Value).ownBlock ∧ some k_ ≠ (.slice Ao40 t754.length co40 : Value).ownBlock)) (by (with_reducible repeat (first | apply Kd.R_alloc | apply Kd.R_drewN | apply Kd.R_drew)); exact Kd.R_mono HO772.out (fun _ hk => ⟨⟨hk.1.1.2, hk.1.2⟩, hk.2⟩)) hg hat)
             have n4_ := Aside0.mk (hb)
             have n5_ := Aside0.mk (ho)
             clear HO_3
             clear HO_4
             clear HO_6
             clear HO772
             clear HB
             clear HO765
             have HO_3 := n0_
             have HO_4 := n1_
             have HO_6 := n2_
             have HO772 := n3_
             have HB := n4_
             have HO768 := n5_
             clear n0_ n1_ n2_ n3_ n4_ n5_
             clear ho hb hg hat
             obtain ⟨adz769_, ez769_, HZ769_0, HZ769_1⟩ := at_T32 (Kd.R_reads' HO_4.out).2.2 t749 (by first | exact p769 | exact of_eq_true p769) (by first | exact q769 | exact of_eq_true q769)
             obtain rfl := Option.some.inj ez769_
             refine hK.out _ _ ⟨HZ769_0, HZ769_1⟩ (fun hHeld => ?_)
             clear hK K
             refine norm_ (a' := ?_) ?_ ?_
             rotate_left
             ·show Act.put _ (some 47) _ = _
              simp only [Act.put, List.setIfInBounds_toArray, List.set_cons_zero, List.set_cons_succ, i64_w, i32_w]
              rfl
             exact norm_ (by simp only [putAll, Act.put, List.setIfInBounds_toArray, List.set_cons_zero, List.set_cons_succ]) (hCont (v764, v767, v771) _ ⟨hHeld, (by (with_reducible repeat (first | apply Kd.R_alloc | apply Kd.R_drewN | apply Kd.R_drew)); exact Kd.R_mono HO768.out (fun _ hk => ⟨hk.2.2, ⟨hk.1, hk.2.1⟩⟩)), (by (with_reducible repeat (first | apply Kd.R_alloc | apply Kd.R_drewN | apply Kd.R_drew)); exact Kd.R_mono HO772.out (fun _ hk => ⟨hk.2, ⟨hk.1.1, hk.1.2⟩⟩)), (by (with_reducible repeat (first | apply Kd.S_alloc | apply Kd.S_drewN | apply Kd.S_drew)); exact HO_3.out), (by (with_reducible repeat (first | apply Kd.R_alloc | apply Kd.R_drewN | apply Kd.R_drew)); exact Kd.R_mono HO_4.out (fun _ hk => ⟨hk.2, ⟨hk.1.2, hk.1.1⟩⟩)), (by (with_reducible repeat (first | apply Kd.R_alloc | apply Kd.R_drewN | apply Kd.R_drew)); exact Kd.R_mono HO_6.out (fun _ hk => ⟨hk.2, ⟨hk.1.2, hk.1.1⟩⟩)), (by repeat (first | (with_reducible first | exact HB.out | apply below_alloc | apply pw_below_drewN | apply below_drew1) | exact HB.out))⟩)
           rintro ⟨v764, v767, v771⟩ w47 ⟨hS_, h0_, h1_, h2_, h3_, h4_, h5_⟩
           have n0_ : Aside0 (Kd.R k32 32 w47 w.heap.size (fun k_ => some k_ ≠ (v771 : Value).ownBlock ∧ some k_ ≠ (.slice (some ad769) t748.length co9 : Value).ownBlock ∧ some k_ ≠ (.slice Ao40 t754.length co40 : Value).ownBlock) v767 y766) := ⟨h0_⟩
           have n1_ : Aside0 (Kd.R k32 32 w47 w.heap.size (fun k_ => some k_ ≠ (v767 : Value).ownBlock ∧ some k_ ≠ (.slice (some ad769) t748.length co9 : Value).ownBlock ∧ some k_ ≠ (.slice Ao40 t754.length co40 : Value).ownBlock) v771 y770) := ⟨h1_⟩
           have n2_ : Aside0 (Kd.S (Kd.slice 3 (Kd.int .i64)) 27 w47 w.heap.size (fun _ => True) (.slice Ao8 t747.length co8) t747) := ⟨h2_⟩
           have n3_ : Aside0 (Kd.R k32 32 w47 w.heap.size (fun k_ => some k_ ≠ (v767 : Value).ownBlock ∧ some k_ ≠ (v771 : Value).ownBlock ∧ some k_ ≠ (.slice Ao40 t754.length co40 : Value).ownBlock) (.slice (some ad769) t748.length co9) t748) := ⟨h3_⟩
           have n4_ : Aside0 (Kd.R k32 32 w47 w.heap.size (fun k_ => some k_ ≠ (v767 : Value).ownBlock ∧ some k_ ≠ (v771 : Value).ownBlock ∧ some k_ ≠ (.slice (some ad769) t748.length co9 : Value).ownBlock) (.slice Ao40 t754.length co40) t754) := ⟨h4_⟩
           have n5_ : Aside0 (Below w.heap.size w w47) := ⟨h5_⟩
           clear HO_3
           clear HO_4
           clear HO_6
           clear HB
           clear h0_ h1_ h2_ h3_ h4_ h5_
           have HO768 := n0_
           have HO772 := n1_
           have HO_3 := n2_
           have HO_4 := n3_
           have HO_6 := n4_
           have HB := n5_
           clear n0_ n1_ n2_ n3_ n4_ n5_
           have hHeld : w47.cell? (ad769.add ((t749).toNat * 2)) = some (.int .i64 ((rd_T32 t748 t749).f0)) ∧ w47.cell? ⟨(ad769.add ((t749).toNat * 2)).block, (ad769.add ((t749).toNat * 2)).off + 1, none⟩ = some (.int .i64 ((rd_T32 t748 t749).f1)) := hS_
           obtain ⟨Ao49, co49, eo49⟩ := Kd.R_slice HO772.out
           (first | subst eo49 | (injection eo49 with f1_ f2_ f3_; have f4_ := f1_.symm; have f5_ := f3_.symm; clear f1_ f2_ f3_; subst f4_; subst f5_))
           refine norm_ (a' := ?_) ?_ ?_
           rotate_left
           ·simp only [putAll, Act.put, List.setIfInBounds_toArray, List.set_cons_zero, List.set_cons_succ]
            rfl
           refine one_ (i := 8) (N := some 53) #[true, true, true, true, true, true, true, true, true, false] rfl rfl (one_of HT_.out (by kernel_rfl)) (by decide) (fun K hK => ?_)
           refine Kd.R_append_rows_step k32 (w0 := w) w.heap.size (by rfl) (.tmp 47) (.tmp 52) 24 32 (.agg #[(.int .i64 0), (.int .i64 0)]) 16 rfl Try.underlying24 info32 rfl (by decide) (by omega) v767 y766 y770 _ _ _ (fun k_ => some k_ ≠ (.slice (some ad769) t748.length co9 : Value).ownBlock ∧ some k_ ≠ (.slice Ao40 t754.length co40 : Value).ownBlock ∧ some k_ ≠ (.slice Ao49 y770.length co49 : Value).ownBlock) (fun _ => False) rfl rfl ?aO ?aR (fun _ _ h => h) (fun _ h => h.elim) ?aF ?aB ?aS ?aL ?_
           (case aR => repeat (first | exact (Kd.R_reads' HO772.out).2.2 | (with_reducible refine Kd.C_alloc ?_ _) | (with_reducible refine Kd.C_drewN ?_ _) | (with_reducible refine Kd.C_drew ?_)))
           (case aB => exact (by repeat (first | (with_reducible first | exact HB.out | apply below_alloc | apply pw_below_drewN | apply below_drew1) | exact HB.out)))
           (case aF => exact (fun k_ hk => ⟨Kd.fresh' (Kd.R_lt (by (with_reducible repeat (first | apply Kd.R_alloc | apply Kd.R_drewN | apply Kd.R_drew)); exact HO_4.out)) k_ hk, Kd.fresh' (Kd.R_lt (by (with_reducible repeat (first | apply Kd.R_alloc | apply Kd.R_drewN | apply Kd.R_drew)); exact HO_6.out)) k_ hk, Kd.fresh' (Kd.R_lt (by (with_reducible repeat (first | apply Kd.R_alloc | apply Kd.R_drewN | apply Kd.R_drew)); exact HO772.out)) k_ hk⟩))
           (case aO => exact (by (with_reducible repeat (first | apply Kd.R_alloc | apply Kd.R_drewN | apply Kd.R_drew)); exact Kd.R_mono HO768.out (fun _ hk => ⟨hk.2.1, ⟨hk.2.2, hk.1⟩⟩)))
           (case aS => exact (below_size (by repeat (first | (with_reducible first | exact HB.out | apply below_alloc | apply pw_below_drewN | apply below_drew1) | exact HB.out))))
           (case aL => have := LMc23.out; omega)
           intro v774 w48 ho hb hg hat
           rw [← Ny773.out] at ho
           have n0_ := Aside0.mk (Kd.S_over' (by (with_reducible repeat (first | apply Kd.S_alloc | apply Kd.S_drewN | apply Kd.S_drew)); exact HO_3.out) (Kd.R_typed (by (with_reducible repeat (first | apply Kd.R_alloc | apply Kd.R_drewN | apply Kd.R_drew)); exact HO768.out)) (by decide) hg)
           have n1_ := Aside0.mk (Kd.R_after (ok := (fun k_ => some k_ ≠ (.slice Ao40 t754.length co40 : Value).ownBlock ∧ some k_ ≠ (.slice Ao49 y770.length co49 : Value).ownBlock)) (by (with_reducible repeat (first | apply Kd.R_alloc | apply Kd.R_drewN | apply Kd.R_drew)); exact Kd.R_mono HO_4.out (fun _ hk => ⟨⟨hk.2.2, hk.2.1⟩, hk.1⟩)) hg hat)
           have n2_ := Aside0.mk (Kd.R_after (ok := (fun k_ => some k_ ≠ (.slice (some ad769) t748.length co9 : Value).ownBlock ∧ some k_ ≠ (.slice Ao49 y770.length co49 : Value).ownBlock)) (by (with_reducible repeat (first | apply Kd.R_alloc | apply Kd.R_drewN | apply Kd.R_drew)); exact Kd.R_mono HO_6.out (fun _ hk => ⟨⟨hk.2.2, hk.2.1⟩, hk.1⟩)) hg hat)
           have n3_ := Aside0.mk (Kd.R_after (ok := (fun k_ => some k_ ≠ (.slice (some ad769) t748.length co9 : Value).ownBlock ∧ some k_ ≠ (.slice Ao40 t754.length co40 : Value).ownBlock)) (by (with_reducible repeat (first | apply Kd.R_alloc | apply Kd.R_drewN | apply Kd.R_drew)); exact Kd.R_mono HO772.out (fun _ hk => ⟨⟨hk.2.1, hk.2.2⟩, hk.1⟩)) hg hat)
           have n4_ := Aside0.mk (hb)
           have n5_ := Aside0.mk (ho)
           clear HO_3
           clear HO_4
           clear HO_6
           clear HO772
           clear HB
           clear HO768
           have HO_3 := n0_
           have HO_4 := n1_
           have HO_6 := n2_
           have HO772 := n3_
           have HB := n4_
           have HO775 := n5_
           clear n0_ n1_ n2_ n3_ n4_ n5_
           clear ho hb hg hat
           obtain ⟨adz769_, ez769_, HZ769_0, HZ769_1⟩ := at_T32 (Kd.R_reads' HO_4.out).2.2 t749 (by first | exact p769 | exact of_eq_true p769) (by first | exact q769 | exact of_eq_true q769)
           obtain rfl := Option.some.inj ez769_
           refine hK.out _ _ ⟨HZ769_0, HZ769_1⟩ (fun hHeld => ?_)
           clear hK K
           refine norm_ (a' := ?_) ?_ ?_
           rotate_left
           ·show Act.put _ (some 53) _ = _
            simp only [Act.put, List.setIfInBounds_toArray, List.set_cons_zero, List.set_cons_succ, i64_w, i32_w]
            rfl
           refine pure_ (i := 9) (N := some 10) (v := ?_) (a' := ?_) #[true, true, true, true, true, true, true, true, true, true] rfl rfl (any_of HT_.out (by kernel_rfl)) (fun _ _ _ h => h) (Or.inl ⟨by rfl, ?_⟩) ?_ ?_
           rotate_left
           ·intro w'
            go_simp
            with_reducible rfl
           rotate_left
           ·simp only [Act.put, List.setIfInBounds_toArray, List.set_cons_zero, List.set_cons_succ, i64_w, i32_w]
            rfl
           refine done_ (done_of HT_.out (by kernel_rfl)) ?_
           try go_wp2_with (first | ((with_reducible refine gate_callee (f := 27) rfl ?_); refine goesL_ (some 56) rfl rfl Try.func27 (by kernel_rfl) rfl #[.slice Ao8 t747.length co8, .slice Ao40 t754.length co40] rfl (by (try simp only [List.map_toArray, List.map_cons, List.map_nil]); first | done | rfl | (simp only [List.length_drop, List.length_take]; rfl)) ?_; (with_reducible refine (impl_HistoryOk.calls kj5 _ _ t747 _ _ t754 false _ ?side1 ?side2 ?side3 ?side4 A24.out).mono ?_); (case side1 => repeat (first | exact (Kd.S_reads' HO_3.out).2.2 | (with_reducible refine Kd.C_alloc ?_ _) | (with_reducible refine Kd.C_drewN ?_ _) | (with_reducible refine Kd.C_drew ?_))); (case side2 => exact (Kd.S_reads' HO_3.out).2.1); (case side3 => repeat (first | exact (Kd.R_reads' HO_6.out).2.2 | (with_reducible refine Kd.C_alloc ?_ _) | (with_reducible refine Kd.C_drewN ?_ _) | (with_reducible refine Kd.C_drew ?_))); (case side4 => exact (Kd.R_reads' HO_6.out).2.1); rintro e w50 ⟨rfl, hb⟩; refine ⟨_, rfl, ?_⟩; have n0_ := Aside0.mk (Kd.S_below (by (with_reducible repeat (first | apply Kd.S_alloc | apply Kd.S_drewN | apply Kd.S_drew)); exact HO_3.out) hb); have n1_ := Aside0.mk (Kd.R_below (by (with_reducible repeat (first | apply Kd.R_alloc | apply Kd.R_drewN | apply Kd.R_drew)); exact HO_4.out) hb); have n2_ := Aside0.mk (Kd.R_below (by (with_reducible repeat (first | apply Kd.R_alloc | apply Kd.R_drewN | apply Kd.R_drew)); exact HO_6.out) hb); have n3_ := Aside0.mk (Kd.R_below (by (with_reducible repeat (first | apply Kd.R_alloc | apply Kd.R_drewN | apply Kd.R_drew)); exact HO772.out) hb); have n4_ := Aside0.mk (Kd.R_below (by (with_reducible repeat (first | apply Kd.R_alloc | apply Kd.R_drewN | apply Kd.R_drew)); exact HO775.out) hb); have n5_ := Aside0.mk (below_step (by repeat (first | (with_reducible first | exact HB.out | apply below_alloc | apply pw_below_drewN | apply below_drew1) | exact HB.out)) hb); clear HO_3; clear HO_4; clear HO_6; clear HO772; clear HO775; clear HB; have HO_3 := n0_; have HO_4 := n1_; have HO_6 := n2_; have HO772 := n3_; have HO775 := n4_; have HB := n5_; clear n0_ n1_ n2_ n3_ n4_ n5_; (try clear hb); (try clear hb2); (try clear hk); (try clear hi)))
           go_ret
           exact ⟨by first | rfl | (simp [errW_none, errW_some] <;> rfl) | (simp [*, errW_none, errW_some] <;> rfl), by repeat (first | (with_reducible first | exact HB.out | apply below_alloc | apply pw_below_drewN | apply below_drew1) | exact HB.out)⟩
         ·rw [if_neg c23] at H
          exact absurd H (by simp)
        ·rw [if_neg c22] at H
         exact absurd H (by simp)
       ·rw [if_neg c21] at H
        exact absurd H (by simp)
      ·rw [if_neg c20] at H
       exact absurd H (by simp)
     ·replace c19 := Bool.eq_false_iff.mpr c19
      subst c19
      have H1 : (some true) = some r := by rw [if_neg (show ¬ (false = true) by decide)] at H; exact H
      clear H
      have H := H1
      clear H1
      obtain rfl := Option.some.inj H
      go_wp2
      go_ret
      exact ⟨by first | rfl | (simp [errW_none, errW_some] <;> rfl) | (simp [*, errW_none, errW_some] <;> rfl), by repeat (first | (with_reducible first | exact HB.out | apply below_alloc | apply pw_below_drewN | apply below_drew1) | exact HB.out)⟩
def laws_FnHistoryUndo.Pure : Prop := ∀ (l0 : List Int), l0.length ≤ maxLen → l0.length * 1 ≤ 140737488351232 → (∀ x ∈ l0, (Lit.int .u8 x).wf = true) → ∃ k, laws_FnHistoryUndo.f k l0 = some true
theorem laws_FnHistoryUndo.walk (P : laws_FnHistoryUndo.Pure) (a0 : Option Addr) (len0 cap0 : Nat) (z0 : List Int) (w : World) (w0 : (a0 = none ∧ len0 = 0 ∧ cap0 = 0 ∧ z0 = []) ∨ ∃ x, a0 = some x ∧ len0 ≤ cap0 ∧ cap0 ≤ maxLen ∧ z0.length = cap0 ∧ (∀ i, i < z0.length → w.cell? (x.add i) = some (.int .u8 (z0.getD i 0))) ∧ ∀ n ∈ z0, (Lit.int .u8 n).wf = true) (y0 : len0 * 1 ≤ 140737488351232) :
  Calls Try.prog 13 #[.slice a0 len0 cap0] w fun e w' => e = .returned (.bool true) ∧ Below w.heap.size w w' := by
 obtain ⟨l0, rfl, hr0, hm0, hw0, hc0⟩ := ReadsInt.ofRowC w0
 obtain ⟨k, h⟩ := P l0 hm0 y0 hw0
 refine (laws_FnHistoryUndo.calls k _ _ l0 true w (Kd.C_of_reads (d := (0 : Int)) (h1 := fun _ => rfl) hr0) hc0 h).mono ?_
 rintro e w' ⟨rfl, hd⟩
 exact ⟨rfl, hd⟩
end Go.Proofs.Ythljlnkanllpnaa.P
