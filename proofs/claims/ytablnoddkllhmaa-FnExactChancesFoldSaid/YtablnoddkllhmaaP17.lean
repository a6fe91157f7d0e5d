/- What the Go functions that the laws reach compute, and that their calls come to just that: told by a program of this session (aprint.py). No condition. -/
import Derived.Test.YtablnoddkllhmaaP0
import Derived.Test.YtablnoddkllhmaaP1
import Derived.Test.YtablnoddkllhmaaP10
import Derived.Test.YtablnoddkllhmaaP11
namespace Go.Proofs.Ytablnoddkllhmaa.P
open Go.RowKit Go.Proofs.YtablnoddkllhmaaW.PrintWords Go.Proofs.YtablnoddkllhmaaW.PrintLast Go.Proofs.YtablnoddkllhmaaW.PrintMore
attribute [local go_sem] max2_int min2_int max_two min_two max_three min_three max_four min_four   -- for this text's walks alone
set_option linter.unusedVariables false
set_option linter.unusedSimpArgs false

/-! ### spec_ChancesFold: function 35 -/
mutual
def spec_ChancesFold.l0 : Nat → List Int → Int → List Int → List (List Int) → List Int → List (List Int) → Option (List Int × (List (List Int)) × Bool)
  | 0, _, _, _, _, _, _ => none
  | k + 1, x4, x6, x628000, x628001, x634000, x634001 => if x6 < (x4.length : Int) then (if 0 ≤ x6 then (if (rd x4 x6) = x6 then (spec_ChancesFold.l1 k x4 x6 (([] : List Int)) 0 x628000 x628001 x634000 x634001) else (spec_ChancesFold.l0 k x4 (wrap64 (x6 + 1)) x628000 x628001 x634000 x634001)) else (none)) else (some (x634000, x634001, true))
def spec_ChancesFold.l1 : Nat → List Int → Int → List Int → Int → List Int → List (List Int) → List Int → List (List Int) → Option (List Int × (List (List Int)) × Bool)
  | 0, _, _, _, _, _, _, _, _ => none
  | k + 1, x4, x6, x7, x8, x628000, x628001, x634000, x634001 => if x8 < (x4.length : Int) then (if 0 ≤ x8 then (if (rd x4 x8) = x8 then ((spec_l18Into.f k x628000 x628001 x6 x4 x8).bind fun t639 => (if x7.length < 17592186044416 then (spec_ChancesFold.l1 k x4 x6 (x7 ++ [t639]) (wrap64 (x8 + 1)) x628000 x628001 x634000 x634001) else (none))) else (spec_ChancesFold.l1 k x4 x6 x7 (wrap64 (x8 + 1)) x628000 x628001 x634000 x634001)) else (none)) else (if 0 ≤ x6 then (if x6 < (x628000.length : Int) then (if x634000.length < 17592186044416 then (if x634001.length < 5864062014805 then (spec_ChancesFold.l0 k x4 (wrap64 (x6 + 1)) x628000 x628001 (x634000 ++ [rd x628000 x6]) (x634001 ++ [x7])) else (none)) else (none)) else (none)) else (none))
end
def spec_ChancesFold.f (k : Nat) (l0_0 : List Int) (l0_1 : List (List Int)) : Option (List Int × (List (List Int)) × Bool) := (spec_ChancesOk.f k l0_0 l0_1).bind fun t629 => (if t629 = true then ((spec_l18Classes.f k l0_0 l0_1).bind fun t630 => (spec_ChancesFold.l0 k t630 0 l0_0 l0_1 ([] : List Int) ([] : List (List Int)))) else (some (([] : List Int), ([] : List (List Int)), false)))
theorem spec_ChancesFold.mono_l : ∀ k, (∀ y0 y1 y2 y3 y4 y5, LeO (spec_ChancesFold.l0 k y0 y1 y2 y3 y4 y5) (spec_ChancesFold.l0 (k + 1) y0 y1 y2 y3 y4 y5)) ∧ (∀ y0 y1 y2 y3 y4 y5 y6 y7, LeO (spec_ChancesFold.l1 k y0 y1 y2 y3 y4 y5 y6 y7) (spec_ChancesFold.l1 (k + 1) y0 y1 y2 y3 y4 y5 y6 y7))
  | 0 => ⟨fun _ _ _ _ _ _ r h => by simp [spec_ChancesFold.l0] at h, fun _ _ _ _ _ _ _ _ r h => by simp [spec_ChancesFold.l1] at h⟩
  | k + 1 => by
    obtain ⟨ih0, ih1⟩ := spec_ChancesFold.mono_l k
    refine ⟨?_, ?_⟩
    · intro y0 y1 y2 y3 y4 y5
      unfold spec_ChancesFold.l0
      repeat' first
      | (with_reducible exact ih0 _ _ _ _ _ _)
      | (with_reducible exact ih1 _ _ _ _ _ _ _ _)
      | (with_reducible exact spec_ChancesOk.mono _ _ _)
      | (with_reducible exact spec_l18Classes.mono _ _ _)
      | (with_reducible exact spec_l18Into.mono _ _ _ _ _ _)
      | (with_reducible exact LeO.refl _)
      | (with_reducible exact LeO.none _)
      | (with_reducible refine LeO.ite ?_ ?_)
      | (with_reducible refine LeO.bind ?_ (fun _ => ?_))
      | exact ih0 _ _ _ _ _ _
      | exact ih1 _ _ _ _ _ _ _ _
      | exact spec_ChancesOk.mono _ _ _
      | exact spec_l18Classes.mono _ _ _
      | exact spec_l18Into.mono _ _ _ _ _ _
      | exact LeO.none _
      | refine LeO.ite ?_ ?_
      | refine LeO.bind ?_ (fun _ => ?_)
    · intro y0 y1 y2 y3 y4 y5 y6 y7
      unfold spec_ChancesFold.l1
      repeat' first
      | (with_reducible exact ih0 _ _ _ _ _ _)
      | (with_reducible exact ih1 _ _ _ _ _ _ _ _)
      | (with_reducible exact spec_ChancesOk.mono _ _ _)
      | (with_reducible exact spec_l18Classes.mono _ _ _)
      | (with_reducible exact spec_l18Into.mono _ _ _ _ _ _)
      | (with_reducible exact LeO.refl _)
      | (with_reducible exact LeO.none _)
      | (with_reducible refine LeO.ite ?_ ?_)
      | (with_reducible refine LeO.bind ?_ (fun _ => ?_))
      | exact ih0 _ _ _ _ _ _
      | exact ih1 _ _ _ _ _ _ _ _
      | exact spec_ChancesOk.mono _ _ _
      | exact spec_l18Classes.mono _ _ _
      | exact spec_l18Into.mono _ _ _ _ _ _
      | exact LeO.none _
      | refine LeO.ite ?_ ?_
      | refine LeO.bind ?_ (fun _ => ?_)
theorem spec_ChancesFold.mono : ∀ a0 a1 k, LeO (spec_ChancesFold.f k a0 a1) (spec_ChancesFold.f (k + 1) a0 a1) := by
  intro a0 a1 k
  obtain ⟨ih0, ih1⟩ := spec_ChancesFold.mono_l k
  unfold spec_ChancesFold.f
  repeat' first
      | (with_reducible exact ih0 _ _ _ _ _ _)
      | (with_reducible exact ih1 _ _ _ _ _ _ _ _)
      | (with_reducible exact spec_ChancesOk.mono _ _ _)
      | (with_reducible exact spec_l18Classes.mono _ _ _)
      | (with_reducible exact spec_l18Into.mono _ _ _ _ _ _)
      | (with_reducible exact LeO.refl _)
      | (with_reducible exact LeO.none _)
      | (with_reducible refine LeO.ite ?_ ?_)
      | (with_reducible refine LeO.bind ?_ (fun _ => ?_))
      | exact ih0 _ _ _ _ _ _
      | exact ih1 _ _ _ _ _ _ _ _
      | exact spec_ChancesOk.mono _ _ _
      | exact spec_l18Classes.mono _ _ _
      | exact spec_l18Into.mono _ _ _ _ _ _
      | exact LeO.none _
      | refine LeO.ite ?_ ?_
      | refine LeO.bind ?_ (fun _ => ?_)
def spec_ChancesFold.T15 : Bool × List (List Nat × List Nat) := (true, [([], []), ([0], [0]), ([], []), ([2], [2]), ([], []), ([3, 4], [3, 4]), ([5], [5]), ([6], [6]), ([1, 7], [1, 7]), ([0, 1, 2, 3, 4, 5, 6, 7, 8], []), ([9, 8, 8, 0, 1, 2, 3, 4, 5, 6, 7, 8], [8, 9])])
def spec_ChancesFold.B15 : List Nat := [0, 1, 0, 4, 0, 28, 60, 124, 255, 511, 1023]
theorem spec_ChancesFold.tab15 : rtab .any (opsOf Try.f35 15) = spec_ChancesFold.T15 := by kernel_rfl
theorem spec_ChancesFold.bits15 : waitsOk spec_ChancesFold.T15.2 spec_ChancesFold.B15 = true := by kernel_rfl
set_option maxHeartbeats 8000000 in
set_option maxRecDepth 100000 in
theorem spec_ChancesFold.calls (k : Nat) (A0_0 : Option Addr) (c0_0 : Nat) (l0_0 : List Int) (A0_1 : Option Addr) (c0_1 : Nat) (l0_1 : List (List Int)) (r1 : List Int) (r2 : List (List Int)) (r3 : Bool) (w : World) (hr0_0 : Kd.C (Kd.int .i64) w A0_0 l0_0.length l0_0) (hc0_0 : l0_0.length ≤ c0_0) (hr0_1 : Kd.C (Kd.slice 3 (Kd.int .i64)) w A0_1 l0_1.length l0_1) (hc0_1 : l0_1.length ≤ c0_1) (h : spec_ChancesFold.f k l0_0 l0_1 = some (r1, r2, r3)) :
    Calls Try.prog 35 #[.agg #[.slice A0_0 l0_0.length c0_0, .slice A0_1 l0_1.length c0_1]] w fun e w' => ∃ v0_ v1_ : Value, e = .returned (.tuple #[.agg #[v0_, v1_], .bool r3]) ∧ Kd.R (Kd.int .i64) 3 w' w.heap.size (fun _ => True) v0_ r1 ∧ Kd.S (Kd.slice 3 (Kd.int .i64)) 22 w' w.heap.size (fun k_ => some k_ ≠ (v0_ : Value).ownBlock) v1_ r2 ∧ Below w.heap.size w w' := by
  have hu28 := Try.underlying28
  have HR0_0 := Aside0.mk hr0_0
  have HC0_0 := Aside0.mk hc0_0
  clear hr0_0 hc0_0
  have HR0_1 := Aside0.mk hr0_1
  have HC0_1 := Aside0.mk hc0_1
  clear hr0_1 hc0_1
  have HB := Aside0.mk (Below.refl w.heap.size w)
  have H : ((spec_ChancesOk.f k l0_0 l0_1).bind fun t629 => (if t629 = true then ((spec_l18Classes.f k l0_0 l0_1).bind fun t630 => (spec_ChancesFold.l0 k t630 0 l0_0 l0_1 ([] : List Int) ([] : List (List Int)))) else (some (([] : List Int), ([] : List (List Int)), false)))) = some (r1, r2, r3) := h
  clear h
  replace H := Option.bind_eq_some_iff.mp H
  obtain ⟨t629, A20, H⟩ := H
  replace H : (if t629 = true then ((spec_l18Classes.f k l0_0 l0_1).bind fun t630 => (spec_ChancesFold.l0 k t630 0 l0_0 l0_1 ([] : List Int) ([] : List (List Int)))) else (some (([] : List Int), ([] : List (List Int)), false))) = some (r1, r2, r3) := H
  have A2 := Aside0.mk A20
  clear A20
  by_cases c3 : t629 = true
  · subst c3
    have H1 : ((spec_l18Classes.f k l0_0 l0_1).bind fun t630 => (spec_ChancesFold.l0 k t630 0 l0_0 l0_1 ([] : List Int) ([] : List (List Int)))) = some (r1, r2, r3) := by rw [if_pos rfl] at H; exact H
    clear H
    have H := H1
    clear H1
    replace H := Option.bind_eq_some_iff.mp H
    obtain ⟨t630, A40, H⟩ := H
    replace H : (spec_ChancesFold.l0 k t630 0 l0_0 l0_1 ([] : List Int) ([] : List (List Int))) = some (r1, r2, r3) := H
    have A4 := Aside0.mk A40
    clear A40
    have H' := Aside0.mk H
    clear H
    go_enter Try.func35, Try.ntmps35
    go_wp2_with (first | ((with_reducible refine gate_dst (N := 1) rfl ?_); refine box_event ?hg (N := 1) ?hd (cs := #[.slice A0_0 l0_0.length c0_0, .slice A0_1 l0_1.length c0_1]) (t := 28) ?hr ?_; (case hd => rfl); (case hg => rfl); (case hr => first | (go_simp; done) | (go_simp; rfl)); intro gb627 hg w5 hbox hb; have n0_ := Aside0.mk (below_step (by repeat (first | (with_reducible first | exact HB.out | apply below_alloc | apply pw_below_drewN | apply below_drew1) | exact HB.out)) hb); have n1_ := Aside0.mk (hbox); have n2_ := Aside0.mk ((by rw [hg]; exact (below_size (by repeat (first | (with_reducible first | exact HB.out | apply below_alloc | apply pw_below_drewN | apply below_drew1) | exact HB.out))) : w.heap.size ≤ gb627)); have n3_ := Aside0.mk ((by rw [hg]; exact (below_size (by repeat (first | (with_reducible first | exact HB.out | apply below_alloc | apply pw_below_drewN | apply below_drew1) | exact HB.out))) : w.heap.size ≤ gb627)); clear HB; have HB := n0_; have BK627 := n1_; have GW627 := n2_; have GE627 := n3_; clear n0_ n1_ n2_ n3_; clear hb hbox hg) | ((with_reducible refine gate_dst (N := 2) rfl ?_); refine box_event ?hg (N := 2) ?hd (cs := #[.slice none 0 0, .slice none 0 0]) (t := 28) ?hr ?_; (case hd => rfl); (case hg => rfl); (case hr => first | (go_simp; done) | (go_simp; rfl)); intro gb628 hg w6 hbox hb; have n0_ := Aside0.mk (blk_below (g := gb627) (o := .cells #[.slice A0_0 l0_0.length c0_0, .slice A0_1 l0_1.length c0_1] 28 (0, 0)) (by (with_reducible repeat (first | refine blk_drewN ?_ _ | refine blk_drew ?_ | refine blk_alloc ?_ _)); exact BK627.out) hb); have n1_ := Aside0.mk (below_step (by repeat (first | (with_reducible first | exact HB.out | apply below_alloc | apply pw_below_drewN | apply below_drew1 | refine below_set ?_ GE627.out) | exact HB.out)) hb); have n2_ := Aside0.mk (hbox); have n3_ := Aside0.mk ((by rw [hg]; exact (below_size (by repeat (first | (with_reducible first | exact HB.out | apply below_alloc | apply pw_below_drewN | apply below_drew1 | refine below_set ?_ GE627.out) | exact HB.out))) : w.heap.size ≤ gb628)); have n4_ := Aside0.mk ((by rw [hg]; exact (below_size (by repeat (first | (with_reducible first | exact HB.out | apply below_alloc | apply pw_below_drewN | apply below_drew1 | refine below_set ?_ GE627.out) | exact HB.out))) : w.heap.size ≤ gb628)); have n5_ := Aside0.mk ((by rw [hg]; exact Nat.ne_of_lt (blk_lt (g := gb627) (o := .cells #[.slice A0_0 l0_0.length c0_0, .slice A0_1 l0_1.length c0_1] 28 (0, 0)) (by (with_reducible repeat (first | refine blk_drewN ?_ _ | refine blk_drew ?_ | refine blk_alloc ?_ _)); exact BK627.out)) : gb627 ≠ gb628)); have n6_ := Aside0.mk ((by rw [hg]; exact Nat.ne_of_gt (blk_lt (g := gb627) (o := .cells #[.slice A0_0 l0_0.length c0_0, .slice A0_1 l0_1.length c0_1] 28 (0, 0)) (by (with_reducible repeat (first | refine blk_drewN ?_ _ | refine blk_drew ?_ | refine blk_alloc ?_ _)); exact BK627.out)) : gb628 ≠ gb627)); clear BK627; clear HB; have BK627 := n0_; have HB := n1_; have BK628 := n2_; have GW628 := n3_; have GE628 := n4_; have NB627_628 := n5_; have NB628_627 := n6_; clear n0_ n1_ n2_ n3_ n4_ n5_ n6_; clear hb hbox hg; have hnb7 := NB627_628.out; have hnc7 := NB628_627.out; have hcz8_0 : w6.cell? ⟨gb627, 0, none⟩ = some (.slice A0_0 l0_0.length c0_0) := (blk_cell BK627.out 0).trans rfl; have hcz8_1 : w6.cell? ⟨gb627, 1, none⟩ = some (.slice A0_1 l0_1.length c0_1) := (blk_cell BK627.out 1).trans rfl; have hfz8_0 := blk_frozen BK627.out 0; have hfz8_1 := blk_frozen BK627.out 1) | ((with_reducible refine gate_callee (f := 14) rfl ?_); refine goesL_ (some 10) rfl rfl Try.func14 (by kernel_rfl) rfl #[.agg #[.slice A0_0 l0_0.length c0_0, .slice A0_1 l0_1.length c0_1]] rfl (by (try simp only [List.map_toArray, List.map_cons, List.map_nil]); first | done | rfl | (simp only [List.length_drop, List.length_take]; rfl)) ?_; (with_reducible refine (spec_ChancesOk.calls k _ _ l0_0 _ _ l0_1 true _ ?side1 ?side2 ?side3 ?side4 A2.out).mono ?_); (case side1 => repeat (first | exact (Kd.C_below HR0_0.out HB.out) | (with_reducible refine Kd.C_alloc ?_ _) | (with_reducible refine Kd.C_drewN ?_ _) | (with_reducible refine Kd.C_drew ?_))); (case side2 => exact HC0_0.out); (case side3 => repeat (first | exact (Kd.C_below HR0_1.out HB.out) | (with_reducible refine Kd.C_alloc ?_ _) | (with_reducible refine Kd.C_drewN ?_ _) | (with_reducible refine Kd.C_drew ?_))); (case side4 => exact HC0_1.out); rintro e w9 ⟨rfl, hb⟩; refine ⟨_, rfl, ?_⟩; have n0_ := Aside0.mk (blk_below (g := gb627) (o := .cells #[.slice A0_0 l0_0.length c0_0, .slice A0_1 l0_1.length c0_1] 28 (0, 0)) (by (with_reducible repeat (first | refine blk_drewN ?_ _ | refine blk_drew ?_ | refine blk_alloc ?_ _)); exact BK627.out) hb); have n1_ := Aside0.mk (blk_below (g := gb628) (o := .cells #[.slice none 0 0, .slice none 0 0] 28 (0, 0)) (by (with_reducible repeat (first | refine blk_drewN ?_ _ | refine blk_drew ?_ | refine blk_alloc ?_ _)); exact BK628.out) hb); have n2_ := Aside0.mk (below_step (by repeat (first | (with_reducible first | exact HB.out | apply below_alloc | apply pw_below_drewN | apply below_drew1 | refine below_set ?_ GE627.out | refine below_set ?_ GE628.out) | exact HB.out)) hb); clear BK627; clear BK628; clear HB; have BK627 := n0_; have BK628 := n1_; have HB := n2_; clear n0_ n1_ n2_; (try clear hb); (try clear hb2); (try clear hk); (try clear hi); have hcz10_0 : w9.cell? ⟨gb627, 0, none⟩ = some (.slice A0_0 l0_0.length c0_0) := (blk_cell BK627.out 0).trans rfl; have hcz10_1 : w9.cell? ⟨gb627, 1, none⟩ = some (.slice A0_1 l0_1.length c0_1) := (blk_cell BK627.out 1).trans rfl; have hfz10_0 := blk_frozen BK627.out 0; have hfz10_1 := blk_frozen BK627.out 1) | ((with_reducible refine gate_callee (f := 56) rfl ?_); refine goesL_ (some 14) rfl rfl Try.func56 (by kernel_rfl) rfl #[.agg #[.slice A0_0 l0_0.length c0_0, .slice A0_1 l0_1.length c0_1]] rfl (by (try simp only [List.map_toArray, List.map_cons, List.map_nil]); first | done | rfl | (simp only [List.length_drop, List.length_take]; rfl)) ?_; (with_reducible refine (spec_l18Classes.calls k _ _ l0_0 _ _ l0_1 t630 _ ?side1 ?side2 ?side3 ?side4 A4.out).mono ?_); (case side1 => repeat (first | exact (Kd.C_below HR0_0.out HB.out) | (with_reducible refine Kd.C_alloc ?_ _) | (with_reducible refine Kd.C_drewN ?_ _) | (with_reducible refine Kd.C_drew ?_))); (case side2 => exact HC0_0.out); (case side3 => repeat (first | exact (Kd.C_below HR0_1.out HB.out) | (with_reducible refine Kd.C_alloc ?_ _) | (with_reducible refine Kd.C_drewN ?_ _) | (with_reducible refine Kd.C_drew ?_))); (case side4 => exact HC0_1.out); rintro e w11 ⟨v631, rfl, ho0, hb⟩; refine ⟨_, rfl, ?_⟩; have n0_ := Aside0.mk (Kd.R_lower ho0 (below_size (by repeat (first | (with_reducible first | exact HB.out | apply below_alloc | apply pw_below_drewN | apply below_drew1 | refine below_set ?_ GE627.out | refine below_set ?_ GE628.out) | exact HB.out)))); have n1_ := Aside0.mk (blk_below (g := gb627) (o := .cells #[.slice A0_0 l0_0.length c0_0, .slice A0_1 l0_1.length c0_1] 28 (0, 0)) (by (with_reducible repeat (first | refine blk_drewN ?_ _ | refine blk_drew ?_ | refine blk_alloc ?_ _)); exact BK627.out) hb); have n2_ := Aside0.mk (blk_below (g := gb628) (o := .cells #[.slice none 0 0, .slice none 0 0] 28 (0, 0)) (by (with_reducible repeat (first | refine blk_drewN ?_ _ | refine blk_drew ?_ | refine blk_alloc ?_ _)); exact BK628.out) hb); have n3_ := Aside0.mk (below_step (by repeat (first | (with_reducible first | exact HB.out | apply below_alloc | apply pw_below_drewN | apply below_drew1 | refine below_set ?_ GE627.out | refine below_set ?_ GE628.out) | exact HB.out)) hb); clear BK627; clear BK628; clear HB; have HO632 := n0_; have BK627 := n1_; have BK628 := n2_; have HB := n3_; clear n0_ n1_ n2_ n3_; (try clear hb); (try clear hb2); (try clear hk); (try clear hi); (try clear ho0)) | ((with_reducible refine gate_dst (N := 5) rfl ?_); refine box_event ?hg (N := 5) ?hd (cs := #[.slice none 0 0, .slice none 0 0]) (t := 28) ?hr ?_; (case hd => rfl); (case hg => rfl); (case hr => first | (go_simp; done) | (go_simp; rfl)); intro gb633 hg w12 hbox hb; have n0_ := Aside0.mk (Kd.R_below (by (with_reducible repeat (first | apply Kd.R_alloc | apply Kd.R_drewN | apply Kd.R_drew)); exact HO632.out) hb); have n1_ := Aside0.mk (blk_below (g := gb627) (o := .cells #[.slice A0_0 l0_0.length c0_0, .slice A0_1 l0_1.length c0_1] 28 (0, 0)) (by (with_reducible repeat (first | refine blk_drewN ?_ _ | refine blk_drew ?_ | refine blk_alloc ?_ _)); exact BK627.out) hb); have n2_ := Aside0.mk (blk_below (g := gb628) (o := .cells #[.slice none 0 0, .slice none 0 0] 28 (0, 0)) (by (with_reducible repeat (first | refine blk_drewN ?_ _ | refine blk_drew ?_ | refine blk_alloc ?_ _)); exact BK628.out) hb); have n3_ := Aside0.mk (below_step (by repeat (first | (with_reducible first | exact HB.out | apply below_alloc | apply pw_below_drewN | apply below_drew1 | refine below_set ?_ GE627.out | refine below_set ?_ GE628.out) | exact HB.out)) hb); have n4_ := Aside0.mk (hbox); have n5_ := Aside0.mk ((by rw [hg]; exact (below_size (by repeat (first | (with_reducible first | exact HB.out | apply below_alloc | apply pw_below_drewN | apply below_drew1 | refine below_set ?_ GE627.out | refine below_set ?_ GE628.out) | exact HB.out))) : w.heap.size ≤ gb633)); have n6_ := Aside0.mk ((by rw [hg]; exact (below_size (by repeat (first | (with_reducible first | exact HB.out | apply below_alloc | apply pw_below_drewN | apply below_drew1 | refine below_set ?_ GE627.out | refine below_set ?_ GE628.out) | exact HB.out))) : w.heap.size ≤ gb633)); have n7_ := Aside0.mk ((by rw [hg]; exact Nat.ne_of_lt (blk_lt (g := gb627) (o := .cells #[.slice A0_0 l0_0.length c0_0, .slice A0_1 l0_1.length c0_1] 28 (0, 0)) (by (with_reducible repeat (first | refine blk_drewN ?_ _ | refine blk_drew ?_ | refine blk_alloc ?_ _)); exact BK627.out)) : gb627 ≠ gb633)); have n8_ := Aside0.mk ((by rw [hg]; exact Nat.ne_of_gt (blk_lt (g := gb627) (o := .cells #[.slice A0_0 l0_0.length c0_0, .slice A0_1 l0_1.length c0_1] 28 (0, 0)) (by (with_reducible repeat (first | refine blk_drewN ?_ _ | refine blk_drew ?_ | refine blk_alloc ?_ _)); exact BK627.out)) : gb633 ≠ gb627)); have n9_ := Aside0.mk ((by rw [hg]; exact Nat.ne_of_lt (blk_lt (g := gb628) (o := .cells #[.slice none 0 0, .slice none 0 0] 28 (0, 0)) (by (with_reducible repeat (first | refine blk_drewN ?_ _ | refine blk_drew ?_ | refine blk_alloc ?_ _)); exact BK628.out)) : gb628 ≠ gb633)); have n10_ := Aside0.mk ((by rw [hg]; exact Nat.ne_of_gt (blk_lt (g := gb628) (o := .cells #[.slice none 0 0, .slice none 0 0] 28 (0, 0)) (by (with_reducible repeat (first | refine blk_drewN ?_ _ | refine blk_drew ?_ | refine blk_alloc ?_ _)); exact BK628.out)) : gb633 ≠ gb628)); clear HO632; clear BK627; clear BK628; clear HB; have HO632 := n0_; have BK627 := n1_; have BK628 := n2_; have HB := n3_; have BK633 := n4_; have GW633 := n5_; have GE633 := n6_; have NB627_633 := n7_; have NB633_627 := n8_; have NB628_633 := n9_; have NB633_628 := n10_; clear n0_ n1_ n2_ n3_ n4_ n5_ n6_ n7_ n8_ n9_ n10_; clear hb hbox hg; have hnb13 := NB633_627.out; have hnc13 := NB627_633.out; have hnb14 := NB633_628.out; have hnc14 := NB628_633.out; have hcz15_0 : w12.cell? ⟨gb633, 0, none⟩ = some (.slice none 0 0) := (blk_cell BK633.out 0).trans rfl; have hcz15_1 : w12.cell? ⟨gb633, 1, none⟩ = some (.slice none 0 0) := (blk_cell BK633.out 1).trans rfl; have hfz15_0 := blk_frozen BK633.out 0; have hfz15_1 := blk_frozen BK633.out 1))
    go_loopg [6] k (fun kq v6 w' => ∃ (x6_1 : Int) (x634000_1 : List Int) (x634001_1 : List (List Int)) (u634000 : Value) (u634001 : Value), v6 = .int .i64 x6_1 ∧ Aside0 (spec_ChancesFold.l0 kq t630 x6_1 l0_0 l0_1 x634000_1 x634001_1 = some (r1, r2, r3)) ∧ Aside0 (kq ≤ k) ∧ Aside0 (Kd.R (Kd.int .i64) 3 w' w.heap.size (fun k_ => some k_ ≠ (u634000 : Value).ownBlock) v631 t630) ∧ Aside0 (Kd.R (Kd.int .i64) 3 w' w.heap.size (fun k_ => some k_ ≠ (v631 : Value).ownBlock) u634000 x634000_1) ∧ Aside0 (Kd.S (Kd.slice 3 (Kd.int .i64)) 22 w' w.heap.size (fun k_ => some k_ ≠ (v631 : Value).ownBlock ∧ some k_ ≠ (u634000 : Value).ownBlock) u634001 x634001_1) ∧ Aside0 (w'.heap[gb627]? = some (.cells #[(.slice A0_0 l0_0.length c0_0), (.slice A0_1 l0_1.length c0_1)] 28 (0, 0))) ∧ Aside0 (w'.heap[gb628]? = some (.cells #[(.slice none 0 0), (.slice none 0 0)] 28 (0, 0))) ∧ Aside0 (w'.heap[gb633]? = some (.cells #[u634000, u634001] 28 (0, 0))) ∧ Aside0 (Below w.heap.size w w'))
    case atStart => exact ⟨(0), (([] : List Int)), (([] : List (List Int))), (.slice none 0 0), (.slice none 0 0), (by first | rfl | (simp; done) | (simp [*]; done)), H', ⟨Nat.le_refl _⟩, ⟨by (with_reducible repeat (first | apply Kd.R_alloc | apply Kd.R_drewN | apply Kd.R_drew)); exact Kd.R_mono (Kd.R_far (p := ⟨gb633, 1, none⟩) (Kd.R_far (p := ⟨gb633, 0, none⟩) (Kd.R_types HO632.out BK633.out (by decide)) (fun _ hk => hk.2) (.slice none 0 0)) (fun _ hk => hk.2) (.slice none 0 0)) (fun _ hk => (by simp [Value.ownBlock]))⟩, ⟨by first | exact Kd.R_nil _ _ _ _ _ | exact Kd.N_nil _ _ _ _ _ | exact Kd.V_nil _ _ _ _ _ | exact Kd.Q_nil _ _ _ _ _ | exact Kd.S_nil _ _ _ _ _⟩, ⟨by first | exact Kd.S_nil _ _ _ _ _ | exact Kd.N_nil _ _ _ _ _ | exact Kd.V_nil _ _ _ _ _ | exact Kd.Q_nil _ _ _ _ _ | exact Kd.R_nil _ _ _ _ _⟩, ⟨by (with_reducible repeat (first | refine blk_drewN ?_ _ | refine blk_drew ?_ | refine blk_alloc ?_ _)); refine blk_far ?_ NB627_633.out _; (with_reducible repeat (first | refine blk_drewN ?_ _ | refine blk_drew ?_ | refine blk_alloc ?_ _)); refine blk_far ?_ NB627_633.out _; (with_reducible repeat (first | refine blk_drewN ?_ _ | refine blk_drew ?_ | refine blk_alloc ?_ _)); exact BK627.out⟩, ⟨by (with_reducible repeat (first | refine blk_drewN ?_ _ | refine blk_drew ?_ | refine blk_alloc ?_ _)); refine blk_far ?_ NB628_633.out _; (with_reducible repeat (first | refine blk_drewN ?_ _ | refine blk_drew ?_ | refine blk_alloc ?_ _)); refine blk_far ?_ NB628_633.out _; (with_reducible repeat (first | refine blk_drewN ?_ _ | refine blk_drew ?_ | refine blk_alloc ?_ _)); exact BK628.out⟩, ⟨by (with_reducible repeat (first | refine blk_drewN ?_ _ | refine blk_drew ?_ | refine blk_alloc ?_ _)); refine blk_put (cs := #[.slice none 0 0, .slice none 0 0]) ?_ 1 _ rfl; (with_reducible repeat (first | refine blk_drewN ?_ _ | refine blk_drew ?_ | refine blk_alloc ?_ _)); refine blk_put (cs := #[.slice none 0 0, .slice none 0 0]) ?_ 0 _ rfl; (with_reducible repeat (first | refine blk_drewN ?_ _ | refine blk_drew ?_ | refine blk_alloc ?_ _)); exact BK633.out⟩, ⟨by repeat (first | (with_reducible first | exact HB.out | apply below_alloc | apply pw_below_drewN | apply below_drew1 | refine below_set ?_ GE627.out | refine below_set ?_ GE628.out | refine below_set ?_ GE633.out) | exact HB.out)⟩⟩
    case round =>
      clear H'
      try clear c1
      try clear p2
      try clear c3
      try clear c5
      try clear c7
      try clear c13
      try clear c14
      try clear hcz10_0
      try clear hcz10_1
      try clear hcz15_0
      try clear hcz15_1
      try clear hcz8_0
      try clear hcz8_1
      try clear hfz10_0
      try clear hfz10_1
      try clear hfz15_0
      try clear hfz15_1
      try clear hfz8_0
      try clear hfz8_1
      obtain ⟨x6_1, x634000_1, x634001_1, u634000, u634001, rfl, HA, HK1, HO_4, HO_634000, HO_634001, BK627, BK628, BK633, HB⟩ := hrel
      cases gk with
      | zero => exact absurd HA.out (by simp [spec_ChancesFold.l0])
      | succ k1 =>
        have H := HA.out
        clear HA
        simp only [spec_ChancesFold.l0] at H
        by_cases c16 : x6_1 < (t630.length : Int)
        · rw [if_pos c16] at H
          have c16b0 : decide (x6_1 < (t630.length : Int)) = true := decide_eq_true c16
          clear c16
          by_cases c17 : 0 ≤ x6_1
          · rw [if_pos c17] at H
            have c17b0 : decide (0 ≤ x6_1) = true := decide_eq_true c17
            clear c17
            by_cases c18 : (rd t630 x6_1) = x6_1
            · rw [if_pos c18] at H
              have c18b0 : ((rd t630 x6_1) == x6_1) = true := beq_iff_eq.mpr c18
              have c18b1 : ((rd t630 x6_1) != x6_1) = false := bne_eq_false_iff_eq.mpr c18
              clear c18
              obtain ⟨y635, hy635⟩ : ∃ y_ : List Int, y_ = (([] : List Int)) := ⟨_, rfl⟩
              replace H : (spec_ChancesFold.l1 k1 t630 x6_1 y635 0 l0_0 l0_1 x634000_1 x634001_1) = some (r1, r2, r3) := by first | (rw [hy635]; with_reducible exact H) | (have H2_ := (Option.bind_some _ _).symm.trans H; rw [hy635]; with_reducible exact H2_) | (have H2_ := (Option.bind_some _ _).symm.trans H; with_reducible exact H2_) | with_reducible exact H | (rw [hy635]; exact H) | exact H
              have Ny635 := Aside0.mk hy635
              clear hy635
              have H' := Aside0.mk H
              clear H
              obtain ⟨Ao19, co19, eo19⟩ := Kd.R_slice HO_4.out
              subst eo19
              have p634 : 0 ≤ (x6_1 : Int) := of_decide_eq_true (by first | (with_reducible assumption) | assumption)
              have q634 : x6_1 < (t630.length : Int) := of_decide_eq_true (by first | (with_reducible assumption) | assumption)
              obtain ⟨ad634, e634, hx634_0⟩ := Kd.at_int (Kd.R_reads' HO_4.out).2.2 x6_1 p634 q634
              cases e634
              replace p634 := eq_true p634
              replace q634 := eq_true q634
              go_wp2_with (first | ((with_reducible refine gate_dst (N := 28) rfl ?_); refine Kd.R_lit (Kd.int .i64) _ 3 ?hg (N := 28) ?hd (xs := ([] : List Int)) (inner := []) (ok := fun _ => True) (okp := fun _ => True) ?hr ?hp (fun _ hk => hk) trivial (Below.refl _ _) (Nat.le_refl _) (by simp) ?_; (case hd => rfl); (case hg => rfl); (case hr => first | (go_simp; done) | (go_simp; rfl)); (case hp => exact (Reps.none _ _)); intro v636 w20 ho21 hb hg_ hnew_; clear hg_ hnew_; (first | rw [← Ny635.out] at ho21 | (simp only [Int.reduceToNat] at ho21; rw [← Ny635.out] at ho21)); have n0_ := Aside0.mk (Kd.R_elder' (by (with_reducible repeat (first | apply Kd.R_alloc | apply Kd.R_drewN | apply Kd.R_drew)); exact HO_4.out) (Kd.R_base ho21) hb); have n1_ := Aside0.mk (Kd.R_elder' (by (with_reducible repeat (first | apply Kd.R_alloc | apply Kd.R_drewN | apply Kd.R_drew)); exact HO_634000.out) (Kd.R_base ho21) hb); have n2_ := Aside0.mk (Kd.S_elder' (by (with_reducible repeat (first | apply Kd.S_alloc | apply Kd.S_drewN | apply Kd.S_drew)); exact HO_634001.out) (Kd.R_base ho21) hb); have n3_ := Aside0.mk (Kd.R_lower (Kd.R_new' (Kd.R_new' ho21 (Kd.R_lt (by (with_reducible repeat (first | apply Kd.R_alloc | apply Kd.R_drewN | apply Kd.R_drew)); exact HO_4.out))) (Kd.R_lt (by (with_reducible repeat (first | apply Kd.R_alloc | apply Kd.R_drewN | apply Kd.R_drew)); exact HO_634000.out))) (below_size (by repeat (first | (with_reducible first | exact HB.out | apply below_alloc | apply pw_below_drewN | apply below_drew1 | refine below_set ?_ GE627.out | refine below_set ?_ GE628.out | refine below_set ?_ GE633.out) | exact HB.out)))); have n4_ := Aside0.mk (blk_below (g := gb627) (o := .cells #[.slice A0_0 l0_0.length c0_0, .slice A0_1 l0_1.length c0_1] 28 (0, 0)) (by (with_reducible repeat (first | refine blk_drewN ?_ _ | refine blk_drew ?_ | refine blk_alloc ?_ _)); exact BK627.out) hb); have n5_ := Aside0.mk (blk_below (g := gb628) (o := .cells #[.slice none 0 0, .slice none 0 0] 28 (0, 0)) (by (with_reducible repeat (first | refine blk_drewN ?_ _ | refine blk_drew ?_ | refine blk_alloc ?_ _)); exact BK628.out) hb); have n6_ := Aside0.mk (blk_below (g := gb633) (o := .cells #[u634000, u634001] 28 (0, 0)) (by (with_reducible repeat (first | refine blk_drewN ?_ _ | refine blk_drew ?_ | refine blk_alloc ?_ _)); exact BK633.out) hb); have n7_ := Aside0.mk (below_step (by repeat (first | (with_reducible first | exact HB.out | apply below_alloc | apply pw_below_drewN | apply below_drew1 | refine below_set ?_ GE627.out | refine below_set ?_ GE628.out | refine below_set ?_ GE633.out) | exact HB.out)) hb); clear HO_4; clear HO_634000; clear HO_634001; clear BK627; clear BK628; clear BK633; clear HB; have HO_4 := n0_; have HO_634000 := n1_; have HO_634001 := n2_; have HO637 := n3_; have BK627 := n4_; have BK628 := n5_; have BK633 := n6_; have HB := n7_; clear n0_ n1_ n2_ n3_ n4_ n5_ n6_ n7_; clear hb ho21))
              go_loopg [7, 8] k1 (fun kq v7 v8 w' => ∃ (x7_2 : List Int) (x8_2 : Int), v8 = .int .i64 x8_2 ∧ Aside0 (spec_ChancesFold.l1 kq t630 x6_1 x7_2 x8_2 l0_0 l0_1 x634000_1 x634001_1 = some (r1, r2, r3)) ∧ Aside0 (kq ≤ k1) ∧ Aside0 (Kd.R (Kd.int .i64) 3 w' w.heap.size (fun k_ => some k_ ≠ (v7 : Value).ownBlock ∧ some k_ ≠ (u634000 : Value).ownBlock) (.slice (some ad634) t630.length co19) t630) ∧ Aside0 (Kd.R (Kd.int .i64) 3 w' w.heap.size (fun k_ => some k_ ≠ ((.slice (some ad634) t630.length co19) : Value).ownBlock ∧ some k_ ≠ (u634000 : Value).ownBlock) v7 x7_2) ∧ Aside0 (Kd.R (Kd.int .i64) 3 w' w.heap.size (fun k_ => some k_ ≠ ((.slice (some ad634) t630.length co19) : Value).ownBlock ∧ some k_ ≠ (v7 : Value).ownBlock) u634000 x634000_1) ∧ Aside0 (Kd.S (Kd.slice 3 (Kd.int .i64)) 22 w' w.heap.size (fun k_ => some k_ ≠ ((.slice (some ad634) t630.length co19) : Value).ownBlock ∧ some k_ ≠ (v7 : Value).ownBlock ∧ some k_ ≠ (u634000 : Value).ownBlock) u634001 x634001_1) ∧ Aside0 (w'.heap[gb627]? = some (.cells #[(.slice A0_0 l0_0.length c0_0), (.slice A0_1 l0_1.length c0_1)] 28 (0, 0))) ∧ Aside0 (w'.heap[gb628]? = some (.cells #[(.slice none 0 0), (.slice none 0 0)] 28 (0, 0))) ∧ Aside0 (w'.heap[gb633]? = some (.cells #[u634000, u634001] 28 (0, 0))) ∧ Aside0 (Below w.heap.size w w'))
              case atStart => exact ⟨(y635), (0), (by first | rfl | (simp; done) | (simp [*]; done)), H', ⟨Nat.le_refl _⟩, ⟨by (with_reducible repeat (first | apply Kd.R_alloc | apply Kd.R_drewN | apply Kd.R_drew)); exact Kd.R_mono HO_4.out (fun _ hk => ⟨hk.2, hk.1⟩)⟩, ⟨by (with_reducible repeat (first | apply Kd.R_alloc | apply Kd.R_drewN | apply Kd.R_drew)); exact Kd.R_mono HO637.out (fun _ hk => ⟨hk.1.2, hk.2⟩)⟩, ⟨by (with_reducible repeat (first | apply Kd.R_alloc | apply Kd.R_drewN | apply Kd.R_drew)); exact HO_634000.out⟩, ⟨by (with_reducible repeat (first | apply Kd.S_alloc | apply Kd.S_drewN | apply Kd.S_drew)); exact Kd.S_mono HO_634001.out (fun _ hk => ⟨hk.1.1, ⟨hk.2, hk.1.2⟩⟩)⟩, ⟨by (with_reducible repeat (first | refine blk_drewN ?_ _ | refine blk_drew ?_ | refine blk_alloc ?_ _)); exact BK627.out⟩, ⟨by (with_reducible repeat (first | refine blk_drewN ?_ _ | refine blk_drew ?_ | refine blk_alloc ?_ _)); exact BK628.out⟩, ⟨by (with_reducible repeat (first | refine blk_drewN ?_ _ | refine blk_drew ?_ | refine blk_alloc ?_ _)); exact BK633.out⟩, ⟨by repeat (first | (with_reducible first | exact HB.out | apply below_alloc | apply pw_below_drewN | apply below_drew1 | refine below_set ?_ GE627.out | refine below_set ?_ GE628.out | refine below_set ?_ GE633.out) | exact HB.out)⟩⟩
              case round =>
                clear H'
                try clear c1
                try clear p2
                try clear c3
                try clear c5
                try clear p6
                try clear q6
                try clear hx6
                try clear c7
                try clear c13
                try clear c14
                try clear c16
                try clear c16b0
                try clear c17
                try clear c17b0
                try clear c18
                try clear c18b0
                try clear c18b1
                try clear hcz10_0
                try clear hcz10_1
                try clear hcz15_0
                try clear hcz15_1
                try clear hcz8_0
                try clear hcz8_1
                try clear hfz10_0
                try clear hfz10_1
                try clear hfz15_0
                try clear hfz15_1
                try clear hfz8_0
                try clear hfz8_1
                try clear hx634_0
                try clear p2
                try clear p634
                try clear q634
                obtain ⟨x7_2, x8_2, rfl, HA, HK2, HO_4, HO_7, HO_634000, HO_634001, BK627, BK628, BK633, HB⟩ := hrel
                cases gk with
                | zero => exact absurd HA.out (by simp [spec_ChancesFold.l1])
                | succ k2 =>
                  have H := HA.out
                  clear HA
                  simp only [spec_ChancesFold.l1] at H
                  by_cases c22 : x8_2 < (t630.length : Int)
                  · rw [if_pos c22] at H
                    have c22b0 : decide (x8_2 < (t630.length : Int)) = true := decide_eq_true c22
                    clear c22
                    by_cases c23 : 0 ≤ x8_2
                    · rw [if_pos c23] at H
                      have c23b0 : decide (0 ≤ x8_2) = true := decide_eq_true c23
                      clear c23
                      by_cases c24 : (rd t630 x8_2) = x8_2
                      · rw [if_pos c24] at H
                        have c24b0 : ((rd t630 x8_2) == x8_2) = true := beq_iff_eq.mpr c24
                        have c24b1 : ((rd t630 x8_2) != x8_2) = false := bne_eq_false_iff_eq.mpr c24
                        clear c24
                        replace H := Option.bind_eq_some_iff.mp H
                        obtain ⟨t639, A250, H⟩ := H
                        replace H : (if x7_2.length < 17592186044416 then (spec_ChancesFold.l1 k2 t630 x6_1 (x7_2 ++ [t639]) (wrap64 (x8_2 + 1)) l0_0 l0_1 x634000_1 x634001_1) else (none)) = some (r1, r2, r3) := H
                        have A25 := Aside0.mk A250
                        clear A250
                        by_cases c26 : x7_2.length < 17592186044416
                        · rw [if_pos c26] at H
                          have LMc26 := Aside0.mk c26
                          clear c26
                          obtain ⟨y640, hy640⟩ : ∃ y_ : List Int, y_ = (x7_2 ++ [t639]) := ⟨_, rfl⟩
                          replace H : (spec_ChancesFold.l1 k2 t630 x6_1 y640 (wrap64 (x8_2 + 1)) l0_0 l0_1 x634000_1 x634001_1) = some (r1, r2, r3) := by first | (rw [hy640]; with_reducible exact H) | (have H2_ := (Option.bind_some _ _).symm.trans H; rw [hy640]; with_reducible exact H2_) | (have H2_ := (Option.bind_some _ _).symm.trans H; with_reducible exact H2_) | with_reducible exact H | (rw [hy640]; exact H) | exact H
                          have Ny640 := Aside0.mk hy640
                          clear hy640
                          have H' := Aside0.mk H
                          clear H
                          have p638 : 0 ≤ (x8_2 : Int) := of_decide_eq_true (by first | (with_reducible assumption) | assumption)
                          have q638 : x8_2 < (t630.length : Int) := of_decide_eq_true (by first | (with_reducible assumption) | assumption)
                          obtain ⟨ad638, e638, hx638_0⟩ := Kd.at_int (Kd.R_reads' HO_4.out).2.2 x8_2 p638 q638
                          obtain rfl : ad634 = ad638 := (by injection e638)
                          replace p638 := eq_true p638
                          replace q638 := eq_true q638
                          have hnb27 := NB627_628.out
                          have hnc27 := NB628_627.out
                          have hnb28 := NB627_633.out
                          have hnc28 := NB633_627.out
                          have hcz29_0 : wr.cell? ⟨gb627, 0, none⟩ = some (.slice A0_0 l0_0.length c0_0) := (blk_cell BK627.out 0).trans rfl
                          have hcz29_1 : wr.cell? ⟨gb627, 1, none⟩ = some (.slice A0_1 l0_1.length c0_1) := (blk_cell BK627.out 1).trans rfl
                          have hfz29_0 := blk_frozen BK627.out 0
                          have hfz29_1 := blk_frozen BK627.out 1
                          go_wp2_with (first | ((with_reducible refine gate_callee (f := 57) rfl ?_); refine goesL_ (some 46) rfl rfl Try.func57 (by kernel_rfl) rfl #[.agg #[.slice A0_0 l0_0.length c0_0, .slice A0_1 l0_1.length c0_1], .int .i64 x6_1, .slice (some ad634) t630.length co19, .int .i64 x8_2] rfl (by (try simp only [List.map_toArray, List.map_cons, List.map_nil]); first | done | rfl | (simp only [List.length_drop, List.length_take]; rfl)) ?_; (with_reducible refine (spec_l18Into.calls k2 _ _ l0_0 _ _ l0_1 x6_1 _ _ t630 x8_2 t639 _ ?side1 ?side2 ?side3 ?side4 ?side5 ?side6 A25.out).mono ?_); (case side1 => repeat (first | exact (Kd.C_below HR0_0.out HB.out) | (with_reducible refine Kd.C_alloc ?_ _) | (with_reducible refine Kd.C_drewN ?_ _) | (with_reducible refine Kd.C_drew ?_))); (case side2 => exact HC0_0.out); (case side3 => repeat (first | exact (Kd.C_below HR0_1.out HB.out) | (with_reducible refine Kd.C_alloc ?_ _) | (with_reducible refine Kd.C_drewN ?_ _) | (with_reducible refine Kd.C_drew ?_))); (case side4 => exact HC0_1.out); (case side5 => repeat (first | exact (Kd.R_reads' HO_4.out).2.2 | (with_reducible refine Kd.C_alloc ?_ _) | (with_reducible refine Kd.C_drewN ?_ _) | (with_reducible refine Kd.C_drew ?_))); (case side6 => exact (Kd.R_reads' HO_4.out).2.1); rintro e w30 ⟨rfl, hb⟩; refine ⟨_, rfl, ?_⟩; have n0_ := Aside0.mk (Kd.R_below (by (with_reducible repeat (first | apply Kd.R_alloc | apply Kd.R_drewN | apply Kd.R_drew)); exact HO_4.out) hb); have n1_ := Aside0.mk (Kd.R_below (by (with_reducible repeat (first | apply Kd.R_alloc | apply Kd.R_drewN | apply Kd.R_drew)); exact HO_7.out) hb); have n2_ := Aside0.mk (Kd.R_below (by (with_reducible repeat (first | apply Kd.R_alloc | apply Kd.R_drewN | apply Kd.R_drew)); exact HO_634000.out) hb); have n3_ := Aside0.mk (Kd.S_below (by (with_reducible repeat (first | apply Kd.S_alloc | apply Kd.S_drewN | apply Kd.S_drew)); exact HO_634001.out) hb); have n4_ := Aside0.mk (blk_below (g := gb627) (o := .cells #[.slice A0_0 l0_0.length c0_0, .slice A0_1 l0_1.length c0_1] 28 (0, 0)) (by (with_reducible repeat (first | refine blk_drewN ?_ _ | refine blk_drew ?_ | refine blk_alloc ?_ _)); exact BK627.out) hb); have n5_ := Aside0.mk (blk_below (g := gb628) (o := .cells #[.slice none 0 0, .slice none 0 0] 28 (0, 0)) (by (with_reducible repeat (first | refine blk_drewN ?_ _ | refine blk_drew ?_ | refine blk_alloc ?_ _)); exact BK628.out) hb); have n6_ := Aside0.mk (blk_below (g := gb633) (o := .cells #[u634000, u634001] 28 (0, 0)) (by (with_reducible repeat (first | refine blk_drewN ?_ _ | refine blk_drew ?_ | refine blk_alloc ?_ _)); exact BK633.out) hb); have n7_ := Aside0.mk (below_step (by repeat (first | (with_reducible first | exact HB.out | apply below_alloc | apply pw_below_drewN | apply below_drew1 | refine below_set ?_ GE627.out | refine below_set ?_ GE628.out | refine below_set ?_ GE633.out) | exact HB.out)) hb); clear HO_4; clear HO_7; clear HO_634000; clear HO_634001; clear BK627; clear BK628; clear BK633; clear HB; have HO_4 := n0_; have HO_7 := n1_; have HO_634000 := n2_; have HO_634001 := n3_; have BK627 := n4_; have BK628 := n5_; have BK633 := n6_; have HB := n7_; clear n0_ n1_ n2_ n3_ n4_ n5_ n6_ n7_; (try clear hb); (try clear hb2); (try clear hk); (try clear hi)) | ((with_reducible refine gate_builtin (b := .append) (xs := #[.tmp 41, .tmp 47]) rfl ?_); at_builtin; refine Kd.R_append (Kd.int .i64) (w0 := w) w.heap.size rfl (.tmp 41) (.tmp 47) 22 3 (.int .i64 0) 8 rfl Try.underlying22 info3 rfl (by decide) (by omega) u7 x7_2 t639 [.int .i64 t639] (fun k_ => some k_ ≠ (.slice (some ad634) t630.length co19 : Value).ownBlock ∧ some k_ ≠ (u634000 : Value).ownBlock) (fun _ => False) rfl rfl ?aP (fun _ hk => hk.elim) ?aF ?aO ?aB ?aS ?aL ?_; (case aP => exact rfl); (case aB => exact (by repeat (first | (with_reducible first | exact HB.out | apply below_alloc | apply pw_below_drewN | apply below_drew1 | refine below_set ?_ GE627.out | refine below_set ?_ GE628.out | refine below_set ?_ GE633.out) | exact HB.out))); (case aF => exact (fun k_ hk => ⟨Kd.fresh' (Kd.R_lt (by (with_reducible repeat (first | apply Kd.R_alloc | apply Kd.R_drewN | apply Kd.R_drew)); exact HO_4.out)) k_ hk, Kd.fresh' (Kd.R_lt (by (with_reducible repeat (first | apply Kd.R_alloc | apply Kd.R_drewN | apply Kd.R_drew)); exact HO_634000.out)) k_ hk⟩)); (case aO => exact (by (with_reducible repeat (first | apply Kd.R_alloc | apply Kd.R_drewN | apply Kd.R_drew)); exact HO_7.out)); (case aS => exact (below_size (by repeat (first | (with_reducible first | exact HB.out | apply below_alloc | apply pw_below_drewN | apply below_drew1 | refine below_set ?_ GE627.out | refine below_set ?_ GE628.out | refine below_set ?_ GE633.out) | exact HB.out)))); (case aL => have := LMc26.out; omega); intro v641 w31 ho hb hg hat; rw [← Ny640.out] at ho; have n0_ := Aside0.mk (Kd.R_after (ok := (fun k_ => some k_ ≠ (u634000 : Value).ownBlock)) (by (with_reducible repeat (first | apply Kd.R_alloc | apply Kd.R_drewN | apply Kd.R_drew)); exact Kd.R_mono HO_4.out (fun _ hk => ⟨hk.2, hk.1⟩)) hg hat); have n1_ := Aside0.mk (Kd.R_after (ok := (fun k_ => some k_ ≠ (.slice (some ad634) t630.length co19 : Value).ownBlock)) (by (with_reducible repeat (first | apply Kd.R_alloc | apply Kd.R_drewN | apply Kd.R_drew)); exact HO_634000.out) hg hat); have n2_ := Aside0.mk (Kd.S_after (ok := (fun k_ => some k_ ≠ (.slice (some ad634) t630.length co19 : Value).ownBlock ∧ some k_ ≠ (u634000 : Value).ownBlock)) (by (with_reducible repeat (first | apply Kd.S_alloc | apply Kd.S_drewN | apply Kd.S_drew)); exact Kd.S_mono HO_634001.out (fun _ hk => ⟨⟨hk.1, hk.2.2⟩, hk.2.1⟩)) hg hat); have n3_ := Aside0.mk (blk_grown (g := gb627) (o := .cells #[.slice A0_0 l0_0.length c0_0, .slice A0_1 l0_1.length c0_1] 28 (0, 0)) (by (with_reducible repeat (first | refine blk_drewN ?_ _ | refine blk_drew ?_ | refine blk_alloc ?_ _)); exact BK627.out) hg (Kd.R_ne HO_7.out BK627.out (by decide))); have n4_ := Aside0.mk (blk_grown (g := gb628) (o := .cells #[.slice none 0 0, .slice none 0 0] 28 (0, 0)) (by (with_reducible repeat (first | refine blk_drewN ?_ _ | refine blk_drew ?_ | refine blk_alloc ?_ _)); exact BK628.out) hg (Kd.R_ne HO_7.out BK628.out (by decide))); have n5_ := Aside0.mk (blk_grown (g := gb633) (o := .cells #[u634000, u634001] 28 (0, 0)) (by (with_reducible repeat (first | refine blk_drewN ?_ _ | refine blk_drew ?_ | refine blk_alloc ?_ _)); exact BK633.out) hg (Kd.R_ne HO_7.out BK633.out (by decide))); have n6_ := Aside0.mk (hb); have n7_ := Aside0.mk (ho); clear HO_4; clear HO_634000; clear HO_634001; clear BK627; clear BK628; clear BK633; clear HB; clear HO_7; have HO_4 := n0_; have HO_634000 := n1_; have HO_634001 := n2_; have BK627 := n3_; have BK628 := n4_; have BK633 := n5_; have HB := n6_; have HO642 := n7_; clear n0_ n1_ n2_ n3_ n4_ n5_ n6_ n7_; clear ho hb hg hat))
                          go_roundg k2
                          case measure => have := HK1.out; have := HK2.out; omega
                          case rel => exact ⟨(y640), (wrap64 (x8_2 + 1)), (by first | rfl | (simp; done) | (simp [*]; done)), H', ⟨by have := HK1.out; have := HK2.out; omega⟩, ⟨by (with_reducible repeat (first | apply Kd.R_alloc | apply Kd.R_drewN | apply Kd.R_drew)); exact Kd.R_mono HO_4.out (fun _ hk => ⟨hk.2, hk.1⟩)⟩, ⟨by (with_reducible repeat (first | apply Kd.R_alloc | apply Kd.R_drewN | apply Kd.R_drew)); exact HO642.out⟩, ⟨by (with_reducible repeat (first | apply Kd.R_alloc | apply Kd.R_drewN | apply Kd.R_drew)); exact HO_634000.out⟩, ⟨by (with_reducible repeat (first | apply Kd.S_alloc | apply Kd.S_drewN | apply Kd.S_drew)); exact Kd.S_mono HO_634001.out (fun _ hk => ⟨hk.1.1, ⟨hk.2, hk.1.2⟩⟩)⟩, ⟨by (with_reducible repeat (first | refine blk_drewN ?_ _ | refine blk_drew ?_ | refine blk_alloc ?_ _)); exact BK627.out⟩, ⟨by (with_reducible repeat (first | refine blk_drewN ?_ _ | refine blk_drew ?_ | refine blk_alloc ?_ _)); exact BK628.out⟩, ⟨by (with_reducible repeat (first | refine blk_drewN ?_ _ | refine blk_drew ?_ | refine blk_alloc ?_ _)); exact BK633.out⟩, ⟨by repeat (first | (with_reducible first | exact HB.out | apply below_alloc | apply pw_below_drewN | apply below_drew1 | refine below_set ?_ GE627.out | refine below_set ?_ GE628.out | refine below_set ?_ GE633.out) | exact HB.out)⟩⟩
                        · rw [if_neg c26] at H
                          exact absurd H (by simp)
                      · rw [if_neg c24] at H
                        have c24b0 : ((rd t630 x8_2) == x8_2) = false := beq_eq_false_iff_ne.mpr c24
                        have c24b1 : ((rd t630 x8_2) != x8_2) = true := bne_iff_ne.mpr c24
                        have H' := Aside0.mk H
                        clear H
                        have p638 : 0 ≤ (x8_2 : Int) := of_decide_eq_true (by first | (with_reducible assumption) | assumption)
                        have q638 : x8_2 < (t630.length : Int) := of_decide_eq_true (by first | (with_reducible assumption) | assumption)
                        obtain ⟨ad638, e638, hx638_0⟩ := Kd.at_int (Kd.R_reads' HO_4.out).2.2 x8_2 p638 q638
                        obtain rfl : ad634 = ad638 := (by injection e638)
                        replace p638 := eq_true p638
                        replace q638 := eq_true q638
                        go_wp2
                        go_roundg k2
                        case measure => have := HK1.out; have := HK2.out; omega
                        case rel => exact ⟨(x7_2), (wrap64 (x8_2 + 1)), (by first | rfl | (simp; done) | (simp [*]; done)), H', ⟨by have := HK1.out; have := HK2.out; omega⟩, ⟨by (with_reducible repeat (first | apply Kd.R_alloc | apply Kd.R_drewN | apply Kd.R_drew)); exact HO_4.out⟩, ⟨by (with_reducible repeat (first | apply Kd.R_alloc | apply Kd.R_drewN | apply Kd.R_drew)); exact HO_7.out⟩, ⟨by (with_reducible repeat (first | apply Kd.R_alloc | apply Kd.R_drewN | apply Kd.R_drew)); exact HO_634000.out⟩, ⟨by (with_reducible repeat (first | apply Kd.S_alloc | apply Kd.S_drewN | apply Kd.S_drew)); exact HO_634001.out⟩, ⟨by (with_reducible repeat (first | refine blk_drewN ?_ _ | refine blk_drew ?_ | refine blk_alloc ?_ _)); exact BK627.out⟩, ⟨by (with_reducible repeat (first | refine blk_drewN ?_ _ | refine blk_drew ?_ | refine blk_alloc ?_ _)); exact BK628.out⟩, ⟨by (with_reducible repeat (first | refine blk_drewN ?_ _ | refine blk_drew ?_ | refine blk_alloc ?_ _)); exact BK633.out⟩, ⟨by repeat (first | (with_reducible first | exact HB.out | apply below_alloc | apply pw_below_drewN | apply below_drew1 | refine below_set ?_ GE627.out | refine below_set ?_ GE628.out | refine below_set ?_ GE633.out) | exact HB.out)⟩⟩
                    · rw [if_neg c23] at H
                      exact absurd H (by simp)
                  · rw [if_neg c22] at H
                    have c22b0 : decide (x8_2 < (t630.length : Int)) = false := decide_eq_false c22
                    clear c22
                    by_cases c32 : 0 ≤ x6_1
                    · rw [if_pos c32] at H
                      have c32b0 : decide (0 ≤ x6_1) = true := decide_eq_true c32
                      clear c32
                      by_cases c33 : x6_1 < (l0_0.length : Int)
                      · rw [if_pos c33] at H
                        have c33b0 : decide (x6_1 < (l0_0.length : Int)) = true := decide_eq_true c33
                        clear c33
                        by_cases c34 : x634000_1.length < 17592186044416
                        · rw [if_pos c34] at H
                          have LMc34 := Aside0.mk c34
                          clear c34
                          obtain ⟨y644, hy644⟩ : ∃ y_ : List Int, y_ = (x634000_1 ++ [rd l0_0 x6_1]) := ⟨_, rfl⟩
                          replace H : (if x634001_1.length < 5864062014805 then (spec_ChancesFold.l0 k2 t630 (wrap64 (x6_1 + 1)) l0_0 l0_1 y644 (x634001_1 ++ [x7_2])) else (none)) = some (r1, r2, r3) := by first | (rw [hy644]; with_reducible exact H) | (have H2_ := (Option.bind_some _ _).symm.trans H; rw [hy644]; with_reducible exact H2_) | (have H2_ := (Option.bind_some _ _).symm.trans H; with_reducible exact H2_) | with_reducible exact H | (rw [hy644]; exact H) | exact H
                          have Ny644 := Aside0.mk hy644
                          clear hy644
                          by_cases c35 : x634001_1.length < 5864062014805
                          · rw [if_pos c35] at H
                            have LMc35 := Aside0.mk c35
                            clear c35
                            obtain ⟨y647, hy647⟩ : ∃ y_ : List (List Int), y_ = (x634001_1 ++ [x7_2]) := ⟨_, rfl⟩
                            replace H : (spec_ChancesFold.l0 k2 t630 (wrap64 (x6_1 + 1)) l0_0 l0_1 y644 y647) = some (r1, r2, r3) := by first | (rw [hy647]; with_reducible exact H) | (have H2_ := (Option.bind_some _ _).symm.trans H; rw [hy647]; with_reducible exact H2_) | (have H2_ := (Option.bind_some _ _).symm.trans H; with_reducible exact H2_) | with_reducible exact H | (rw [hy647]; exact H) | exact H
                            have Ny647 := Aside0.mk hy647
                            clear hy647
                            have H' := Aside0.mk H
                            clear H
                            try go_wp2
                            have n0_ := Aside0.mk (Kd.R_drew HO_4.out)
                            have n1_ := Aside0.mk (Kd.R_drew HO_7.out)
                            have n2_ := Aside0.mk (Kd.R_drew HO_634000.out)
                            have n3_ := Aside0.mk (Kd.S_drew HO_634001.out)
                            have n4_ := Aside0.mk (blk_drew BK627.out)
                            have n5_ := Aside0.mk (blk_drew BK628.out)
                            have n6_ := Aside0.mk (blk_drew BK633.out)
                            have n7_ := Aside0.mk (below_drew1 HB.out)
                            clear HO_4
                            clear HO_7
                            clear HO_634000
                            clear HO_634001
                            clear BK627
                            clear BK628
                            clear BK633
                            clear HB
                            have HO_4 := n0_
                            have HO_7 := n1_
                            have HO_634000 := n2_
                            have HO_634001 := n3_
                            have BK627 := n4_
                            have BK628 := n5_
                            have BK633 := n6_
                            have HB := n7_
                            clear n0_ n1_ n2_ n3_ n4_ n5_ n6_ n7_
                            have p643 : 0 ≤ (x6_1 : Int) := of_decide_eq_true (by first | (with_reducible assumption) | assumption)
                            have q643 : x6_1 < (l0_0.length : Int) := of_decide_eq_true (by first | (with_reducible assumption) | assumption)
                            obtain ⟨ad643, e643, hx643_0⟩ := Kd.at_int HR0_0.out x6_1 p643 q643
                            have hw643_0 := hx643_0
                            cases e643
                            replace hx643_0 := (HB.out.cell (World.block_lt_of_cell? w _ hx643_0)).trans hx643_0
                            replace p643 := eq_true p643
                            replace q643 := eq_true q643
                            refine start_ (n := 11) (S := fun w' => w'.cell? ⟨gb633, 0, none⟩ = some (u634000) ∧ w'.cell? ⟨gb633, 1, none⟩ = some (u634001) ∧ w'.cell? ⟨gb627, 0, none⟩ = some (.slice (some ad643) l0_0.length c0_0) ∧ w'.cell? ⟨gb627, 1, none⟩ = some (.slice A0_1 l0_1.length c0_1) ∧ w'.cell? (ad643.add (x6_1).toNat) = some (.int .i64 (rd l0_0 x6_1))) (ds := [10]) #[false, false, false, false, false, false, false, false, false, false, false] (by kernel_rfl) rfl rfl ⟨(blk_cell BK633.out 0).trans rfl, (blk_cell BK633.out 1).trans rfl, (blk_cell BK627.out 0).trans rfl, (blk_cell BK627.out 1).trans rfl, ((HB.out.cell (World.block_lt_of_cell? w _ hw643_0)).trans hw643_0)⟩ (fun hHeld => ?_); refine with_tabW spec_ChancesFold.tab15 spec_ChancesFold.bits15 (fun HT_ HW_ => ?_)
                            generalize wr.drew = w36 at HO_4 HO_7 HO_634000 HO_634001 BK627 BK628 BK633 HB hx643_0 hHeld ⊢
                            refine pure_ (i := 0) (N := some 49) (v := ?_) (a' := ?_) #[true, false, false, false, false, false, false, false, false, false, false] rfl rfl (any_of HT_.out (by kernel_rfl)) (fun _ _ _ h => h) (Or.inl ⟨by rfl, ?_⟩) ?_ ?_
                            rotate_left
                            · intro w'
                              go_simp
                              with_reducible rfl
                            rotate_left
                            · simp only [Act.put, List.setIfInBounds_toArray, List.set_cons_zero, List.set_cons_succ, i64_w, i32_w]
                              rfl
                            refine pure_ (i := 2) (N := some 51) (v := ?_) (a' := ?_) #[true, false, true, false, false, false, false, false, false, false, false] rfl rfl (any_of HT_.out (by kernel_rfl)) (fun _ _ _ h => h) (Or.inl ⟨by rfl, ?_⟩) ?_ ?_
                            rotate_left
                            · intro w'
                              go_simp
                              with_reducible rfl
                            rotate_left
                            · simp only [Act.put, List.setIfInBounds_toArray, List.set_cons_zero, List.set_cons_succ, i64_w, i32_w]
                              rfl
                            refine pure_ (i := 4) (N := some 53) (v := ?_) (a' := ?_) #[true, false, true, false, true, false, false, false, false, false, false] rfl rfl (any_of HT_.out (by kernel_rfl)) (fun _ _ _ h => h) (Or.inl ⟨by rfl, ?_⟩) ?_ ?_
                            rotate_left
                            · intro w'
                              go_simp
                              with_reducible rfl
                            rotate_left
                            · simp only [Act.put, List.setIfInBounds_toArray, List.set_cons_zero, List.set_cons_succ, i64_w, i32_w]
                              rfl
                            refine take_ (i := 1) (N := some 50) (v := ?_) (a' := ?_) #[true, true, true, false, true, false, false, false, false, false, false] rfl rfl (take_ofW HT_.out HW_.out (by kernel_rfl)) (fun _ _ _ h => h) (Or.inl ⟨by rfl, ?_⟩) hHeld ?_ ?_
                            rotate_left
                            · rintro w' ⟨s0, s1, s2, s3, s4⟩
                              go_simp
                              with_reducible rfl
                            rotate_left
                            · simp only [Act.put, List.setIfInBounds_toArray, List.set_cons_zero, List.set_cons_succ, i64_w, i32_w]
                              rfl
                            refine take_ (i := 3) (N := some 52) (v := ?_) (a' := ?_) #[true, true, true, true, true, false, false, false, false, false, false] rfl rfl (take_ofW HT_.out HW_.out (by kernel_rfl)) (fun _ _ _ h => h) (Or.inl ⟨by rfl, ?_⟩) hHeld ?_ ?_
                            rotate_left
                            · rintro w' ⟨s0, s1, s2, s3, s4⟩
                              go_simp
                              with_reducible rfl
                            rotate_left
                            · simp only [Act.put, List.setIfInBounds_toArray, List.set_cons_zero, List.set_cons_succ, i64_w, i32_w]
                              rfl
                            refine pure_ (i := 5) (N := some 54) (v := ?_) (a' := ?_) #[true, true, true, true, true, true, false, false, false, false, false] rfl rfl (any_of HT_.out (by kernel_rfl)) (fun _ _ _ h => h) (Or.inl ⟨by rfl, ?_⟩) ?_ ?_
                            rotate_left
                            · intro w'
                              go_simp
                              with_reducible rfl
                            rotate_left
                            · simp only [Act.put, List.setIfInBounds_toArray, List.set_cons_zero, List.set_cons_succ, i64_w, i32_w]
                              rfl
                            refine take_ (i := 6) (N := some 55) (v := ?_) (a' := ?_) #[true, true, true, true, true, true, true, false, false, false, false] rfl rfl (take_ofW HT_.out HW_.out (by kernel_rfl)) (fun _ _ _ h => h) (Or.inl ⟨by rfl, ?_⟩) hHeld ?_ ?_
                            rotate_left
                            · rintro w' ⟨s0, s1, s2, s3, s4⟩
                              go_simp
                              with_reducible rfl
                            rotate_left
                            · simp only [Act.put, List.setIfInBounds_toArray, List.set_cons_zero, List.set_cons_succ, i64_w, i32_w]
                              rfl
                            refine one_ (i := 7) (N := some 56) #[true, true, true, true, true, true, true, true, false, false, false] rfl rfl (one_of HT_.out (by kernel_rfl)) (by decide) (fun K hK => ?_)
                            refine value_ (w1 := ?_) (v := ?_) (by rfl) rfl ?_ ?_
                            rotate_left 2
                            · go_simp
                              constructor
                              · rfl
                              · rfl
                            refine hK.out _ _ ⟨(blk_cell (blk_alloc BK633.out _) 0).trans rfl, (blk_cell (blk_alloc BK633.out _) 1).trans rfl, (blk_cell (blk_alloc BK627.out _) 0).trans rfl, (blk_cell (blk_alloc BK627.out _) 1).trans rfl, (World.cell?_alloc_lt _ _ _ (World.block_lt_of_cell? _ _ (((HB.out.cell (World.block_lt_of_cell? w _ hw643_0)).trans hw643_0)))).trans (((HB.out.cell (World.block_lt_of_cell? w _ hw643_0)).trans hw643_0))⟩ (fun hHeld => ?_)
                            clear hK K
                            refine norm_ (a' := ?_) ?_ ?_
                            rotate_left
                            · show Act.put _ (some 56) _ = _
                              simp only [Act.put, List.setIfInBounds_toArray, List.set_cons_zero, List.set_cons_succ, i64_w, i32_w]
                              rfl
                            refine one_ (i := 8) (N := some 57) #[true, true, true, true, true, true, true, true, true, false, false] rfl rfl (one_of HT_.out (by kernel_rfl)) (by decide) (fun K hK => ?_)
                            refine Kd.R_append_step (Kd.int .i64) (w0 := w) w.heap.size (by rfl) (.tmp 50) (.tmp 56) 22 3 (.int .i64 0) 8 rfl Try.underlying22 info3 rfl (by decide) (by omega) u634000 x634000_1 (rd l0_0 x6_1) [.int .i64 (rd l0_0 x6_1)] (fun k_ => some k_ ≠ (.slice (some ad634) t630.length co19 : Value).ownBlock ∧ some k_ ≠ (u7 : Value).ownBlock) (fun _ => False) rfl rfl ?aP (fun _ hk => hk.elim) ?aF ?aO ?aB ?aS ?aL ?_
                            (case aP => exact rfl)
                            (case aB => exact (by repeat (first | (with_reducible first | exact HB.out | apply below_alloc | apply pw_below_drewN | apply below_drew1 | refine below_set ?_ GE627.out | refine below_set ?_ GE628.out | refine below_set ?_ GE633.out) | exact HB.out)))
                            (case aF => exact (fun k_ hk => ⟨Kd.fresh' (Kd.R_lt (by (with_reducible repeat (first | apply Kd.R_alloc | apply Kd.R_drewN | apply Kd.R_drew)); exact HO_4.out)) k_ hk, Kd.fresh' (Kd.R_lt (by (with_reducible repeat (first | apply Kd.R_alloc | apply Kd.R_drewN | apply Kd.R_drew)); exact HO_7.out)) k_ hk⟩))
                            (case aO => exact (by (with_reducible repeat (first | apply Kd.R_alloc | apply Kd.R_drewN | apply Kd.R_drew)); exact HO_634000.out))
                            (case aS => exact (below_size (by repeat (first | (with_reducible first | exact HB.out | apply below_alloc | apply pw_below_drewN | apply below_drew1 | refine below_set ?_ GE627.out | refine below_set ?_ GE628.out | refine below_set ?_ GE633.out) | exact HB.out))))
                            (case aL => have := LMc34.out; omega)
                            intro v645 w37 ho hb hg hat
                            rw [← Ny644.out] at ho
                            have n0_ := Aside0.mk (Kd.R_after (ok := (fun k_ => some k_ ≠ (u7 : Value).ownBlock)) (by (with_reducible repeat (first | apply Kd.R_alloc | apply Kd.R_drewN | apply Kd.R_drew)); exact HO_4.out) hg hat)
                            have n1_ := Aside0.mk (Kd.R_after (ok := (fun k_ => some k_ ≠ (.slice (some ad634) t630.length co19 : Value).ownBlock)) (by (with_reducible repeat (first | apply Kd.R_alloc | apply Kd.R_drewN | apply Kd.R_drew)); exact HO_7.out) hg hat)
                            have n2_ := Aside0.mk (Kd.S_after (ok := (fun k_ => some k_ ≠ (.slice (some ad634) t630.length co19 : Value).ownBlock ∧ some k_ ≠ (u7 : Value).ownBlock)) (by (with_reducible repeat (first | apply Kd.S_alloc | apply Kd.S_drewN | apply Kd.S_drew)); exact Kd.S_mono HO_634001.out (fun _ hk => ⟨⟨hk.1, hk.2.1⟩, hk.2.2⟩)) hg hat)
                            have n3_ := Aside0.mk (blk_grown (g := gb627) (o := .cells #[.slice (some ad643) l0_0.length c0_0, .slice A0_1 l0_1.length c0_1] 28 (0, 0)) (by (with_reducible repeat (first | refine blk_drewN ?_ _ | refine blk_drew ?_ | refine blk_alloc ?_ _)); exact BK627.out) hg (Kd.R_ne HO_634000.out BK627.out (by decide)))
                            have n4_ := Aside0.mk (blk_grown (g := gb628) (o := .cells #[.slice none 0 0, .slice none 0 0] 28 (0, 0)) (by (with_reducible repeat (first | refine blk_drewN ?_ _ | refine blk_drew ?_ | refine blk_alloc ?_ _)); exact BK628.out) hg (Kd.R_ne HO_634000.out BK628.out (by decide)))
                            have n5_ := Aside0.mk (blk_grown (g := gb633) (o := .cells #[u634000, u634001] 28 (0, 0)) (by (with_reducible repeat (first | refine blk_drewN ?_ _ | refine blk_drew ?_ | refine blk_alloc ?_ _)); exact BK633.out) hg (Kd.R_ne HO_634000.out BK633.out (by decide)))
                            have n6_ := Aside0.mk (hb)
                            have n7_ := Aside0.mk (ho)
                            clear HO_4
                            clear HO_7
                            clear HO_634001
                            clear BK627
                            clear BK628
                            clear BK633
                            clear HB
                            clear HO_634000
                            have HO_4 := n0_
                            have HO_7 := n1_
                            have HO_634001 := n2_
                            have BK627 := n3_
                            have BK628 := n4_
                            have BK633 := n5_
                            have HB := n6_
                            have HO646 := n7_
                            clear n0_ n1_ n2_ n3_ n4_ n5_ n6_ n7_
                            clear ho hb hg hat
                            obtain ⟨Ao38, co38, eo38⟩ := Kd.R_slice HO646.out
                            (first | subst eo38 | (injection eo38 with f1_ f2_ f3_; have f4_ := f1_.symm; have f5_ := f3_.symm; clear f1_ f2_ f3_; subst f4_; subst f5_))
                            refine hK.out _ _ ⟨(blk_cell BK633.out 0).trans rfl, (blk_cell BK633.out 1).trans rfl, (blk_cell BK627.out 0).trans rfl, (blk_cell BK627.out 1).trans rfl, ((HB.out.cell (World.block_lt_of_cell? w _ hw643_0)).trans hw643_0)⟩ (fun hHeld => ?_)
                            clear hK K
                            refine norm_ (a' := ?_) ?_ ?_
                            rotate_left
                            · show Act.put _ (some 57) _ = _
                              simp only [Act.put, List.setIfInBounds_toArray, List.set_cons_zero, List.set_cons_succ, i64_w, i32_w]
                              rfl
                            refine pure_ (i := 9) (N := some 58) (v := ?_) (a' := ?_) #[true, true, true, true, true, true, true, true, true, true, false] rfl rfl (any_of HT_.out (by kernel_rfl)) (fun _ _ _ h => h) (Or.inl ⟨by rfl, ?_⟩) ?_ ?_
                            rotate_left
                            · intro w'
                              go_simp
                              with_reducible rfl
                            rotate_left
                            · simp only [Act.put, List.setIfInBounds_toArray, List.set_cons_zero, List.set_cons_succ, i64_w, i32_w]
                              rfl
                            refine last_ (i := 10) (N := none) #[true, true, true, true, true, true, true, true, true, true, true] rfl rfl (one_of HT_.out (by kernel_rfl)) (by decide) (fun K hK => ?_)
                            have hs39 : w37.cell? ⟨gb633, 0, none⟩ = some (u634000) := (blk_cell BK633.out 0).trans rfl
                            have hfs39 := blk_frozen BK633.out 0
                            have hns39_0 := NB627_633.out
                            have hns39_1 := NB628_633.out
                            have hms39_0 := NB633_627.out
                            have hms39_1 := NB633_628.out
                            refine skip_ (w1 := ?_) (by rfl) rfl ?_ ?_
                            rotate_left
                            · go_simp
                              rfl
                            refine hK.out _ _ ?_
                            clear hK K
                            refine done_ (done_of HT_.out (by kernel_rfl)) ?_
                            have n0_ : Aside0 (Kd.R (Kd.int .i64) 3 (w37.setCell ⟨gb633, 0, none⟩ (.slice Ao38 y644.length co38)) w.heap.size (fun k_ => some k_ ≠ (u7 : Value).ownBlock ∧ some k_ ≠ (.slice Ao38 y644.length co38 : Value).ownBlock) (.slice (some ad634) t630.length co19) t630) := ⟨by (with_reducible repeat (first | apply Kd.R_alloc | apply Kd.R_drewN | apply Kd.R_drew)); exact Kd.R_mono (Kd.R_far (p := ⟨gb633, 0, none⟩) (Kd.R_types HO_4.out BK633.out (by decide)) (fun _ hk => hk.2) (.slice Ao38 y644.length co38)) (fun _ hk => ⟨hk.1.1, hk.1.2⟩)⟩
                            have n1_ : Aside0 (Kd.R (Kd.int .i64) 3 (w37.setCell ⟨gb633, 0, none⟩ (.slice Ao38 y644.length co38)) w.heap.size (fun k_ => some k_ ≠ (.slice (some ad634) t630.length co19 : Value).ownBlock ∧ some k_ ≠ (.slice Ao38 y644.length co38 : Value).ownBlock) u7 x7_2) := ⟨by (with_reducible repeat (first | apply Kd.R_alloc | apply Kd.R_drewN | apply Kd.R_drew)); exact Kd.R_mono (Kd.R_far (p := ⟨gb633, 0, none⟩) (Kd.R_types HO_7.out BK633.out (by decide)) (fun _ hk => hk.2) (.slice Ao38 y644.length co38)) (fun _ hk => ⟨hk.1.1, hk.1.2⟩)⟩
                            have n2_ : Aside0 (Kd.S (Kd.slice 3 (Kd.int .i64)) 22 (w37.setCell ⟨gb633, 0, none⟩ (.slice Ao38 y644.length co38)) w.heap.size (fun k_ => some k_ ≠ (.slice (some ad634) t630.length co19 : Value).ownBlock ∧ some k_ ≠ (u7 : Value).ownBlock ∧ some k_ ≠ (.slice Ao38 y644.length co38 : Value).ownBlock) u634001 x634001_1) := ⟨by (with_reducible repeat (first | apply Kd.S_alloc | apply Kd.S_drewN | apply Kd.S_drew)); exact Kd.S_mono (Kd.S_far (p := ⟨gb633, 0, none⟩) (Kd.S_types HO_634001.out BK633.out (by decide)) (fun _ hk => hk.2) (.slice Ao38 y644.length co38)) (fun _ hk => ⟨hk.1.1.1, ⟨hk.1.1.2, hk.1.2⟩⟩)⟩
                            have n3_ : Aside0 (Kd.R (Kd.int .i64) 3 (w37.setCell ⟨gb633, 0, none⟩ (.slice Ao38 y644.length co38)) w.heap.size (fun k_ => some k_ ≠ (.slice (some ad634) t630.length co19 : Value).ownBlock ∧ some k_ ≠ (u7 : Value).ownBlock) (.slice Ao38 y644.length co38) y644) := ⟨by (with_reducible repeat (first | apply Kd.R_alloc | apply Kd.R_drewN | apply Kd.R_drew)); exact Kd.R_mono (Kd.R_far (p := ⟨gb633, 0, none⟩) (Kd.R_types HO646.out BK633.out (by decide)) (fun _ hk => hk.2) (.slice Ao38 y644.length co38)) (fun _ hk => ⟨hk.1.1, hk.1.2⟩)⟩
                            have n4_ : Aside0 ((w37.setCell ⟨gb633, 0, none⟩ (.slice Ao38 y644.length co38)).heap[gb627]? = some (.cells #[.slice (some ad643) l0_0.length c0_0, .slice A0_1 l0_1.length c0_1] 28 (0, 0))) := ⟨by (with_reducible repeat (first | refine blk_drewN ?_ _ | refine blk_drew ?_ | refine blk_alloc ?_ _)); refine blk_far ?_ NB627_633.out _; (with_reducible repeat (first | refine blk_drewN ?_ _ | refine blk_drew ?_ | refine blk_alloc ?_ _)); exact BK627.out⟩
                            have n5_ : Aside0 ((w37.setCell ⟨gb633, 0, none⟩ (.slice Ao38 y644.length co38)).heap[gb628]? = some (.cells #[.slice none 0 0, .slice none 0 0] 28 (0, 0))) := ⟨by (with_reducible repeat (first | refine blk_drewN ?_ _ | refine blk_drew ?_ | refine blk_alloc ?_ _)); refine blk_far ?_ NB628_633.out _; (with_reducible repeat (first | refine blk_drewN ?_ _ | refine blk_drew ?_ | refine blk_alloc ?_ _)); exact BK628.out⟩
                            have n6_ : Aside0 ((w37.setCell ⟨gb633, 0, none⟩ (.slice Ao38 y644.length co38)).heap[gb633]? = some (.cells #[.slice Ao38 y644.length co38, u634001] 28 (0, 0))) := ⟨by (with_reducible repeat (first | refine blk_drewN ?_ _ | refine blk_drew ?_ | refine blk_alloc ?_ _)); refine blk_put (cs := #[u634000, u634001]) ?_ 0 _ rfl; (with_reducible repeat (first | refine blk_drewN ?_ _ | refine blk_drew ?_ | refine blk_alloc ?_ _)); exact BK633.out⟩
                            have n7_ : Aside0 (Below w.heap.size w (w37.setCell ⟨gb633, 0, none⟩ (.slice Ao38 y644.length co38))) := ⟨by repeat (first | (with_reducible first | exact HB.out | apply below_alloc | apply pw_below_drewN | apply below_drew1 | refine below_set ?_ GE627.out | refine below_set ?_ GE628.out | refine below_set ?_ GE633.out) | exact HB.out)⟩
                            (try clear HO_4)
                            (try clear HO_7)
                            (try clear HO_634001)
                            (try clear HO646)
                            (try clear BK627)
                            (try clear BK628)
                            (try clear BK633)
                            (try clear HB)
                            generalize (w37.setCell ⟨gb633, 0, none⟩ (.slice Ao38 y644.length co38)) = w40 at n0_ n1_ n2_ n3_ n4_ n5_ n6_ n7_ ⊢
                            have HO_4 := n0_
                            have HO_7 := n1_
                            have HO_634001 := n2_
                            have HO646 := n3_
                            have BK627 := n4_
                            have BK628 := n5_
                            have BK633 := n6_
                            have HB := n7_
                            clear n0_ n1_ n2_ n3_ n4_ n5_ n6_ n7_
                            have hnb41 := NB633_627.out
                            have hnc41 := NB627_633.out
                            have hnb42 := NB633_628.out
                            have hnc42 := NB628_633.out
                            have hcz43_0 : w40.cell? ⟨gb633, 0, none⟩ = some (.slice Ao38 y644.length co38) := (blk_cell BK633.out 0).trans rfl
                            have hcz43_1 : w40.cell? ⟨gb633, 1, none⟩ = some (u634001) := (blk_cell BK633.out 1).trans rfl
                            have hfz43_0 := blk_frozen BK633.out 0
                            have hfz43_1 := blk_frozen BK633.out 1
                            obtain ⟨Ao45, co45, eo45⟩ := Kd.R_slice HO_7.out
                            subst eo45
                            try go_wp2_with (first | ((with_reducible refine gate_builtin (b := .append) (xs := #[.tmp 60, .tmp 62]) rfl ?_); at_builtin; refine Kd.S_append (Kd.slice 3 (Kd.int .i64)) (w0 := w) w.heap.size rfl (.tmp 60) (.tmp 62) 23 22 (.slice none 0 0) 24 rfl Try.underlying23 info22 rfl (by decide) (by omega) u634001 x634001_1 x7_2 [.slice Ao45 x7_2.length co45] (fun k_ => some k_ ≠ (.slice (some ad634) t630.length co19 : Value).ownBlock ∧ some k_ ≠ (.slice Ao38 y644.length co38 : Value).ownBlock) (fun k_ => some k_ = (.slice Ao45 x7_2.length co45 : Value).ownBlock) rfl rfl ?aP (fun k_ hk_ => ((Kd.R_mono (ok' := fun k_ => ((fun k_ => some k_ ≠ (.slice (some ad634) t630.length co19 : Value).ownBlock ∧ some k_ ≠ (.slice Ao38 y644.length co38 : Value).ownBlock)) k_ ∧ some k_ ≠ (u634001 : Value).ownBlock) (Kd.R_apart' (HO_7.out) (Kd.S_typed HO_634001.out) (by decide)) (fun k_ hk => ⟨⟨hk.1.1, hk.1.2⟩, hk.2⟩))).1 k_ hk_.symm) ?aF ?aO ?aB ?aS ?aL ?_; (case aP => exact Kd.M_row (Kd.R_mono (Kd.R_tight rfl (Kd.R_mono (ok' := fun k_ => ((fun k_ => some k_ ≠ (.slice (some ad634) t630.length co19 : Value).ownBlock ∧ some k_ ≠ (.slice Ao38 y644.length co38 : Value).ownBlock)) k_ ∧ some k_ ≠ (u634001 : Value).ownBlock) (Kd.R_apart' (HO_7.out) (Kd.S_typed HO_634001.out) (by decide)) (fun k_ hk => ⟨⟨hk.1.1, hk.1.2⟩, hk.2⟩))) (fun _ h_ => h_))); (case aB => exact (by repeat (first | (with_reducible first | exact HB.out | apply below_alloc | apply pw_below_drewN | apply below_drew1 | refine below_set ?_ GE627.out | refine below_set ?_ GE628.out | refine below_set ?_ GE633.out) | exact HB.out))); (case aF => exact (fun k_ hk => ⟨Kd.fresh' (Kd.R_lt (by (with_reducible repeat (first | apply Kd.R_alloc | apply Kd.R_drewN | apply Kd.R_drew)); exact HO_4.out)) k_ hk, Kd.fresh' (Kd.R_lt (by (with_reducible repeat (first | apply Kd.R_alloc | apply Kd.R_drewN | apply Kd.R_drew)); exact HO646.out)) k_ hk⟩)); (case aO => exact (by (with_reducible repeat (first | apply Kd.S_alloc | apply Kd.S_drewN | apply Kd.S_drew)); exact Kd.S_mono HO_634001.out (fun k_ hk => ⟨⟨hk.1, hk.2.2⟩, fun e_ => hk.2.1 e_⟩))); (case aS => exact (below_size (by repeat (first | (with_reducible first | exact HB.out | apply below_alloc | apply pw_below_drewN | apply below_drew1 | refine below_set ?_ GE627.out | refine below_set ?_ GE628.out | refine below_set ?_ GE633.out) | exact HB.out)))); (case aL => have := LMc35.out; omega); intro v648 w44 ho hb hg hat; rw [← Ny647.out] at ho; have n0_ := Aside0.mk (Kd.R_over' (by (with_reducible repeat (first | apply Kd.R_alloc | apply Kd.R_drewN | apply Kd.R_drew)); exact HO_4.out) (Kd.S_typed (by (with_reducible repeat (first | apply Kd.S_alloc | apply Kd.S_drewN | apply Kd.S_drew)); exact HO_634001.out)) (by decide) hg); have n1_ := Aside0.mk (blk_grown (g := gb627) (o := .cells #[.slice (some ad643) l0_0.length c0_0, .slice A0_1 l0_1.length c0_1] 28 (0, 0)) (by (with_reducible repeat (first | refine blk_drewN ?_ _ | refine blk_drew ?_ | refine blk_alloc ?_ _)); exact BK627.out) hg (Kd.S_ne HO_634001.out BK627.out (by decide))); have n2_ := Aside0.mk (blk_grown (g := gb628) (o := .cells #[.slice none 0 0, .slice none 0 0] 28 (0, 0)) (by (with_reducible repeat (first | refine blk_drewN ?_ _ | refine blk_drew ?_ | refine blk_alloc ?_ _)); exact BK628.out) hg (Kd.S_ne HO_634001.out BK628.out (by decide))); have n3_ := Aside0.mk (blk_grown (g := gb633) (o := .cells #[.slice Ao38 y644.length co38, u634001] 28 (0, 0)) (by (with_reducible repeat (first | refine blk_drewN ?_ _ | refine blk_drew ?_ | refine blk_alloc ?_ _)); exact BK633.out) hg (Kd.S_ne HO_634001.out BK633.out (by decide))); have n4_ := Aside0.mk (Kd.R_over' (by (with_reducible repeat (first | apply Kd.R_alloc | apply Kd.R_drewN | apply Kd.R_drew)); exact HO646.out) (Kd.S_typed (by (with_reducible repeat (first | apply Kd.S_alloc | apply Kd.S_drewN | apply Kd.S_drew)); exact HO_634001.out)) (by decide) hg); have n5_ := Aside0.mk (hb); have n6_ := Aside0.mk (ho); clear HO_4; clear BK627; clear BK628; clear BK633; clear HO646; clear HB; clear HO_634001; clear HO_7; have HO_4 := n0_; have BK627 := n1_; have BK628 := n2_; have BK633 := n3_; have HO646 := n4_; have HB := n5_; have HO649 := n6_; clear n0_ n1_ n2_ n3_ n4_ n5_ n6_; clear ho hb hg hat; obtain ⟨Ao46, co46, eo46⟩ := Kd.S_slice HO649.out; subst eo46; have hcz47_0 : w44.cell? ⟨gb633, 0, none⟩ = some (.slice Ao38 y644.length co38) := (blk_cell BK633.out 0).trans rfl; have hcz47_1 : w44.cell? ⟨gb633, 1, none⟩ = some (u634001) := (blk_cell BK633.out 1).trans rfl; have hfz47_0 := blk_frozen BK633.out 0; have hfz47_1 := blk_frozen BK633.out 1))
                            go_roundg k2
                            case measure => have := HK1.out; have := HK2.out; omega
                            case rel => exact ⟨(wrap64 (x6_1 + 1)), (y644), (y647), (.slice Ao38 y644.length co38), (.slice Ao46 y647.length co46), (by first | rfl | (simp; done) | (simp [*]; done)), H', ⟨by have := HK1.out; have := HK2.out; omega⟩, ⟨by (with_reducible repeat (first | apply Kd.R_alloc | apply Kd.R_drewN | apply Kd.R_drew)); exact Kd.R_mono (Kd.R_far (p := ⟨gb633, 1, none⟩) (Kd.R_types HO_4.out BK633.out (by decide)) (fun _ hk => hk.2) (.slice Ao46 y647.length co46)) (fun _ hk => hk.1.2)⟩, ⟨by (with_reducible repeat (first | apply Kd.R_alloc | apply Kd.R_drewN | apply Kd.R_drew)); exact Kd.R_mono (Kd.R_far (p := ⟨gb633, 1, none⟩) (Kd.R_types HO646.out BK633.out (by decide)) (fun _ hk => hk.2) (.slice Ao46 y647.length co46)) (fun _ hk => hk.1.1)⟩, ⟨by (with_reducible repeat (first | apply Kd.S_alloc | apply Kd.S_drewN | apply Kd.S_drew)); exact Kd.S_mono (Kd.S_far (p := ⟨gb633, 1, none⟩) (Kd.S_types HO649.out BK633.out (by decide)) (fun _ hk => hk.2) (.slice Ao46 y647.length co46)) (fun _ hk => ⟨hk.1.1, hk.1.2⟩)⟩, ⟨by (with_reducible repeat (first | refine blk_drewN ?_ _ | refine blk_drew ?_ | refine blk_alloc ?_ _)); refine blk_far ?_ NB627_633.out _; (with_reducible repeat (first | refine blk_drewN ?_ _ | refine blk_drew ?_ | refine blk_alloc ?_ _)); exact BK627.out⟩, ⟨by (with_reducible repeat (first | refine blk_drewN ?_ _ | refine blk_drew ?_ | refine blk_alloc ?_ _)); refine blk_far ?_ NB628_633.out _; (with_reducible repeat (first | refine blk_drewN ?_ _ | refine blk_drew ?_ | refine blk_alloc ?_ _)); exact BK628.out⟩, ⟨by (with_reducible repeat (first | refine blk_drewN ?_ _ | refine blk_drew ?_ | refine blk_alloc ?_ _)); refine blk_put (cs := #[.slice Ao38 y644.length co38, u634001]) ?_ 1 _ rfl; (with_reducible repeat (first | refine blk_drewN ?_ _ | refine blk_drew ?_ | refine blk_alloc ?_ _)); exact BK633.out⟩, ⟨by repeat (first | (with_reducible first | exact HB.out | apply below_alloc | apply pw_below_drewN | apply below_drew1 | refine below_set ?_ GE627.out | refine below_set ?_ GE628.out | refine below_set ?_ GE633.out) | exact HB.out)⟩⟩
                          · rw [if_neg c35] at H
                            exact absurd H (by simp)
                        · rw [if_neg c34] at H
                          exact absurd H (by simp)
                      · rw [if_neg c33] at H
                        exact absurd H (by simp)
                    · rw [if_neg c32] at H
                      exact absurd H (by simp)
            · rw [if_neg c18] at H
              have c18b0 : ((rd t630 x6_1) == x6_1) = false := beq_eq_false_iff_ne.mpr c18
              have c18b1 : ((rd t630 x6_1) != x6_1) = true := bne_iff_ne.mpr c18
              have H' := Aside0.mk H
              clear H
              obtain ⟨Ao48, co48, eo48⟩ := Kd.R_slice HO_4.out
              subst eo48
              have p634 : 0 ≤ (x6_1 : Int) := of_decide_eq_true (by first | (with_reducible assumption) | assumption)
              have q634 : x6_1 < (t630.length : Int) := of_decide_eq_true (by first | (with_reducible assumption) | assumption)
              obtain ⟨ad634, e634, hx634_0⟩ := Kd.at_int (Kd.R_reads' HO_4.out).2.2 x6_1 p634 q634
              cases e634
              replace p634 := eq_true p634
              replace q634 := eq_true q634
              go_wp2
              go_roundg k1
              case measure => have := HK1.out; omega
              case rel => exact ⟨(wrap64 (x6_1 + 1)), (x634000_1), (x634001_1), (u634000), (u634001), (by first | rfl | (simp; done) | (simp [*]; done)), H', ⟨by have := HK1.out; omega⟩, ⟨by (with_reducible repeat (first | apply Kd.R_alloc | apply Kd.R_drewN | apply Kd.R_drew)); exact HO_4.out⟩, ⟨by (with_reducible repeat (first | apply Kd.R_alloc | apply Kd.R_drewN | apply Kd.R_drew)); exact HO_634000.out⟩, ⟨by (with_reducible repeat (first | apply Kd.S_alloc | apply Kd.S_drewN | apply Kd.S_drew)); exact HO_634001.out⟩, ⟨by (with_reducible repeat (first | refine blk_drewN ?_ _ | refine blk_drew ?_ | refine blk_alloc ?_ _)); exact BK627.out⟩, ⟨by (with_reducible repeat (first | refine blk_drewN ?_ _ | refine blk_drew ?_ | refine blk_alloc ?_ _)); exact BK628.out⟩, ⟨by (with_reducible repeat (first | refine blk_drewN ?_ _ | refine blk_drew ?_ | refine blk_alloc ?_ _)); exact BK633.out⟩, ⟨by repeat (first | (with_reducible first | exact HB.out | apply below_alloc | apply pw_below_drewN | apply below_drew1 | refine below_set ?_ GE627.out | refine below_set ?_ GE628.out | refine below_set ?_ GE633.out) | exact HB.out)⟩⟩
          · rw [if_neg c17] at H
            exact absurd H (by simp)
        · rw [if_neg c16] at H
          have c16b0 : decide (x6_1 < (t630.length : Int)) = false := decide_eq_false c16
          clear c16
          simp only [Option.some.injEq, Prod.mk.injEq] at H
          obtain ⟨rfl, rfl, rfl⟩ := H
          obtain ⟨Ao49, co49, eo49⟩ := Kd.R_slice HO_4.out
          subst eo49
          have hnb50 := NB633_627.out
          have hnc50 := NB627_633.out
          have hnb51 := NB633_628.out
          have hnc51 := NB628_633.out
          have hcz52_0 : wr.cell? ⟨gb633, 0, none⟩ = some (u634000) := (blk_cell BK633.out 0).trans rfl
          have hcz52_1 : wr.cell? ⟨gb633, 1, none⟩ = some (u634001) := (blk_cell BK633.out 1).trans rfl
          have hfz52_0 := blk_frozen BK633.out 0
          have hfz52_1 := blk_frozen BK633.out 1
          obtain ⟨Ao53, co53, eo53⟩ := Kd.R_slice HO_634000.out
          subst eo53
          have hnb54 := NB628_627.out
          have hnc54 := NB627_628.out
          have hcz55_0 : wr.cell? ⟨gb628, 0, none⟩ = some (.slice none 0 0) := (blk_cell BK628.out 0).trans rfl
          have hcz55_1 : wr.cell? ⟨gb628, 1, none⟩ = some (.slice none 0 0) := (blk_cell BK628.out 1).trans rfl
          have hfz55_0 := blk_frozen BK628.out 0
          have hfz55_1 := blk_frozen BK628.out 1
          obtain ⟨Ao56, co56, eo56⟩ := Kd.S_slice HO_634001.out
          subst eo56
          go_wp2
          refine bodyPost_ret (results_ct rfl _ _ gb628 28 #[.slice Ao53 x634000_1.length co53, .slice Ao56 x634001_1.length co56] (0, 0) _ rfl (by (with_reducible repeat (first | refine blk_drewN ?_ _ | refine blk_drew ?_ | refine blk_alloc ?_ _)); refine blk_put (cs := #[.slice Ao53 x634000_1.length co53, .slice none 0 0]) ?_ 1 _ rfl; (with_reducible repeat (first | refine blk_drewN ?_ _ | refine blk_drew ?_ | refine blk_alloc ?_ _)); refine blk_put (cs := #[.slice none 0 0, .slice none 0 0]) ?_ 0 _ rfl; (with_reducible repeat (first | refine blk_drewN ?_ _ | refine blk_drew ?_ | refine blk_alloc ?_ _)); exact BK628.out) Try.underlying28 rfl (by kernel_rfl)) rfl ?_
          exact ⟨_, _, by first | rfl | (simp [errW_none, errW_some] <;> rfl) | (simp [*, errW_none, errW_some] <;> rfl), by (with_reducible repeat (first | apply Kd.R_alloc | apply Kd.R_drewN | apply Kd.R_drew)); exact Kd.R_mono (Kd.R_far (p := ⟨gb628, 1, none⟩) (Kd.R_far (p := ⟨gb628, 0, none⟩) (Kd.R_types HO_634000.out BK628.out (by decide)) (fun _ hk => hk.2) (.slice Ao53 x634000_1.length co53)) (fun _ hk => hk.2) (.slice Ao56 x634001_1.length co56)) (fun _ hk => trivial), by (with_reducible repeat (first | apply Kd.S_alloc | apply Kd.S_drewN | apply Kd.S_drew)); exact Kd.S_mono (Kd.S_far (p := ⟨gb628, 1, none⟩) (Kd.S_far (p := ⟨gb628, 0, none⟩) (Kd.S_types HO_634001.out BK628.out (by decide)) (fun _ hk => hk.2) (.slice Ao53 x634000_1.length co53)) (fun _ hk => hk.2) (.slice Ao56 x634001_1.length co56)) (fun _ hk => hk.1.2), by repeat (first | (with_reducible first | exact HB.out | apply below_alloc | apply pw_below_drewN | apply below_drew1 | refine below_set ?_ GE627.out | refine below_set ?_ GE628.out | refine below_set ?_ GE633.out) | exact HB.out)⟩
  · replace c3 := Bool.eq_false_iff.mpr c3
    subst c3
    have H1 : (some (([] : List Int), ([] : List (List Int)), false)) = some (r1, r2, r3) := by rw [if_neg (show ¬ (false = true) by decide)] at H; exact H
    clear H
    have H := H1
    clear H1
    simp only [Option.some.injEq, Prod.mk.injEq] at H
    obtain ⟨rfl, rfl, rfl⟩ := H
    go_enter Try.func35, Try.ntmps35
    go_wp2_with (first | ((with_reducible refine gate_dst (N := 1) rfl ?_); refine box_event ?hg (N := 1) ?hd (cs := #[.slice A0_0 l0_0.length c0_0, .slice A0_1 l0_1.length c0_1]) (t := 28) ?hr ?_; (case hd => rfl); (case hg => rfl); (case hr => first | (go_simp; done) | (go_simp; rfl)); intro gb627 hg w57 hbox hb; have n0_ := Aside0.mk (below_step (by repeat (first | (with_reducible first | exact HB.out | apply below_alloc | apply pw_below_drewN | apply below_drew1) | exact HB.out)) hb); have n1_ := Aside0.mk (hbox); have n2_ := Aside0.mk ((by rw [hg]; exact (below_size (by repeat (first | (with_reducible first | exact HB.out | apply below_alloc | apply pw_below_drewN | apply below_drew1) | exact HB.out))) : w.heap.size ≤ gb627)); have n3_ := Aside0.mk ((by rw [hg]; exact (below_size (by repeat (first | (with_reducible first | exact HB.out | apply below_alloc | apply pw_below_drewN | apply below_drew1) | exact HB.out))) : w.heap.size ≤ gb627)); clear HB; have HB := n0_; have BK627 := n1_; have GW627 := n2_; have GE627 := n3_; clear n0_ n1_ n2_ n3_; clear hb hbox hg) | ((with_reducible refine gate_dst (N := 2) rfl ?_); refine box_event ?hg (N := 2) ?hd (cs := #[.slice none 0 0, .slice none 0 0]) (t := 28) ?hr ?_; (case hd => rfl); (case hg => rfl); (case hr => first | (go_simp; done) | (go_simp; rfl)); intro gb628 hg w58 hbox hb; have n0_ := Aside0.mk (blk_below (g := gb627) (o := .cells #[.slice A0_0 l0_0.length c0_0, .slice A0_1 l0_1.length c0_1] 28 (0, 0)) (by (with_reducible repeat (first | refine blk_drewN ?_ _ | refine blk_drew ?_ | refine blk_alloc ?_ _)); exact BK627.out) hb); have n1_ := Aside0.mk (below_step (by repeat (first | (with_reducible first | exact HB.out | apply below_alloc | apply pw_below_drewN | apply below_drew1 | refine below_set ?_ GE627.out) | exact HB.out)) hb); have n2_ := Aside0.mk (hbox); have n3_ := Aside0.mk ((by rw [hg]; exact (below_size (by repeat (first | (with_reducible first | exact HB.out | apply below_alloc | apply pw_below_drewN | apply below_drew1 | refine below_set ?_ GE627.out) | exact HB.out))) : w.heap.size ≤ gb628)); have n4_ := Aside0.mk ((by rw [hg]; exact (below_size (by repeat (first | (with_reducible first | exact HB.out | apply below_alloc | apply pw_below_drewN | apply below_drew1 | refine below_set ?_ GE627.out) | exact HB.out))) : w.heap.size ≤ gb628)); have n5_ := Aside0.mk ((by rw [hg]; exact Nat.ne_of_lt (blk_lt (g := gb627) (o := .cells #[.slice A0_0 l0_0.length c0_0, .slice A0_1 l0_1.length c0_1] 28 (0, 0)) (by (with_reducible repeat (first | refine blk_drewN ?_ _ | refine blk_drew ?_ | refine blk_alloc ?_ _)); exact BK627.out)) : gb627 ≠ gb628)); have n6_ := Aside0.mk ((by rw [hg]; exact Nat.ne_of_gt (blk_lt (g := gb627) (o := .cells #[.slice A0_0 l0_0.length c0_0, .slice A0_1 l0_1.length c0_1] 28 (0, 0)) (by (with_reducible repeat (first | refine blk_drewN ?_ _ | refine blk_drew ?_ | refine blk_alloc ?_ _)); exact BK627.out)) : gb628 ≠ gb627)); clear BK627; clear HB; have BK627 := n0_; have HB := n1_; have BK628 := n2_; have GW628 := n3_; have GE628 := n4_; have NB627_628 := n5_; have NB628_627 := n6_; clear n0_ n1_ n2_ n3_ n4_ n5_ n6_; clear hb hbox hg; have hnb59 := NB627_628.out; have hnc59 := NB628_627.out; have hcz60_0 : w58.cell? ⟨gb627, 0, none⟩ = some (.slice A0_0 l0_0.length c0_0) := (blk_cell BK627.out 0).trans rfl; have hcz60_1 : w58.cell? ⟨gb627, 1, none⟩ = some (.slice A0_1 l0_1.length c0_1) := (blk_cell BK627.out 1).trans rfl; have hfz60_0 := blk_frozen BK627.out 0; have hfz60_1 := blk_frozen BK627.out 1) | ((with_reducible refine gate_callee (f := 14) rfl ?_); refine goesL_ (some 10) rfl rfl Try.func14 (by kernel_rfl) rfl #[.agg #[.slice A0_0 l0_0.length c0_0, .slice A0_1 l0_1.length c0_1]] rfl (by (try simp only [List.map_toArray, List.map_cons, List.map_nil]); first | done | rfl | (simp only [List.length_drop, List.length_take]; rfl)) ?_; (with_reducible refine (spec_ChancesOk.calls k _ _ l0_0 _ _ l0_1 false _ ?side1 ?side2 ?side3 ?side4 A2.out).mono ?_); (case side1 => repeat (first | exact (Kd.C_below HR0_0.out HB.out) | (with_reducible refine Kd.C_alloc ?_ _) | (with_reducible refine Kd.C_drewN ?_ _) | (with_reducible refine Kd.C_drew ?_))); (case side2 => exact HC0_0.out); (case side3 => repeat (first | exact (Kd.C_below HR0_1.out HB.out) | (with_reducible refine Kd.C_alloc ?_ _) | (with_reducible refine Kd.C_drewN ?_ _) | (with_reducible refine Kd.C_drew ?_))); (case side4 => exact HC0_1.out); rintro e w61 ⟨rfl, hb⟩; refine ⟨_, rfl, ?_⟩; have n0_ := Aside0.mk (blk_below (g := gb627) (o := .cells #[.slice A0_0 l0_0.length c0_0, .slice A0_1 l0_1.length c0_1] 28 (0, 0)) (by (with_reducible repeat (first | refine blk_drewN ?_ _ | refine blk_drew ?_ | refine blk_alloc ?_ _)); exact BK627.out) hb); have n1_ := Aside0.mk (blk_below (g := gb628) (o := .cells #[.slice none 0 0, .slice none 0 0] 28 (0, 0)) (by (with_reducible repeat (first | refine blk_drewN ?_ _ | refine blk_drew ?_ | refine blk_alloc ?_ _)); exact BK628.out) hb); have n2_ := Aside0.mk (below_step (by repeat (first | (with_reducible first | exact HB.out | apply below_alloc | apply pw_below_drewN | apply below_drew1 | refine below_set ?_ GE627.out | refine below_set ?_ GE628.out) | exact HB.out)) hb); clear BK627; clear BK628; clear HB; have BK627 := n0_; have BK628 := n1_; have HB := n2_; clear n0_ n1_ n2_; (try clear hb); (try clear hb2); (try clear hk); (try clear hi); have hcz62_0 : w61.cell? ⟨gb628, 0, none⟩ = some (.slice none 0 0) := (blk_cell BK628.out 0).trans rfl; have hcz62_1 : w61.cell? ⟨gb628, 1, none⟩ = some (.slice none 0 0) := (blk_cell BK628.out 1).trans rfl; have hfz62_0 := blk_frozen BK628.out 0; have hfz62_1 := blk_frozen BK628.out 1))
    refine bodyPost_ret (results_ct rfl _ _ gb628 28 #[.slice none 0 0, .slice none 0 0] (0, 0) _ rfl (by (with_reducible repeat (first | refine blk_drewN ?_ _ | refine blk_drew ?_ | refine blk_alloc ?_ _)); refine blk_put (cs := #[.slice none 0 0, .slice none 0 0]) ?_ 1 _ rfl; (with_reducible repeat (first | refine blk_drewN ?_ _ | refine blk_drew ?_ | refine blk_alloc ?_ _)); refine blk_put (cs := #[.slice none 0 0, .slice none 0 0]) ?_ 0 _ rfl; (with_reducible repeat (first | refine blk_drewN ?_ _ | refine blk_drew ?_ | refine blk_alloc ?_ _)); exact BK628.out) Try.underlying28 rfl (by kernel_rfl)) rfl ?_
    exact ⟨_, _, by first | rfl | (simp [errW_none, errW_some] <;> rfl) | (simp [*, errW_none, errW_some] <;> rfl), by first | exact Kd.R_nil _ _ _ _ _ | exact Kd.N_nil _ _ _ _ _ | exact Kd.V_nil _ _ _ _ _ | exact Kd.Q_nil _ _ _ _ _ | exact Kd.S_nil _ _ _ _ _, by first | exact Kd.S_nil _ _ _ _ _ | exact Kd.N_nil _ _ _ _ _ | exact Kd.V_nil _ _ _ _ _ | exact Kd.Q_nil _ _ _ _ _ | exact Kd.R_nil _ _ _ _ _, by repeat (first | (with_reducible first | exact HB.out | apply below_alloc | apply pw_below_drewN | apply below_drew1 | refine below_set ?_ GE627.out | refine below_set ?_ GE628.out) | exact HB.out)⟩

end Go.Proofs.Ytablnoddkllhmaa.P
