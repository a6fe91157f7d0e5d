/- What the Go functions that the laws reach compute, and that their calls come to just that: told by a program of this session (aprint.py). No condition. -/
import Derived.Test.YtablnoddkllhmaaP0
namespace Go.Proofs.Ytablnoddkllhmaa.P
open Go.RowKit Go.Proofs.YtablnoddkllhmaaW.PrintWords Go.Proofs.YtablnoddkllhmaaW.PrintLast Go.Proofs.YtablnoddkllhmaaW.PrintMore
attribute [local go_sem] max2_int min2_int max_two min_two max_three min_three max_four min_four   -- for this text's walks alone
set_option linter.unusedVariables false
set_option linter.unusedSimpArgs false

/-! ### impl_ChancesOk: function 16 -/
mutual
def impl_ChancesOk.j0 : Nat → Int → Bool → List Int → List (List Int) → Option (Bool)
  | 0, _, _, _, _ => none
  | k + 1, x3, x24, x139000, x139001 => if x24 = true then (some false) else (impl_ChancesOk.l0 k x3 x139001 (x139001.length : Int) 0 x139000 x139001)
def impl_ChancesOk.l0 : Nat → Int → List (List Int) → Int → Int → List Int → List (List Int) → Option (Bool)
  | 0, _, _, _, _, _, _ => none
  | k + 1, x3, x26, x27, x28, x139000, x139001 => if x28 < x27 then (if 0 ≤ x28 then (if x28 < (x26.length : Int) then (if x28 < (x139000.length : Int) then (if (rd x139000 x28) < 0 then (impl_ChancesOk.j2 k x3 (rd_L1 x26 x28) x26 x27 x28 true x139000 x139001) else (if (rd x139000 x28) > 9 then (impl_ChancesOk.j2 k x3 (rd_L1 x26 x28) x26 x27 x28 true x139000 x139001) else (impl_ChancesOk.j2 k x3 (rd_L1 x26 x28) x26 x27 x28 (((rd_L1 x26 x28).length : Int) != x3) x139000 x139001))) else (none)) else (none)) else (none)) else (some true)
def impl_ChancesOk.j2 : Nat → Int → List Int → List (List Int) → Int → Int → Bool → List Int → List (List Int) → Option (Bool)
  | 0, _, _, _, _, _, _, _, _ => none
  | k + 1, x3, x5, x26, x27, x28, x52, x139000, x139001 => if x52 = true then (some false) else (impl_ChancesOk.l1 k x3 0 x26 x27 x28 x5 (x5.length : Int) 0 x139000 x139001)
def impl_ChancesOk.l1 : Nat → Int → Int → List (List Int) → Int → Int → List Int → Int → Int → List Int → List (List Int) → Option (Bool)
  | 0, _, _, _, _, _, _, _, _, _, _ => none
  | k + 1, x3, x6, x26, x27, x28, x53, x54, x55, x139000, x139001 => if x55 < x54 then (if 0 ≤ x55 then (if x55 < (x53.length : Int) then (if (rd x53 x55) < 0 then (some false) else (if (rd x53 x55) > 6 then (some false) else (impl_ChancesOk.l1 k x3 (wrap64 (x6 + (rd x53 x55))) x26 x27 x28 x53 x54 (wrap64 (x55 + 1)) x139000 x139001))) else (none)) else (none)) else (if x6 = 6 then (impl_ChancesOk.l0 k x3 x26 x27 (wrap64 (x28 + 1)) x139000 x139001) else (some false))
end
def impl_ChancesOk.f (k : Nat) (l0_0 : List Int) (l0_1 : List (List Int)) : Option (Bool) := if (l0_0.length : Int) < 1 then (impl_ChancesOk.j0 k (l0_0.length : Int) true l0_0 l0_1) else (if (l0_0.length : Int) > 60 then (impl_ChancesOk.j0 k (l0_0.length : Int) true l0_0 l0_1) else (impl_ChancesOk.j0 k (l0_0.length : Int) ((l0_1.length : Int) != (l0_0.length : Int)) l0_0 l0_1))
theorem impl_ChancesOk.mono_l : ∀ k, (∀ y0 y1 y2 y3, LeO (impl_ChancesOk.j0 k y0 y1 y2 y3) (impl_ChancesOk.j0 (k + 1) y0 y1 y2 y3)) ∧ (∀ y0 y1 y2 y3 y4 y5, LeO (impl_ChancesOk.l0 k y0 y1 y2 y3 y4 y5) (impl_ChancesOk.l0 (k + 1) y0 y1 y2 y3 y4 y5)) ∧ (∀ y0 y1 y2 y3 y4 y5 y6 y7, LeO (impl_ChancesOk.j2 k y0 y1 y2 y3 y4 y5 y6 y7) (impl_ChancesOk.j2 (k + 1) y0 y1 y2 y3 y4 y5 y6 y7)) ∧ (∀ y0 y1 y2 y3 y4 y5 y6 y7 y8 y9, LeO (impl_ChancesOk.l1 k y0 y1 y2 y3 y4 y5 y6 y7 y8 y9) (impl_ChancesOk.l1 (k + 1) y0 y1 y2 y3 y4 y5 y6 y7 y8 y9))
  | 0 => ⟨fun _ _ _ _ r h => by simp [impl_ChancesOk.j0] at h, fun _ _ _ _ _ _ r h => by simp [impl_ChancesOk.l0] at h, fun _ _ _ _ _ _ _ _ r h => by simp [impl_ChancesOk.j2] at h, fun _ _ _ _ _ _ _ _ _ _ r h => by simp [impl_ChancesOk.l1] at h⟩
  | k + 1 => by
    obtain ⟨ih0, ih1, ih2, ih3⟩ := impl_ChancesOk.mono_l k
    refine ⟨?_, ?_, ?_, ?_⟩
    · intro y0 y1 y2 y3
      unfold impl_ChancesOk.j0
      repeat' first
      | (with_reducible exact ih0 _ _ _ _)
      | (with_reducible exact ih1 _ _ _ _ _ _)
      | (with_reducible exact ih2 _ _ _ _ _ _ _ _)
      | (with_reducible exact ih3 _ _ _ _ _ _ _ _ _ _)
      | (with_reducible exact LeO.refl _)
      | (with_reducible exact LeO.none _)
      | (with_reducible refine LeO.ite ?_ ?_)
      | (with_reducible refine LeO.bind ?_ (fun _ => ?_))
      | exact ih0 _ _ _ _
      | exact ih1 _ _ _ _ _ _
      | exact ih2 _ _ _ _ _ _ _ _
      | exact ih3 _ _ _ _ _ _ _ _ _ _
      | exact LeO.none _
      | refine LeO.ite ?_ ?_
      | refine LeO.bind ?_ (fun _ => ?_)
    · intro y0 y1 y2 y3 y4 y5
      unfold impl_ChancesOk.l0
      repeat' first
      | (with_reducible exact ih0 _ _ _ _)
      | (with_reducible exact ih1 _ _ _ _ _ _)
      | (with_reducible exact ih2 _ _ _ _ _ _ _ _)
      | (with_reducible exact ih3 _ _ _ _ _ _ _ _ _ _)
      | (with_reducible exact LeO.refl _)
      | (with_reducible exact LeO.none _)
      | (with_reducible refine LeO.ite ?_ ?_)
      | (with_reducible refine LeO.bind ?_ (fun _ => ?_))
      | exact ih0 _ _ _ _
      | exact ih1 _ _ _ _ _ _
      | exact ih2 _ _ _ _ _ _ _ _
      | exact ih3 _ _ _ _ _ _ _ _ _ _
      | exact LeO.none _
      | refine LeO.ite ?_ ?_
      | refine LeO.bind ?_ (fun _ => ?_)
    · intro y0 y1 y2 y3 y4 y5 y6 y7
      unfold impl_ChancesOk.j2
      repeat' first
      | (with_reducible exact ih0 _ _ _ _)
      | (with_reducible exact ih1 _ _ _ _ _ _)
      | (with_reducible exact ih2 _ _ _ _ _ _ _ _)
      | (with_reducible exact ih3 _ _ _ _ _ _ _ _ _ _)
      | (with_reducible exact LeO.refl _)
      | (with_reducible exact LeO.none _)
      | (with_reducible refine LeO.ite ?_ ?_)
      | (with_reducible refine LeO.bind ?_ (fun _ => ?_))
      | exact ih0 _ _ _ _
      | exact ih1 _ _ _ _ _ _
      | exact ih2 _ _ _ _ _ _ _ _
      | exact ih3 _ _ _ _ _ _ _ _ _ _
      | exact LeO.none _
      | refine LeO.ite ?_ ?_
      | refine LeO.bind ?_ (fun _ => ?_)
    · intro y0 y1 y2 y3 y4 y5 y6 y7 y8 y9
      unfold impl_ChancesOk.l1
      repeat' first
      | (with_reducible exact ih0 _ _ _ _)
      | (with_reducible exact ih1 _ _ _ _ _ _)
      | (with_reducible exact ih2 _ _ _ _ _ _ _ _)
      | (with_reducible exact ih3 _ _ _ _ _ _ _ _ _ _)
      | (with_reducible exact LeO.refl _)
      | (with_reducible exact LeO.none _)
      | (with_reducible refine LeO.ite ?_ ?_)
      | (with_reducible refine LeO.bind ?_ (fun _ => ?_))
      | exact ih0 _ _ _ _
      | exact ih1 _ _ _ _ _ _
      | exact ih2 _ _ _ _ _ _ _ _
      | exact ih3 _ _ _ _ _ _ _ _ _ _
      | exact LeO.none _
      | refine LeO.ite ?_ ?_
      | refine LeO.bind ?_ (fun _ => ?_)
theorem impl_ChancesOk.mono : ∀ a0 a1 k, LeO (impl_ChancesOk.f k a0 a1) (impl_ChancesOk.f (k + 1) a0 a1) := by
  intro a0 a1 k
  obtain ⟨ih0, ih1, ih2, ih3⟩ := impl_ChancesOk.mono_l k
  unfold impl_ChancesOk.f
  repeat' first
      | (with_reducible exact ih0 _ _ _ _)
      | (with_reducible exact ih1 _ _ _ _ _ _)
      | (with_reducible exact ih2 _ _ _ _ _ _ _ _)
      | (with_reducible exact ih3 _ _ _ _ _ _ _ _ _ _)
      | (with_reducible exact LeO.refl _)
      | (with_reducible exact LeO.none _)
      | (with_reducible refine LeO.ite ?_ ?_)
      | (with_reducible refine LeO.bind ?_ (fun _ => ?_))
      | exact ih0 _ _ _ _
      | exact ih1 _ _ _ _ _ _
      | exact ih2 _ _ _ _ _ _ _ _
      | exact ih3 _ _ _ _ _ _ _ _ _ _
      | exact LeO.none _
      | refine LeO.ite ?_ ?_
      | refine LeO.bind ?_ (fun _ => ?_)
set_option maxHeartbeats 8000000 in
set_option maxRecDepth 100000 in
theorem impl_ChancesOk.calls (k : Nat) (A0_0 : Option Addr) (c0_0 : Nat) (l0_0 : List Int) (A0_1 : Option Addr) (c0_1 : Nat) (l0_1 : List (List Int)) (r : Bool) (w : World) (hr0_0 : Kd.C (Kd.int .i64) w A0_0 l0_0.length l0_0) (hc0_0 : l0_0.length ≤ c0_0) (hr0_1 : Kd.C (Kd.slice 3 (Kd.int .i64)) w A0_1 l0_1.length l0_1) (hc0_1 : l0_1.length ≤ c0_1) (h : impl_ChancesOk.f k l0_0 l0_1 = some r) :
    Calls Try.prog 16 #[.agg #[.slice A0_0 l0_0.length c0_0, .slice A0_1 l0_1.length c0_1]] w fun e w' => e = .returned (.bool r) ∧ Below w.heap.size w w' := by
  have hu28 := Try.underlying28
  have HR0_0 := Aside0.mk hr0_0
  have HC0_0 := Aside0.mk hc0_0
  clear hr0_0 hc0_0
  have HR0_1 := Aside0.mk hr0_1
  have HC0_1 := Aside0.mk hc0_1
  clear hr0_1 hc0_1
  have HB := Aside0.mk (Below.refl w.heap.size w)
  have H : (if (l0_0.length : Int) < 1 then (impl_ChancesOk.j0 k (l0_0.length : Int) true l0_0 l0_1) else (if (l0_0.length : Int) > 60 then (impl_ChancesOk.j0 k (l0_0.length : Int) true l0_0 l0_1) else (impl_ChancesOk.j0 k (l0_0.length : Int) ((l0_1.length : Int) != (l0_0.length : Int)) l0_0 l0_1))) = some r := h
  clear h
  have HC2 := Aside0.mk H
  clear H
  go_enter Try.func16, Try.ntmps16
  go_upto_region 2 with (first | ((with_reducible refine gate_dst (N := 1) rfl ?_); (try (refine gate_guard (by rfl) ?_; dsimp only)); refine box_event ?hg (N := 1) ?hd (cs := #[.slice A0_0 l0_0.length c0_0, .slice A0_1 l0_1.length c0_1]) (t := 28) ?hr ?_; (case hd => rfl); (case hg => rfl); (case hr => first | (go_simp; done) | (go_simp; rfl)); intro gb138 hg w3 hbox hb; have n0_ := Aside0.mk (below_step (by repeat (first | (with_reducible first | exact HB.out | apply below_alloc | apply pw_below_drewN | apply below_drew1) | exact HB.out)) hb); have n1_ := Aside0.mk (hbox); have n2_ := Aside0.mk ((by rw [hg]; exact (below_size (by repeat (first | (with_reducible first | exact HB.out | apply below_alloc | apply pw_below_drewN | apply below_drew1) | exact HB.out))) : w.heap.size ≤ gb138)); have n3_ := Aside0.mk ((by rw [hg]; exact (below_size (by repeat (first | (with_reducible first | exact HB.out | apply below_alloc | apply pw_below_drewN | apply below_drew1) | exact HB.out))) : w.heap.size ≤ gb138)); clear HB; have HB := n0_; have BK138 := n1_; have GW138 := n2_; have GE138 := n3_; clear n0_ n1_ n2_ n3_; clear hb hbox hg; have hcz4_0 : w3.cell? ⟨gb138, 0, none⟩ = some (.slice A0_0 l0_0.length c0_0) := (blk_cell BK138.out 0).trans rfl; have hcz4_1 : w3.cell? ⟨gb138, 1, none⟩ = some (.slice A0_1 l0_1.length c0_1) := (blk_cell BK138.out 1).trans rfl; have hfz4_0 := blk_frozen BK138.out 0; have hfz4_1 := blk_frozen BK138.out 1))
  (try simp only [Act.put, List.setIfInBounds_toArray, List.set_cons_zero, List.set_cons_succ])
  go_cut [24] (fun v24 wc => ∃ (kq : Nat) (x24_1 : Bool), v24 = .bool x24_1 ∧ Aside0 (impl_ChancesOk.j0 kq (l0_0.length : Int) x24_1 l0_0 l0_1 = some r) ∧ Aside0 (kq ≤ k) ∧ Aside0 (wc.heap[gb138]? = some (.cells #[(.slice A0_0 l0_0.length c0_0), (.slice A0_1 l0_1.length c0_1)] 28 (0, 0))) ∧ Aside0 (Below w.heap.size w wc))
  case first =>
    have H := HC2.out
    clear HC2
    by_cases c5 : (l0_0.length : Int) < 1
    · rw [if_pos c5] at H
      have c5b0 : decide ((l0_0.length : Int) < 1) = true := decide_eq_true c5
      have c5b1 : decide (l0_0.length < 1) = true := decide_eq_true (by omega)
      clear c5
      (first | rw [c5b0] | (simp only [i64_w, i32_w]; rw [c5b0]) | skip)
      have H' := Aside0.mk H
      clear H
      go_wp2
      go_meet
      case rel => exact ⟨_, (true), (by first | rfl | (simp; done) | (simp [*]; done)), H', ⟨by first | omega | exact Nat.le_refl _⟩, ⟨by (with_reducible repeat (first | refine blk_drewN ?_ _ | refine blk_drew ?_ | refine blk_alloc ?_ _)); exact BK138.out⟩, ⟨by repeat (first | (with_reducible first | exact HB.out | apply below_alloc | apply pw_below_drewN | apply below_drew1 | refine below_set ?_ GE138.out) | exact HB.out)⟩⟩
    · rw [if_neg c5] at H
      have c5b0 : decide ((l0_0.length : Int) < 1) = false := decide_eq_false c5
      have c5b1 : decide (l0_0.length < 1) = false := decide_eq_false (by omega)
      clear c5
      (first | rw [c5b0] | (simp only [i64_w, i32_w]; rw [c5b0]) | skip)
      by_cases c6 : (l0_0.length : Int) > 60
      · rw [if_pos c6] at H
        have c6b0 : decide (60 < (l0_0.length : Int)) = true := decide_eq_true c6
        have c6b1 : decide (60 < l0_0.length) = true := decide_eq_true (by omega)
        clear c6
        have H' := Aside0.mk H
        clear H
        go_wp2
        go_meet
        case rel => exact ⟨_, (true), (by first | rfl | (simp; done) | (simp [*]; done)), H', ⟨by first | omega | exact Nat.le_refl _⟩, ⟨by (with_reducible repeat (first | refine blk_drewN ?_ _ | refine blk_drew ?_ | refine blk_alloc ?_ _)); exact BK138.out⟩, ⟨by repeat (first | (with_reducible first | exact HB.out | apply below_alloc | apply pw_below_drewN | apply below_drew1 | refine below_set ?_ GE138.out) | exact HB.out)⟩⟩
      · rw [if_neg c6] at H
        have c6b0 : decide (60 < (l0_0.length : Int)) = false := decide_eq_false c6
        have c6b1 : decide (60 < l0_0.length) = false := decide_eq_false (by omega)
        clear c6
        have H' := Aside0.mk H
        clear H
        have hcz7_0 : w3.cell? ⟨gb138, 0, none⟩ = some (.slice A0_0 l0_0.length c0_0) := (blk_cell BK138.out 0).trans rfl
        have hcz7_1 : w3.cell? ⟨gb138, 1, none⟩ = some (.slice A0_1 l0_1.length c0_1) := (blk_cell BK138.out 1).trans rfl
        have hfz7_0 := blk_frozen BK138.out 0
        have hfz7_1 := blk_frozen BK138.out 1
        go_wp2
        go_meet
        case rel => exact ⟨_, (((l0_1.length : Int) != (l0_0.length : Int))), (by first | rfl | (simp; done) | (simp [*]; done)), H', ⟨by first | omega | exact Nat.le_refl _⟩, ⟨by (with_reducible repeat (first | refine blk_drewN ?_ _ | refine blk_drew ?_ | refine blk_alloc ?_ _)); exact BK138.out⟩, ⟨by repeat (first | (with_reducible first | exact HB.out | apply below_alloc | apply pw_below_drewN | apply below_drew1 | refine below_set ?_ GE138.out) | exact HB.out)⟩⟩
  case rest =>
    clear HC2
    try clear c1
    try clear p2
    try clear c5
    try clear c5b0
    try clear c5b1
    try clear c6
    try clear c6b0
    try clear c6b1
    try clear hcz4_0
    try clear hcz4_1
    try clear hcz7_0
    try clear hcz7_1
    try clear hfz4_0
    try clear hfz4_1
    try clear hfz7_0
    try clear hfz7_1
    obtain ⟨kq, x24_1, rfl, HA, HJ1, BK138, HB⟩ := hcut
    cases kq with
    | zero => exact absurd HA.out (by simp [impl_ChancesOk.j0])
    | succ kj1 =>
      have H := HA.out
      clear HA
      simp only [impl_ChancesOk.j0] at H
      by_cases c8 : x24_1 = true
      · subst c8
        have H1 : (some false) = some r := by rw [if_pos rfl] at H; exact H
        clear H
        have H := H1
        clear H1
        obtain rfl := Option.some.inj H
        go_wp2
        go_ret
        exact ⟨by first | rfl | (simp [errW_none, errW_some] <;> rfl) | (simp [*, errW_none, errW_some] <;> rfl), by repeat (first | (with_reducible first | exact HB.out | apply below_alloc | apply pw_below_drewN | apply below_drew1 | refine below_set ?_ GE138.out) | exact HB.out)⟩
      · replace c8 := Bool.eq_false_iff.mpr c8
        subst c8
        have H1 : (impl_ChancesOk.l0 kj1 (l0_0.length : Int) l0_1 (l0_1.length : Int) 0 l0_0 l0_1) = some r := by rw [if_neg (show ¬ (false = true) by decide)] at H; exact H
        clear H
        have H := H1
        clear H1
        have H' := Aside0.mk H
        clear H
        have hcz9_0 : wc.cell? ⟨gb138, 0, none⟩ = some (.slice A0_0 l0_0.length c0_0) := (blk_cell BK138.out 0).trans rfl
        have hcz9_1 : wc.cell? ⟨gb138, 1, none⟩ = some (.slice A0_1 l0_1.length c0_1) := (blk_cell BK138.out 1).trans rfl
        have hfz9_0 := blk_frozen BK138.out 0
        have hfz9_1 := blk_frozen BK138.out 1
        go_wp2
        go_loopg [28] kj1 (fun kq v28 w' => ∃ (x28_2 : Int), v28 = .int .i64 x28_2 ∧ Aside0 (impl_ChancesOk.l0 kq (l0_0.length : Int) l0_1 (l0_1.length : Int) x28_2 l0_0 l0_1 = some r) ∧ Aside0 (kq ≤ kj1) ∧ Aside0 (w'.heap[gb138]? = some (.cells #[(.slice A0_0 l0_0.length c0_0), (.slice A0_1 l0_1.length c0_1)] 28 (0, 0))) ∧ Aside0 (Below w.heap.size w w'))
        case atStart => exact ⟨(0), (by first | rfl | (simp; done) | (simp [*]; done)), H', ⟨Nat.le_refl _⟩, ⟨by (with_reducible repeat (first | refine blk_drewN ?_ _ | refine blk_drew ?_ | refine blk_alloc ?_ _)); exact BK138.out⟩, ⟨by repeat (first | (with_reducible first | exact HB.out | apply below_alloc | apply pw_below_drewN | apply below_drew1 | refine below_set ?_ GE138.out) | exact HB.out)⟩⟩
        case round =>
          clear H'
          try clear c1
          try clear p2
          try clear c5
          try clear c5b0
          try clear c5b1
          try clear c6
          try clear c6b0
          try clear c6b1
          try clear c8
          try clear hcz4_0
          try clear hcz4_1
          try clear hcz7_0
          try clear hcz7_1
          try clear hcz9_0
          try clear hcz9_1
          try clear hfz4_0
          try clear hfz4_1
          try clear hfz7_0
          try clear hfz7_1
          try clear hfz9_0
          try clear hfz9_1
          try clear p2
          obtain ⟨x28_2, rfl, HA, HK2, BK138, HB⟩ := hrel
          cases gk with
          | zero => exact absurd HA.out (by simp [impl_ChancesOk.l0])
          | succ k2 =>
            have H := HA.out
            clear HA
            simp only [impl_ChancesOk.l0] at H
            by_cases c10 : x28_2 < (l0_1.length : Int)
            · rw [if_pos c10] at H
              have c10b0 : decide (x28_2 < (l0_1.length : Int)) = true := decide_eq_true c10
              clear c10
              by_cases c11 : 0 ≤ x28_2
              · rw [if_pos c11] at H
                have c11b0 : decide (0 ≤ x28_2) = true := decide_eq_true c11
                clear c11
                by_cases c12 : x28_2 < (l0_1.length : Int)
                · rw [if_pos c12] at H
                  have c12b0 : decide (x28_2 < (l0_1.length : Int)) = true := decide_eq_true c12
                  clear c12
                  have HC13 := Aside0.mk H
                  clear H
                  have p139 : 0 ≤ (x28_2 : Int) := of_decide_eq_true (by first | (with_reducible assumption) | assumption)
                  have q139 : x28_2 < (l0_1.length : Int) := of_decide_eq_true (by first | (with_reducible assumption) | assumption)
                  obtain ⟨ad139, A139_0, c139_0, e139, hx139_0, hl139_0, hi139_0⟩ := at_L1 HR0_1.out x28_2 p139 q139
                  cases e139
                  replace hx139_0 := (HB.out.cell (World.block_lt_of_cell? w _ hx139_0)).trans hx139_0
                  have HR139_0 := Aside0.mk hi139_0
                  have HC139_0 := Aside0.mk hl139_0
                  clear hi139_0 hl139_0
                  replace p139 := eq_true p139
                  replace q139 := eq_true q139
                  go_upto_region 7 with (fail)
                  go_cut [52] (fun v52 wc => ∃ (kq : Nat) (x52_12 : Bool), v52 = .bool x52_12 ∧ Aside0 (impl_ChancesOk.j2 kq (l0_0.length : Int) (rd_L1 l0_1 x28_2) l0_1 (l0_1.length : Int) x28_2 x52_12 l0_0 l0_1 = some r) ∧ Aside0 (kq ≤ k2) ∧ Aside0 (wc.heap[gb138]? = some (.cells #[(.slice A0_0 l0_0.length c0_0), (.slice (some ad139) l0_1.length c0_1)] 28 (0, 0))) ∧ Aside0 (Below w.heap.size w wc))
                  case first =>
                    have H := HC13.out
                    clear HC13
                    by_cases c14 : x28_2 < (l0_0.length : Int)
                    · rw [if_pos c14] at H
                      have c14b0 : decide (x28_2 < (l0_0.length : Int)) = true := decide_eq_true c14
                      clear c14
                      (first | rw [c14b0] | (simp only [i64_w, i32_w]; rw [c14b0]) | skip)
                      by_cases c15 : (rd l0_0 x28_2) < 0
                      · rw [if_pos c15] at H
                        have c15b0 : decide ((rd l0_0 x28_2) < 0) = true := decide_eq_true c15
                        clear c15
                        have H' := Aside0.mk H
                        clear H
                        have hcz16_0 : wr.cell? ⟨gb138, 0, none⟩ = some (.slice A0_0 l0_0.length c0_0) := (blk_cell BK138.out 0).trans rfl
                        have hcz16_1 : wr.cell? ⟨gb138, 1, none⟩ = some (.slice (some ad139) l0_1.length c0_1) := (blk_cell BK138.out 1).trans rfl
                        have hfz16_0 := blk_frozen BK138.out 0
                        have hfz16_1 := blk_frozen BK138.out 1
                        have p140 : 0 ≤ (x28_2 : Int) := of_decide_eq_true (by first | (with_reducible assumption) | assumption)
                        have q140 : x28_2 < (l0_0.length : Int) := of_decide_eq_true (by first | (with_reducible assumption) | assumption)
                        obtain ⟨ad140, e140, hx140_0⟩ := Kd.at_int HR0_0.out x28_2 p140 q140
                        cases e140
                        replace hx140_0 := (HB.out.cell (World.block_lt_of_cell? w _ hx140_0)).trans hx140_0
                        replace p140 := eq_true p140
                        replace q140 := eq_true q140
                        go_wp2
                        go_meet
                        case rel => exact ⟨_, (true), (by first | rfl | (simp; done) | (simp [*]; done)), H', ⟨by have := HJ1.out; have := HK2.out; first | omega | exact Nat.le_refl _⟩, ⟨by (with_reducible repeat (first | refine blk_drewN ?_ _ | refine blk_drew ?_ | refine blk_alloc ?_ _)); exact BK138.out⟩, ⟨by repeat (first | (with_reducible first | exact HB.out | apply below_alloc | apply pw_below_drewN | apply below_drew1 | refine below_set ?_ GE138.out) | exact HB.out)⟩⟩
                      · rw [if_neg c15] at H
                        have c15b0 : decide ((rd l0_0 x28_2) < 0) = false := decide_eq_false c15
                        clear c15
                        by_cases c17 : (rd l0_0 x28_2) > 9
                        · rw [if_pos c17] at H
                          have c17b0 : decide (9 < (rd l0_0 x28_2)) = true := decide_eq_true c17
                          clear c17
                          have H' := Aside0.mk H
                          clear H
                          have hcz18_0 : wr.cell? ⟨gb138, 0, none⟩ = some (.slice A0_0 l0_0.length c0_0) := (blk_cell BK138.out 0).trans rfl
                          have hcz18_1 : wr.cell? ⟨gb138, 1, none⟩ = some (.slice (some ad139) l0_1.length c0_1) := (blk_cell BK138.out 1).trans rfl
                          have hfz18_0 := blk_frozen BK138.out 0
                          have hfz18_1 := blk_frozen BK138.out 1
                          have p140 : 0 ≤ (x28_2 : Int) := of_decide_eq_true (by first | (with_reducible assumption) | assumption)
                          have q140 : x28_2 < (l0_0.length : Int) := of_decide_eq_true (by first | (with_reducible assumption) | assumption)
                          obtain ⟨ad140, e140, hx140_0⟩ := Kd.at_int HR0_0.out x28_2 p140 q140
                          cases e140
                          replace hx140_0 := (HB.out.cell (World.block_lt_of_cell? w _ hx140_0)).trans hx140_0
                          replace p140 := eq_true p140
                          replace q140 := eq_true q140
                          have p141 : 0 ≤ (x28_2 : Int) := of_decide_eq_true (by first | (with_reducible assumption) | assumption)
                          have q141 : x28_2 < (l0_0.length : Int) := of_decide_eq_true (by first | (with_reducible assumption) | assumption)
                          obtain ⟨ad141, e141, hx141_0⟩ := Kd.at_int HR0_0.out x28_2 p141 q141
                          obtain rfl : ad140 = ad141 := (by injection e141)
                          replace hx141_0 := (HB.out.cell (World.block_lt_of_cell? w _ hx141_0)).trans hx141_0
                          replace p141 := eq_true p141
                          replace q141 := eq_true q141
                          go_wp2
                          go_meet
                          case rel => exact ⟨_, (true), (by first | rfl | (simp; done) | (simp [*]; done)), H', ⟨by have := HJ1.out; have := HK2.out; first | omega | exact Nat.le_refl _⟩, ⟨by (with_reducible repeat (first | refine blk_drewN ?_ _ | refine blk_drew ?_ | refine blk_alloc ?_ _)); exact BK138.out⟩, ⟨by repeat (first | (with_reducible first | exact HB.out | apply below_alloc | apply pw_below_drewN | apply below_drew1 | refine below_set ?_ GE138.out) | exact HB.out)⟩⟩
                        · rw [if_neg c17] at H
                          have c17b0 : decide (9 < (rd l0_0 x28_2)) = false := decide_eq_false c17
                          clear c17
                          have H' := Aside0.mk H
                          clear H
                          have hcz19_0 : wr.cell? ⟨gb138, 0, none⟩ = some (.slice A0_0 l0_0.length c0_0) := (blk_cell BK138.out 0).trans rfl
                          have hcz19_1 : wr.cell? ⟨gb138, 1, none⟩ = some (.slice (some ad139) l0_1.length c0_1) := (blk_cell BK138.out 1).trans rfl
                          have hfz19_0 := blk_frozen BK138.out 0
                          have hfz19_1 := blk_frozen BK138.out 1
                          have p140 : 0 ≤ (x28_2 : Int) := of_decide_eq_true (by first | (with_reducible assumption) | assumption)
                          have q140 : x28_2 < (l0_0.length : Int) := of_decide_eq_true (by first | (with_reducible assumption) | assumption)
                          obtain ⟨ad140, e140, hx140_0⟩ := Kd.at_int HR0_0.out x28_2 p140 q140
                          cases e140
                          replace hx140_0 := (HB.out.cell (World.block_lt_of_cell? w _ hx140_0)).trans hx140_0
                          replace p140 := eq_true p140
                          replace q140 := eq_true q140
                          have p141 : 0 ≤ (x28_2 : Int) := of_decide_eq_true (by first | (with_reducible assumption) | assumption)
                          have q141 : x28_2 < (l0_0.length : Int) := of_decide_eq_true (by first | (with_reducible assumption) | assumption)
                          obtain ⟨ad141, e141, hx141_0⟩ := Kd.at_int HR0_0.out x28_2 p141 q141
                          obtain rfl : ad140 = ad141 := (by injection e141)
                          replace hx141_0 := (HB.out.cell (World.block_lt_of_cell? w _ hx141_0)).trans hx141_0
                          replace p141 := eq_true p141
                          replace q141 := eq_true q141
                          go_wp2
                          go_meet
                          case rel => exact ⟨_, ((((rd_L1 l0_1 x28_2).length : Int) != (l0_0.length : Int))), (by first | rfl | (simp; done) | (simp [*]; done)), H', ⟨by have := HJ1.out; have := HK2.out; first | omega | exact Nat.le_refl _⟩, ⟨by (with_reducible repeat (first | refine blk_drewN ?_ _ | refine blk_drew ?_ | refine blk_alloc ?_ _)); exact BK138.out⟩, ⟨by repeat (first | (with_reducible first | exact HB.out | apply below_alloc | apply pw_below_drewN | apply below_drew1 | refine below_set ?_ GE138.out) | exact HB.out)⟩⟩
                    · rw [if_neg c14] at H
                      exact absurd H (by simp)
                  case rest =>
                    clear HC13
                    try clear c1
                    try clear p1
                    try clear q1
                    try clear hx1
                    try clear p2
                    try clear c5
                    try clear c5b0
                    try clear c5b1
                    try clear c6
                    try clear c6b0
                    try clear c6b1
                    try clear c8
                    try clear c10
                    try clear c10b0
                    try clear c11
                    try clear c11b0
                    try clear c12
                    try clear c12b0
                    try clear c13
                    try clear p13
                    try clear q13
                    try clear hx13
                    try clear c14
                    try clear c14b0
                    try clear p14
                    try clear q14
                    try clear hx14
                    try clear c15
                    try clear c15b0
                    try clear c16
                    try clear c17
                    try clear c17b0
                    try clear hcz16_0
                    try clear hcz16_1
                    try clear hcz18_0
                    try clear hcz18_1
                    try clear hcz19_0
                    try clear hcz19_1
                    try clear hcz4_0
                    try clear hcz4_1
                    try clear hcz7_0
                    try clear hcz7_1
                    try clear hcz9_0
                    try clear hcz9_1
                    try clear hfz16_0
                    try clear hfz16_1
                    try clear hfz18_0
                    try clear hfz18_1
                    try clear hfz19_0
                    try clear hfz19_1
                    try clear hfz4_0
                    try clear hfz4_1
                    try clear hfz7_0
                    try clear hfz7_1
                    try clear hfz9_0
                    try clear hfz9_1
                    try clear hx139_0
                    try clear hx140_0
                    try clear hx141_0
                    try clear p139
                    try clear p140
                    try clear p141
                    try clear p2
                    try clear q139
                    try clear q140
                    try clear q141
                    obtain ⟨kq, x52_12, rfl, HA, HJ12, BK138, HB⟩ := hcut
                    cases kq with
                    | zero => exact absurd HA.out (by simp [impl_ChancesOk.j2])
                    | succ kj12 =>
                      have H := HA.out
                      clear HA
                      simp only [impl_ChancesOk.j2] at H
                      by_cases c20 : x52_12 = true
                      · subst c20
                        have H1 : (some false) = some r := by rw [if_pos rfl] at H; exact H
                        clear H
                        have H := H1
                        clear H1
                        obtain rfl := Option.some.inj H
                        go_wp2
                        go_ret
                        exact ⟨by first | rfl | (simp [errW_none, errW_some] <;> rfl) | (simp [*, errW_none, errW_some] <;> rfl), by repeat (first | (with_reducible first | exact HB.out | apply below_alloc | apply pw_below_drewN | apply below_drew1 | refine below_set ?_ GE138.out) | exact HB.out)⟩
                      · replace c20 := Bool.eq_false_iff.mpr c20
                        subst c20
                        have H1 : (impl_ChancesOk.l1 kj12 (l0_0.length : Int) 0 l0_1 (l0_1.length : Int) x28_2 (rd_L1 l0_1 x28_2) ((rd_L1 l0_1 x28_2).length : Int) 0 l0_0 l0_1) = some r := by rw [if_neg (show ¬ (false = true) by decide)] at H; exact H
                        clear H
                        have H := H1
                        clear H1
                        have H' := Aside0.mk H
                        clear H
                        go_wp2
                        go_loopg [6, 55] kj12 (fun kq v6 v55 w' => ∃ (x6_4 : Int) (x55_4 : Int), v6 = .int .i64 x6_4 ∧ v55 = .int .i64 x55_4 ∧ Aside0 (impl_ChancesOk.l1 kq (l0_0.length : Int) x6_4 l0_1 (l0_1.length : Int) x28_2 (rd_L1 l0_1 x28_2) ((rd_L1 l0_1 x28_2).length : Int) x55_4 l0_0 l0_1 = some r) ∧ Aside0 (kq ≤ kj12) ∧ Aside0 (w'.heap[gb138]? = some (.cells #[(.slice A0_0 l0_0.length c0_0), (.slice (some ad139) l0_1.length c0_1)] 28 (0, 0))) ∧ Aside0 (Below w.heap.size w w'))
                        case atStart => exact ⟨(0), (0), (by first | rfl | (simp; done) | (simp [*]; done)), (by first | rfl | (simp; done) | (simp [*]; done)), H', ⟨Nat.le_refl _⟩, ⟨by (with_reducible repeat (first | refine blk_drewN ?_ _ | refine blk_drew ?_ | refine blk_alloc ?_ _)); exact BK138.out⟩, ⟨by repeat (first | (with_reducible first | exact HB.out | apply below_alloc | apply pw_below_drewN | apply below_drew1 | refine below_set ?_ GE138.out) | exact HB.out)⟩⟩
                        case round =>
                          clear H'
                          try clear c1
                          try clear p1
                          try clear q1
                          try clear hx1
                          try clear c2
                          try clear p2
                          try clear c5
                          try clear c5b0
                          try clear c5b1
                          try clear c6
                          try clear c6b0
                          try clear c6b1
                          try clear c8
                          try clear c10
                          try clear c10b0
                          try clear c11
                          try clear c11b0
                          try clear c12
                          try clear c12b0
                          try clear c13
                          try clear p13
                          try clear q13
                          try clear hx13
                          try clear c14
                          try clear c14b0
                          try clear p14
                          try clear q14
                          try clear hx14
                          try clear c15
                          try clear c15b0
                          try clear c16
                          try clear c17
                          try clear c17b0
                          try clear c20
                          try clear hcz16_0
                          try clear hcz16_1
                          try clear hcz18_0
                          try clear hcz18_1
                          try clear hcz19_0
                          try clear hcz19_1
                          try clear hcz4_0
                          try clear hcz4_1
                          try clear hcz7_0
                          try clear hcz7_1
                          try clear hcz9_0
                          try clear hcz9_1
                          try clear hfz16_0
                          try clear hfz16_1
                          try clear hfz18_0
                          try clear hfz18_1
                          try clear hfz19_0
                          try clear hfz19_1
                          try clear hfz4_0
                          try clear hfz4_1
                          try clear hfz7_0
                          try clear hfz7_1
                          try clear hfz9_0
                          try clear hfz9_1
                          try clear hx139_0
                          try clear hx140_0
                          try clear hx141_0
                          try clear p1
                          try clear p13
                          try clear p139
                          try clear p14
                          try clear p140
                          try clear p141
                          try clear p2
                          try clear q1
                          try clear q13
                          try clear q139
                          try clear q14
                          try clear q140
                          try clear q141
                          obtain ⟨x6_4, x55_4, rfl, rfl, HA, HK4, BK138, HB⟩ := hrel
                          cases gk with
                          | zero => exact absurd HA.out (by simp [impl_ChancesOk.l1])
                          | succ k4 =>
                            have H := HA.out
                            clear HA
                            simp only [impl_ChancesOk.l1] at H
                            by_cases c21 : x55_4 < ((rd_L1 l0_1 x28_2).length : Int)
                            · rw [if_pos c21] at H
                              have c21b0 : decide (x55_4 < ((rd_L1 l0_1 x28_2).length : Int)) = true := decide_eq_true c21
                              clear c21
                              by_cases c22 : 0 ≤ x55_4
                              · rw [if_pos c22] at H
                                have c22b0 : decide (0 ≤ x55_4) = true := decide_eq_true c22
                                clear c22
                                by_cases c23 : x55_4 < ((rd_L1 l0_1 x28_2).length : Int)
                                · rw [if_pos c23] at H
                                  have c23b0 : decide (x55_4 < ((rd_L1 l0_1 x28_2).length : Int)) = true := decide_eq_true c23
                                  clear c23
                                  by_cases c24 : (rd (rd_L1 l0_1 x28_2) x55_4) < 0
                                  · rw [if_pos c24] at H
                                    have c24b0 : decide ((rd (rd_L1 l0_1 x28_2) x55_4) < 0) = true := decide_eq_true c24
                                    clear c24
                                    obtain rfl := Option.some.inj H
                                    have p142 : 0 ≤ (x55_4 : Int) := of_decide_eq_true (by first | (with_reducible assumption) | assumption)
                                    have q142 : x55_4 < ((rd_L1 l0_1 x28_2).length : Int) := of_decide_eq_true (by first | (with_reducible assumption) | assumption)
                                    obtain ⟨ad142, e142, hx142_0⟩ := Kd.at_int HR139_0.out x55_4 p142 q142
                                    cases e142
                                    replace hx142_0 := (HB.out.cell (World.block_lt_of_cell? w _ hx142_0)).trans hx142_0
                                    replace p142 := eq_true p142
                                    replace q142 := eq_true q142
                                    go_wp2
                                    go_ret
                                    exact ⟨by first | rfl | (simp [errW_none, errW_some] <;> rfl) | (simp [*, errW_none, errW_some] <;> rfl), by repeat (first | (with_reducible first | exact HB.out | apply below_alloc | apply pw_below_drewN | apply below_drew1 | refine below_set ?_ GE138.out) | exact HB.out)⟩
                                  · rw [if_neg c24] at H
                                    have c24b0 : decide ((rd (rd_L1 l0_1 x28_2) x55_4) < 0) = false := decide_eq_false c24
                                    clear c24
                                    by_cases c25 : (rd (rd_L1 l0_1 x28_2) x55_4) > 6
                                    · rw [if_pos c25] at H
                                      have c25b0 : decide (6 < (rd (rd_L1 l0_1 x28_2) x55_4)) = true := decide_eq_true c25
                                      clear c25
                                      obtain rfl := Option.some.inj H
                                      have p142 : 0 ≤ (x55_4 : Int) := of_decide_eq_true (by first | (with_reducible assumption) | assumption)
                                      have q142 : x55_4 < ((rd_L1 l0_1 x28_2).length : Int) := of_decide_eq_true (by first | (with_reducible assumption) | assumption)
                                      obtain ⟨ad142, e142, hx142_0⟩ := Kd.at_int HR139_0.out x55_4 p142 q142
                                      cases e142
                                      replace hx142_0 := (HB.out.cell (World.block_lt_of_cell? w _ hx142_0)).trans hx142_0
                                      replace p142 := eq_true p142
                                      replace q142 := eq_true q142
                                      go_wp2
                                      go_ret
                                      exact ⟨by first | rfl | (simp [errW_none, errW_some] <;> rfl) | (simp [*, errW_none, errW_some] <;> rfl), by repeat (first | (with_reducible first | exact HB.out | apply below_alloc | apply pw_below_drewN | apply below_drew1 | refine below_set ?_ GE138.out) | exact HB.out)⟩
                                    · rw [if_neg c25] at H
                                      have c25b0 : decide (6 < (rd (rd_L1 l0_1 x28_2) x55_4)) = false := decide_eq_false c25
                                      clear c25
                                      have H' := Aside0.mk H
                                      clear H
                                      have p142 : 0 ≤ (x55_4 : Int) := of_decide_eq_true (by first | (with_reducible assumption) | assumption)
                                      have q142 : x55_4 < ((rd_L1 l0_1 x28_2).length : Int) := of_decide_eq_true (by first | (with_reducible assumption) | assumption)
                                      obtain ⟨ad142, e142, hx142_0⟩ := Kd.at_int HR139_0.out x55_4 p142 q142
                                      cases e142
                                      replace hx142_0 := (HB.out.cell (World.block_lt_of_cell? w _ hx142_0)).trans hx142_0
                                      replace p142 := eq_true p142
                                      replace q142 := eq_true q142
                                      go_wp2
                                      go_roundg k4
                                      case measure => have := HJ1.out; have := HK2.out; have := HJ12.out; have := HK4.out; omega
                                      case rel => exact ⟨(wrap64 (x6_4 + (rd (rd_L1 l0_1 x28_2) x55_4))), (wrap64 (x55_4 + 1)), (by first | rfl | (simp; done) | (simp [*]; done)), (by first | rfl | (simp; done) | (simp [*]; done)), H', ⟨by have := HJ1.out; have := HK2.out; have := HJ12.out; have := HK4.out; omega⟩, ⟨by (with_reducible repeat (first | refine blk_drewN ?_ _ | refine blk_drew ?_ | refine blk_alloc ?_ _)); exact BK138.out⟩, ⟨by repeat (first | (with_reducible first | exact HB.out | apply below_alloc | apply pw_below_drewN | apply below_drew1 | refine below_set ?_ GE138.out) | exact HB.out)⟩⟩
                                · rw [if_neg c23] at H
                                  exact absurd H (by simp)
                              · rw [if_neg c22] at H
                                exact absurd H (by simp)
                            · rw [if_neg c21] at H
                              have c21b0 : decide (x55_4 < ((rd_L1 l0_1 x28_2).length : Int)) = false := decide_eq_false c21
                              clear c21
                              by_cases c26 : x6_4 = 6
                              · rw [if_pos c26] at H
                                have c26b0 : (x6_4 == 6) = true := beq_iff_eq.mpr c26
                                have c26b1 : (x6_4 != 6) = false := bne_eq_false_iff_eq.mpr c26
                                clear c26
                                have H' := Aside0.mk H
                                clear H
                                go_wp2
                                go_roundg k4
                                case measure => have := HJ1.out; have := HK2.out; have := HJ12.out; have := HK4.out; omega
                                case rel => exact ⟨(wrap64 (x28_2 + 1)), (by first | rfl | (simp; done) | (simp [*]; done)), H', ⟨by have := HJ1.out; have := HK2.out; have := HJ12.out; have := HK4.out; omega⟩, ⟨by (with_reducible repeat (first | refine blk_drewN ?_ _ | refine blk_drew ?_ | refine blk_alloc ?_ _)); exact BK138.out⟩, ⟨by repeat (first | (with_reducible first | exact HB.out | apply below_alloc | apply pw_below_drewN | apply below_drew1 | refine below_set ?_ GE138.out) | exact HB.out)⟩⟩
                              · rw [if_neg c26] at H
                                have c26b0 : (x6_4 == 6) = false := beq_eq_false_iff_ne.mpr c26
                                have c26b1 : (x6_4 != 6) = true := bne_iff_ne.mpr c26
                                obtain rfl := Option.some.inj H
                                go_wp2
                                go_ret
                                exact ⟨by first | rfl | (simp [errW_none, errW_some] <;> rfl) | (simp [*, errW_none, errW_some] <;> rfl), by repeat (first | (with_reducible first | exact HB.out | apply below_alloc | apply pw_below_drewN | apply below_drew1 | refine below_set ?_ GE138.out) | exact HB.out)⟩
                · rw [if_neg c12] at H
                  exact absurd H (by simp)
              · rw [if_neg c11] at H
                exact absurd H (by simp)
            · rw [if_neg c10] at H
              have c10b0 : decide (x28_2 < (l0_1.length : Int)) = false := decide_eq_false c10
              clear c10
              obtain rfl := Option.some.inj H
              go_wp2
              go_ret
              exact ⟨by first | rfl | (simp [errW_none, errW_some] <;> rfl) | (simp [*, errW_none, errW_some] <;> rfl), by repeat (first | (with_reducible first | exact HB.out | apply below_alloc | apply pw_below_drewN | apply below_drew1 | refine below_set ?_ GE138.out) | exact HB.out)⟩

end Go.Proofs.Ytablnoddkllhmaa.P
