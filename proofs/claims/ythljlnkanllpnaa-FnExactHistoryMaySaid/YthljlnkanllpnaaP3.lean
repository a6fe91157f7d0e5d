/- What the Go functions that the laws reach compute, and that their calls come to just that: told by a program of this session (aprint.py). No condition. -/
import Derived.Test.YthljlnkanllpnaaP0
import Derived.Test.YthljlnkanllpnaaP2
namespace Go.Proofs.Ythljlnkanllpnaa.P
open Go.RowKit Go.Proofs.YthljlnkanllpnaaW.PrintWords Go.Proofs.YthljlnkanllpnaaW.PrintLast Go.Proofs.YthljlnkanllpnaaW.PrintMore
attribute [local go_sem] max2_int min2_int max_two min_two max_three min_three max_four min_four   -- for this text's walks alone
set_option linter.unusedVariables false
set_option linter.unusedSimpArgs false

/-! ### spec_l19Can: function 64 -/
def spec_l19Can.j0 : Nat → List (List Int) → List Int → Bool → Int → Int → Option (Bool)
  | 0, _, _, _, _, _ => none
  | k + 1, x0, x1, x28, x145000, x145001 => if x28 = true then (some false) else (if x145001 = (-1) then (some true) else ((spec_l6In.f x145001 (wrap64 (x145000 + 1)) (wrap64 ((x0.length : Int) - 1))).bind fun t148 => (if t148 = true then (if 0 ≤ x145001 then (if x145001 < (x1.length : Int) then (if x145001 < (x0.length : Int) then (if (rd x1 x145001) ≥ ((rd_L2 x0 x145001).length : Int) then (some false) else (if 0 ≤ x145000 then (if x145000 < (x0.length : Int) then (if x145000 < (x1.length : Int) then (if 0 ≤ (rd x1 x145000) then (if (rd x1 x145000) < ((rd_L2 x0 x145000).length : Int) then (if (rd (rd_L2 x0 x145000) (rd x1 x145000)) = 0 then (some false) else (if 0 ≤ (rd x1 x145001) then (if (rd x1 x145001) < ((rd_L2 x0 x145001).length : Int) then (some ((rd (rd_L2 x0 x145000) (rd x1 x145000)) == (wrap64 (-(rd (rd_L2 x0 x145001) (rd x1 x145001)))))) else (none)) else (none))) else (none)) else (none)) else (none)) else (none)) else (none))) else (none)) else (none)) else (none)) else (some false))))
def spec_l19Can.f (k : Nat) (l0 : List (List Int)) (l1 : List Int) (a2_0 : Int) (a2_1 : Int) : Option (Bool) := (spec_l6In.f a2_0 0 (wrap64 ((l0.length : Int) - 1))).bind fun t145 => (if t145 = true then (if 0 ≤ a2_0 then (if a2_0 < (l1.length : Int) then (if a2_0 < (l0.length : Int) then (spec_l19Can.j0 k l0 l1 (decide ((rd l1 a2_0) ≥ ((rd_L2 l0 a2_0).length : Int))) a2_0 a2_1) else (none)) else (none)) else (none)) else (spec_l19Can.j0 k l0 l1 true a2_0 a2_1))
theorem spec_l19Can.mono_l : ∀ k, (∀ y0 y1 y2 y3 y4, LeO (spec_l19Can.j0 k y0 y1 y2 y3 y4) (spec_l19Can.j0 (k + 1) y0 y1 y2 y3 y4))
  | 0 => fun _ _ _ _ _ r h => by simp [spec_l19Can.j0] at h
  | k + 1 => by
    have ih0 := spec_l19Can.mono_l k
    · intro y0 y1 y2 y3 y4
      unfold spec_l19Can.j0
      repeat' first
      | (with_reducible exact ih0 _ _ _ _ _)
      | (with_reducible exact LeO.refl _)
      | (with_reducible exact LeO.none _)
      | (with_reducible refine LeO.ite ?_ ?_)
      | (with_reducible refine LeO.bind ?_ (fun _ => ?_))
      | exact ih0 _ _ _ _ _
      | exact LeO.none _
      | refine LeO.ite ?_ ?_
      | refine LeO.bind ?_ (fun _ => ?_)
theorem spec_l19Can.mono : ∀ a0 a1 a2 a3 k, LeO (spec_l19Can.f k a0 a1 a2 a3) (spec_l19Can.f (k + 1) a0 a1 a2 a3) := by
  intro a0 a1 a2 a3 k
  have ih0 := spec_l19Can.mono_l k
  unfold spec_l19Can.f
  repeat' first
      | (with_reducible exact ih0 _ _ _ _ _)
      | (with_reducible exact LeO.refl _)
      | (with_reducible exact LeO.none _)
      | (with_reducible refine LeO.ite ?_ ?_)
      | (with_reducible refine LeO.bind ?_ (fun _ => ?_))
      | exact ih0 _ _ _ _ _
      | exact LeO.none _
      | refine LeO.ite ?_ ?_
      | refine LeO.bind ?_ (fun _ => ?_)
set_option maxHeartbeats 8000000 in
set_option maxRecDepth 100000 in
theorem spec_l19Can.calls (k : Nat) (A0 : Option Addr) (c0 : Nat) (l0 : List (List Int)) (A1 : Option Addr) (c1 : Nat) (l1 : List Int) (a2_0 : Int) (a2_1 : Int) (r : Bool) (w : World) (hr0 : Kd.C (Kd.slice 3 (Kd.int .i64)) w A0 l0.length l0) (hc0 : l0.length ≤ c0) (hr1 : Kd.C (Kd.int .i64) w A1 l1.length l1) (hc1 : l1.length ≤ c1) (h : spec_l19Can.f k l0 l1 a2_0 a2_1 = some r) :
    Calls Try.prog 64 #[.slice A0 l0.length c0, .slice A1 l1.length c1, .agg #[.int .i64 a2_0, .int .i64 a2_1]] w fun e w' => e = .returned (.bool r) ∧ Below w.heap.size w w' := by
  have hu32 := Try.underlying32
  have HR0 := Aside0.mk hr0
  have HC0 := Aside0.mk hc0
  clear hr0 hc0
  have HR1 := Aside0.mk hr1
  have HC1 := Aside0.mk hc1
  clear hr1 hc1
  have HB := Aside0.mk (Below.refl w.heap.size w)
  have H : ((spec_l6In.f a2_0 0 (wrap64 ((l0.length : Int) - 1))).bind fun t145 => (if t145 = true then (if 0 ≤ a2_0 then (if a2_0 < (l1.length : Int) then (if a2_0 < (l0.length : Int) then (spec_l19Can.j0 k l0 l1 (decide ((rd l1 a2_0) ≥ ((rd_L2 l0 a2_0).length : Int))) a2_0 a2_1) else (none)) else (none)) else (none)) else (spec_l19Can.j0 k l0 l1 true a2_0 a2_1))) = some r := h
  clear h
  have HC4 := Aside0.mk H
  clear H
  go_enter Try.func64, Try.ntmps64
  go_upto_region 1 with (first | ((with_reducible refine gate_dst (N := 5) rfl ?_); (try (refine gate_guard (by rfl) ?_; dsimp only)); refine box_event ?hg (N := 5) ?hd (cs := #[.int .i64 a2_0, .int .i64 a2_1]) (t := 32) ?hr ?_; (case hd => rfl); (case hg => rfl); (case hr => first | (go_simp; done) | (go_simp; rfl)); intro gb144 hg w5 hbox hb; have n0_ := Aside0.mk (below_step (by repeat (first | (with_reducible first | exact HB.out | apply below_alloc | apply pw_below_drewN | apply below_drew1) | exact HB.out)) hb); have n1_ := Aside0.mk (hbox); have n2_ := Aside0.mk ((by rw [hg]; exact (below_size (by repeat (first | (with_reducible first | exact HB.out | apply below_alloc | apply pw_below_drewN | apply below_drew1) | exact HB.out))) : w.heap.size ≤ gb144)); have n3_ := Aside0.mk ((by rw [hg]; exact (below_size (by repeat (first | (with_reducible first | exact HB.out | apply below_alloc | apply pw_below_drewN | apply below_drew1) | exact HB.out))) : w.heap.size ≤ gb144)); clear HB; have HB := n0_; have BK144 := n1_; have GW144 := n2_; have GE144 := n3_; clear n0_ n1_ n2_ n3_; clear hb hbox hg))
  repeat (go_quiet (first | ((with_reducible refine gate_dst (N := 5) rfl ?_); (try (refine gate_guard (by rfl) ?_; dsimp only)); refine box_event ?hg (N := 5) ?hd (cs := #[.int .i64 a2_0, .int .i64 a2_1]) (t := 32) ?hr ?_; (case hd => rfl); (case hg => rfl); (case hr => first | (go_simp; done) | (go_simp; rfl)); intro gb144 hg w5 hbox hb; have n0_ := Aside0.mk (below_step (by repeat (first | (with_reducible first | exact HB.out | apply below_alloc | apply pw_below_drewN | apply below_drew1) | exact HB.out)) hb); have n1_ := Aside0.mk (hbox); have n2_ := Aside0.mk ((by rw [hg]; exact (below_size (by repeat (first | (with_reducible first | exact HB.out | apply below_alloc | apply pw_below_drewN | apply below_drew1) | exact HB.out))) : w.heap.size ≤ gb144)); have n3_ := Aside0.mk ((by rw [hg]; exact (below_size (by repeat (first | (with_reducible first | exact HB.out | apply below_alloc | apply pw_below_drewN | apply below_drew1) | exact HB.out))) : w.heap.size ≤ gb144)); clear HB; have HB := n0_; have BK144 := n1_; have GW144 := n2_; have GE144 := n3_; clear n0_ n1_ n2_ n3_; clear hb hbox hg)); go_upto_region 1 with (first | ((with_reducible refine gate_dst (N := 5) rfl ?_); (try (refine gate_guard (by rfl) ?_; dsimp only)); refine box_event ?hg (N := 5) ?hd (cs := #[.int .i64 a2_0, .int .i64 a2_1]) (t := 32) ?hr ?_; (case hd => rfl); (case hg => rfl); (case hr => first | (go_simp; done) | (go_simp; rfl)); intro gb144 hg w5 hbox hb; have n0_ := Aside0.mk (below_step (by repeat (first | (with_reducible first | exact HB.out | apply below_alloc | apply pw_below_drewN | apply below_drew1) | exact HB.out)) hb); have n1_ := Aside0.mk (hbox); have n2_ := Aside0.mk ((by rw [hg]; exact (below_size (by repeat (first | (with_reducible first | exact HB.out | apply below_alloc | apply pw_below_drewN | apply below_drew1) | exact HB.out))) : w.heap.size ≤ gb144)); have n3_ := Aside0.mk ((by rw [hg]; exact (below_size (by repeat (first | (with_reducible first | exact HB.out | apply below_alloc | apply pw_below_drewN | apply below_drew1) | exact HB.out))) : w.heap.size ≤ gb144)); clear HB; have HB := n0_; have BK144 := n1_; have GW144 := n2_; have GE144 := n3_; clear n0_ n1_ n2_ n3_; clear hb hbox hg)))
  (try simp only [Act.put, List.setIfInBounds_toArray, List.set_cons_zero, List.set_cons_succ])
  go_cut [28] (fun v28 wc => ∃ (kq : Nat) (x28_3 : Bool), v28 = .bool x28_3 ∧ Aside0 (spec_l19Can.j0 kq l0 l1 x28_3 a2_0 a2_1 = some r) ∧ Aside0 (kq ≤ k) ∧ Aside0 (wc.heap[gb144]? = some (.cells #[.int .i64 a2_0, .int .i64 a2_1] 32 (0, 0))) ∧ Aside0 (Below w.heap.size w wc))
  case first =>
    have H := HC4.out
    clear HC4
    replace H := Option.bind_eq_some_iff.mp H
    obtain ⟨t145, A60, H⟩ := H
    replace H : (if t145 = true then (if 0 ≤ a2_0 then (if a2_0 < (l1.length : Int) then (if a2_0 < (l0.length : Int) then (spec_l19Can.j0 k l0 l1 (decide ((rd l1 a2_0) ≥ ((rd_L2 l0 a2_0).length : Int))) a2_0 a2_1) else (none)) else (none)) else (none)) else (spec_l19Can.j0 k l0 l1 true a2_0 a2_1)) = some r := H
    have A6 := Aside0.mk A60
    clear A60
    by_cases c7 : t145 = true
    · subst c7
      have H1 : (if 0 ≤ a2_0 then (if a2_0 < (l1.length : Int) then (if a2_0 < (l0.length : Int) then (spec_l19Can.j0 k l0 l1 (decide ((rd l1 a2_0) ≥ ((rd_L2 l0 a2_0).length : Int))) a2_0 a2_1) else (none)) else (none)) else (none)) = some r := by rw [if_pos rfl] at H; exact H
      clear H
      have H := H1
      clear H1
      by_cases c8 : 0 ≤ a2_0
      · rw [if_pos c8] at H
        have c8b0 : decide (0 ≤ a2_0) = true := decide_eq_true c8
        clear c8
        (first | rw [c8b0] | (simp only [i64_w, i32_w]; rw [c8b0]) | skip)
        by_cases c9 : a2_0 < (l1.length : Int)
        · rw [if_pos c9] at H
          have c9b0 : decide (a2_0 < (l1.length : Int)) = true := decide_eq_true c9
          clear c9
          by_cases c10 : a2_0 < (l0.length : Int)
          · rw [if_pos c10] at H
            have c10b0 : decide (a2_0 < (l0.length : Int)) = true := decide_eq_true c10
            clear c10
            have H' := Aside0.mk H
            clear H
            have hcz11_0 : w5.cell? ⟨gb144, 0, none⟩ = some (.int .i64 a2_0) := (blk_cell BK144.out 0).trans rfl
            have hcz11_1 : w5.cell? ⟨gb144, 1, none⟩ = some (.int .i64 a2_1) := (blk_cell BK144.out 1).trans rfl
            have hfz11_0 := blk_frozen BK144.out 0
            have hfz11_1 := blk_frozen BK144.out 1
            go_wp2_with (first | (go_at_call 71; (try simp only [i64_w, i32_w]); (with_reducible refine (spec_l6In.calls a2_0 0 (wrap64 ((l0.length : Int) - 1)) true _ A6.out).mono ?_); rintro e w' ⟨rfl, ⟨nd, rfl⟩⟩; (try first | exact ⟨rfl, _, World.drewN_drewN _ _ _⟩ | exact ⟨rfl, _, Eq.trans (World.drewN_drewN _ _ _) (congrArg (World.drewN _) (Nat.add_assoc _ _ _))⟩); have p146 : 0 ≤ (a2_0 : Int) := of_decide_eq_true (by first | (with_reducible assumption) | assumption); have q146 : a2_0 < (l1.length : Int) := of_decide_eq_true (by first | (with_reducible assumption) | assumption); obtain ⟨ad146, e146, hx146_0⟩ := Kd.at_int HR1.out a2_0 p146 q146; cases e146; replace hx146_0 := (HB.out.cell (World.block_lt_of_cell? w _ hx146_0)).trans hx146_0; replace p146 := eq_true p146; replace q146 := eq_true q146; have p147 : 0 ≤ (a2_0 : Int) := of_decide_eq_true (by first | (with_reducible assumption) | assumption); have q147 : a2_0 < (l0.length : Int) := of_decide_eq_true (by first | (with_reducible assumption) | assumption); obtain ⟨ad147, A147_0, c147_0, e147, hx147_0, hl147_0, hi147_0⟩ := at_L2 HR0.out a2_0 p147 q147; cases e147; replace hx147_0 := (HB.out.cell (World.block_lt_of_cell? w _ hx147_0)).trans hx147_0; have HR147_0 := Aside0.mk hi147_0; have HC147_0 := Aside0.mk hl147_0; clear hi147_0 hl147_0; replace p147 := eq_true p147; replace q147 := eq_true q147))
            repeat (go_quiet (first | (go_at_call 71; (try simp only [i64_w, i32_w]); (with_reducible refine (spec_l6In.calls a2_0 0 (wrap64 ((l0.length : Int) - 1)) true _ A6.out).mono ?_); rintro e w' ⟨rfl, ⟨nd, rfl⟩⟩; (try first | exact ⟨rfl, _, World.drewN_drewN _ _ _⟩ | exact ⟨rfl, _, Eq.trans (World.drewN_drewN _ _ _) (congrArg (World.drewN _) (Nat.add_assoc _ _ _))⟩); have p146 : 0 ≤ (a2_0 : Int) := of_decide_eq_true (by first | (with_reducible assumption) | assumption); have q146 : a2_0 < (l1.length : Int) := of_decide_eq_true (by first | (with_reducible assumption) | assumption); obtain ⟨ad146, e146, hx146_0⟩ := Kd.at_int HR1.out a2_0 p146 q146; cases e146; replace hx146_0 := (HB.out.cell (World.block_lt_of_cell? w _ hx146_0)).trans hx146_0; replace p146 := eq_true p146; replace q146 := eq_true q146; have p147 : 0 ≤ (a2_0 : Int) := of_decide_eq_true (by first | (with_reducible assumption) | assumption); have q147 : a2_0 < (l0.length : Int) := of_decide_eq_true (by first | (with_reducible assumption) | assumption); obtain ⟨ad147, A147_0, c147_0, e147, hx147_0, hl147_0, hi147_0⟩ := at_L2 HR0.out a2_0 p147 q147; cases e147; replace hx147_0 := (HB.out.cell (World.block_lt_of_cell? w _ hx147_0)).trans hx147_0; have HR147_0 := Aside0.mk hi147_0; have HC147_0 := Aside0.mk hl147_0; clear hi147_0 hl147_0; replace p147 := eq_true p147; replace q147 := eq_true q147)); try go_wp2_with (first | (go_at_call 71; (try simp only [i64_w, i32_w]); (with_reducible refine (spec_l6In.calls a2_0 0 (wrap64 ((l0.length : Int) - 1)) true _ A6.out).mono ?_); rintro e w' ⟨rfl, ⟨nd, rfl⟩⟩; (try first | exact ⟨rfl, _, World.drewN_drewN _ _ _⟩ | exact ⟨rfl, _, Eq.trans (World.drewN_drewN _ _ _) (congrArg (World.drewN _) (Nat.add_assoc _ _ _))⟩); have p146 : 0 ≤ (a2_0 : Int) := of_decide_eq_true (by first | (with_reducible assumption) | assumption); have q146 : a2_0 < (l1.length : Int) := of_decide_eq_true (by first | (with_reducible assumption) | assumption); obtain ⟨ad146, e146, hx146_0⟩ := Kd.at_int HR1.out a2_0 p146 q146; cases e146; replace hx146_0 := (HB.out.cell (World.block_lt_of_cell? w _ hx146_0)).trans hx146_0; replace p146 := eq_true p146; replace q146 := eq_true q146; have p147 : 0 ≤ (a2_0 : Int) := of_decide_eq_true (by first | (with_reducible assumption) | assumption); have q147 : a2_0 < (l0.length : Int) := of_decide_eq_true (by first | (with_reducible assumption) | assumption); obtain ⟨ad147, A147_0, c147_0, e147, hx147_0, hl147_0, hi147_0⟩ := at_L2 HR0.out a2_0 p147 q147; cases e147; replace hx147_0 := (HB.out.cell (World.block_lt_of_cell? w _ hx147_0)).trans hx147_0; have HR147_0 := Aside0.mk hi147_0; have HC147_0 := Aside0.mk hl147_0; clear hi147_0 hl147_0; replace p147 := eq_true p147; replace q147 := eq_true q147)))
            go_meet
            case rel => exact ⟨_, (decide ((rd l1 a2_0) ≥ ((rd_L2 l0 a2_0).length : Int))), (by first | rfl | (simp; done) | (simp [*]; done)), H', ⟨by first | omega | exact Nat.le_refl _⟩, ⟨by (with_reducible repeat (first | refine blk_drewN ?_ _ | refine blk_drew ?_ | refine blk_alloc ?_ _)); exact BK144.out⟩, ⟨by repeat (first | (with_reducible first | exact HB.out | apply below_alloc | apply pw_below_drewN | apply below_drew1 | refine below_set ?_ GE144.out) | exact HB.out)⟩⟩
          · rw [if_neg c10] at H
            exact absurd H (by simp)
        · rw [if_neg c9] at H
          exact absurd H (by simp)
      · rw [if_neg c8] at H
        exact absurd H (by simp)
    · replace c7 := Bool.eq_false_iff.mpr c7
      subst c7
      have H1 : (spec_l19Can.j0 k l0 l1 true a2_0 a2_1) = some r := by rw [if_neg (show ¬ (false = true) by decide)] at H; exact H
      clear H
      have H := H1
      clear H1
      have H' := Aside0.mk H
      clear H
      have hcz12_0 : w5.cell? ⟨gb144, 0, none⟩ = some (.int .i64 a2_0) := (blk_cell BK144.out 0).trans rfl
      have hcz12_1 : w5.cell? ⟨gb144, 1, none⟩ = some (.int .i64 a2_1) := (blk_cell BK144.out 1).trans rfl
      have hfz12_0 := blk_frozen BK144.out 0
      have hfz12_1 := blk_frozen BK144.out 1
      go_wp2_with (first | (go_at_call 71; (try simp only [i64_w, i32_w]); (with_reducible refine (spec_l6In.calls a2_0 0 (wrap64 ((l0.length : Int) - 1)) false _ A6.out).mono ?_); rintro e w' ⟨rfl, ⟨nd, rfl⟩⟩; (try first | exact ⟨rfl, _, World.drewN_drewN _ _ _⟩ | exact ⟨rfl, _, Eq.trans (World.drewN_drewN _ _ _) (congrArg (World.drewN _) (Nat.add_assoc _ _ _))⟩)))
      repeat (go_quiet (first | (go_at_call 71; (try simp only [i64_w, i32_w]); (with_reducible refine (spec_l6In.calls a2_0 0 (wrap64 ((l0.length : Int) - 1)) false _ A6.out).mono ?_); rintro e w' ⟨rfl, ⟨nd, rfl⟩⟩; (try first | exact ⟨rfl, _, World.drewN_drewN _ _ _⟩ | exact ⟨rfl, _, Eq.trans (World.drewN_drewN _ _ _) (congrArg (World.drewN _) (Nat.add_assoc _ _ _))⟩))); try go_wp2_with (first | (go_at_call 71; (try simp only [i64_w, i32_w]); (with_reducible refine (spec_l6In.calls a2_0 0 (wrap64 ((l0.length : Int) - 1)) false _ A6.out).mono ?_); rintro e w' ⟨rfl, ⟨nd, rfl⟩⟩; (try first | exact ⟨rfl, _, World.drewN_drewN _ _ _⟩ | exact ⟨rfl, _, Eq.trans (World.drewN_drewN _ _ _) (congrArg (World.drewN _) (Nat.add_assoc _ _ _))⟩))))
      go_meet
      case rel => exact ⟨_, (true), (by first | rfl | (simp; done) | (simp [*]; done)), H', ⟨by first | omega | exact Nat.le_refl _⟩, ⟨by (with_reducible repeat (first | refine blk_drewN ?_ _ | refine blk_drew ?_ | refine blk_alloc ?_ _)); exact BK144.out⟩, ⟨by repeat (first | (with_reducible first | exact HB.out | apply below_alloc | apply pw_below_drewN | apply below_drew1 | refine below_set ?_ GE144.out) | exact HB.out)⟩⟩
  case rest =>
    clear HC4
    try clear c1
    try clear p1
    try clear q1
    try clear hx1
    try clear p2
    try clear c6
    try clear p6
    try clear c7
    try clear c8
    try clear c8b0
    try clear c9
    try clear c9b0
    try clear c10
    try clear c10b0
    try clear hcz11_0
    try clear hcz11_1
    try clear hcz12_0
    try clear hcz12_1
    try clear hfz11_0
    try clear hfz11_1
    try clear hfz12_0
    try clear hfz12_1
    try clear hx146_0
    try clear hx147_0
    try clear p146
    try clear p147
    try clear q146
    try clear q147
    obtain ⟨kq, x28_3, rfl, HA, HJ3, BK144, HB⟩ := hcut
    cases kq with
    | zero => exact absurd HA.out (by simp [spec_l19Can.j0])
    | succ kj3 =>
      have H := HA.out
      clear HA
      simp only [spec_l19Can.j0] at H
      by_cases c13 : x28_3 = true
      · subst c13
        have H1 : (some false) = some r := by rw [if_pos rfl] at H; exact H
        clear H
        have H := H1
        clear H1
        obtain rfl := Option.some.inj H
        go_wp2
        repeat (go_quiet (fail); try go_wp2)
        go_ret
        exact ⟨by first | rfl | (simp [errW_none, errW_some] <;> rfl) | (simp [*, errW_none, errW_some] <;> rfl), by repeat (first | (with_reducible first | exact HB.out | apply below_alloc | apply pw_below_drewN | apply below_drew1 | refine below_set ?_ GE144.out) | exact HB.out)⟩
      · replace c13 := Bool.eq_false_iff.mpr c13
        subst c13
        have H1 : (if a2_1 = (-1) then (some true) else ((spec_l6In.f a2_1 (wrap64 (a2_0 + 1)) (wrap64 ((l0.length : Int) - 1))).bind fun t148 => (if t148 = true then (if 0 ≤ a2_1 then (if a2_1 < (l1.length : Int) then (if a2_1 < (l0.length : Int) then (if (rd l1 a2_1) ≥ ((rd_L2 l0 a2_1).length : Int) then (some false) else (if 0 ≤ a2_0 then (if a2_0 < (l0.length : Int) then (if a2_0 < (l1.length : Int) then (if 0 ≤ (rd l1 a2_0) then (if (rd l1 a2_0) < ((rd_L2 l0 a2_0).length : Int) then (if (rd (rd_L2 l0 a2_0) (rd l1 a2_0)) = 0 then (some false) else (if 0 ≤ (rd l1 a2_1) then (if (rd l1 a2_1) < ((rd_L2 l0 a2_1).length : Int) then (some ((rd (rd_L2 l0 a2_0) (rd l1 a2_0)) == (wrap64 (-(rd (rd_L2 l0 a2_1) (rd l1 a2_1)))))) else (none)) else (none))) else (none)) else (none)) else (none)) else (none)) else (none))) else (none)) else (none)) else (none)) else (some false)))) = some r := by rw [if_neg (show ¬ (false = true) by decide)] at H; exact H
        clear H
        have H := H1
        clear H1
        by_cases c14 : a2_1 = (-1)
        · rw [if_pos c14] at H
          have c14b0 : (a2_1 == (-1)) = true := beq_iff_eq.mpr c14
          have c14b1 : (a2_1 != (-1)) = false := bne_eq_false_iff_eq.mpr c14
          clear c14
          obtain rfl := Option.some.inj H
          have hcz15_0 : wc.cell? ⟨gb144, 0, none⟩ = some (.int .i64 a2_0) := (blk_cell BK144.out 0).trans rfl
          have hcz15_1 : wc.cell? ⟨gb144, 1, none⟩ = some (.int .i64 a2_1) := (blk_cell BK144.out 1).trans rfl
          have hfz15_0 := blk_frozen BK144.out 0
          have hfz15_1 := blk_frozen BK144.out 1
          go_wp2
          repeat (go_quiet (fail); try go_wp2)
          go_ret
          exact ⟨by first | rfl | (simp [errW_none, errW_some] <;> rfl) | (simp [*, errW_none, errW_some] <;> rfl), by repeat (first | (with_reducible first | exact HB.out | apply below_alloc | apply pw_below_drewN | apply below_drew1 | refine below_set ?_ GE144.out) | exact HB.out)⟩
        · rw [if_neg c14] at H
          have c14b0 : (a2_1 == (-1)) = false := beq_eq_false_iff_ne.mpr c14
          have c14b1 : (a2_1 != (-1)) = true := bne_iff_ne.mpr c14
          replace H := Option.bind_eq_some_iff.mp H
          obtain ⟨t148, A160, H⟩ := H
          replace H : (if t148 = true then (if 0 ≤ a2_1 then (if a2_1 < (l1.length : Int) then (if a2_1 < (l0.length : Int) then (if (rd l1 a2_1) ≥ ((rd_L2 l0 a2_1).length : Int) then (some false) else (if 0 ≤ a2_0 then (if a2_0 < (l0.length : Int) then (if a2_0 < (l1.length : Int) then (if 0 ≤ (rd l1 a2_0) then (if (rd l1 a2_0) < ((rd_L2 l0 a2_0).length : Int) then (if (rd (rd_L2 l0 a2_0) (rd l1 a2_0)) = 0 then (some false) else (if 0 ≤ (rd l1 a2_1) then (if (rd l1 a2_1) < ((rd_L2 l0 a2_1).length : Int) then (some ((rd (rd_L2 l0 a2_0) (rd l1 a2_0)) == (wrap64 (-(rd (rd_L2 l0 a2_1) (rd l1 a2_1)))))) else (none)) else (none))) else (none)) else (none)) else (none)) else (none)) else (none))) else (none)) else (none)) else (none)) else (some false)) = some r := H
          have A16 := Aside0.mk A160
          clear A160
          by_cases c17 : t148 = true
          · subst c17
            have H1 : (if 0 ≤ a2_1 then (if a2_1 < (l1.length : Int) then (if a2_1 < (l0.length : Int) then (if (rd l1 a2_1) ≥ ((rd_L2 l0 a2_1).length : Int) then (some false) else (if 0 ≤ a2_0 then (if a2_0 < (l0.length : Int) then (if a2_0 < (l1.length : Int) then (if 0 ≤ (rd l1 a2_0) then (if (rd l1 a2_0) < ((rd_L2 l0 a2_0).length : Int) then (if (rd (rd_L2 l0 a2_0) (rd l1 a2_0)) = 0 then (some false) else (if 0 ≤ (rd l1 a2_1) then (if (rd l1 a2_1) < ((rd_L2 l0 a2_1).length : Int) then (some ((rd (rd_L2 l0 a2_0) (rd l1 a2_0)) == (wrap64 (-(rd (rd_L2 l0 a2_1) (rd l1 a2_1)))))) else (none)) else (none))) else (none)) else (none)) else (none)) else (none)) else (none))) else (none)) else (none)) else (none)) = some r := by rw [if_pos rfl] at H; exact H
            clear H
            have H := H1
            clear H1
            by_cases c18 : 0 ≤ a2_1
            · rw [if_pos c18] at H
              have c18b0 : decide (0 ≤ a2_1) = true := decide_eq_true c18
              clear c18
              by_cases c19 : a2_1 < (l1.length : Int)
              · rw [if_pos c19] at H
                have c19b0 : decide (a2_1 < (l1.length : Int)) = true := decide_eq_true c19
                clear c19
                by_cases c20 : a2_1 < (l0.length : Int)
                · rw [if_pos c20] at H
                  have c20b0 : decide (a2_1 < (l0.length : Int)) = true := decide_eq_true c20
                  clear c20
                  by_cases c21 : (rd l1 a2_1) ≥ ((rd_L2 l0 a2_1).length : Int)
                  · rw [if_pos c21] at H
                    have c21b0 : decide (((rd_L2 l0 a2_1).length : Int) ≤ (rd l1 a2_1)) = true := decide_eq_true c21
                    clear c21
                    obtain rfl := Option.some.inj H
                    have hcz22_0 : wc.cell? ⟨gb144, 0, none⟩ = some (.int .i64 a2_0) := (blk_cell BK144.out 0).trans rfl
                    have hcz22_1 : wc.cell? ⟨gb144, 1, none⟩ = some (.int .i64 a2_1) := (blk_cell BK144.out 1).trans rfl
                    have hfz22_0 := blk_frozen BK144.out 0
                    have hfz22_1 := blk_frozen BK144.out 1
                    go_wp2_with (first | (go_at_call 71; (try simp only [i64_w, i32_w]); (with_reducible refine (spec_l6In.calls a2_1 (wrap64 (a2_0 + 1)) (wrap64 ((l0.length : Int) - 1)) true _ A16.out).mono ?_); rintro e w' ⟨rfl, ⟨nd, rfl⟩⟩; (try first | exact ⟨rfl, _, World.drewN_drewN _ _ _⟩ | exact ⟨rfl, _, Eq.trans (World.drewN_drewN _ _ _) (congrArg (World.drewN _) (Nat.add_assoc _ _ _))⟩); have p149 : 0 ≤ (a2_1 : Int) := of_decide_eq_true (by first | (with_reducible assumption) | assumption); have q149 : a2_1 < (l1.length : Int) := of_decide_eq_true (by first | (with_reducible assumption) | assumption); obtain ⟨ad149, e149, hx149_0⟩ := Kd.at_int HR1.out a2_1 p149 q149; cases e149; replace hx149_0 := (HB.out.cell (World.block_lt_of_cell? w _ hx149_0)).trans hx149_0; replace p149 := eq_true p149; replace q149 := eq_true q149; have p150 : 0 ≤ (a2_1 : Int) := of_decide_eq_true (by first | (with_reducible assumption) | assumption); have q150 : a2_1 < (l0.length : Int) := of_decide_eq_true (by first | (with_reducible assumption) | assumption); obtain ⟨ad150, A150_0, c150_0, e150, hx150_0, hl150_0, hi150_0⟩ := at_L2 HR0.out a2_1 p150 q150; cases e150; replace hx150_0 := (HB.out.cell (World.block_lt_of_cell? w _ hx150_0)).trans hx150_0; have HR150_0 := Aside0.mk hi150_0; have HC150_0 := Aside0.mk hl150_0; clear hi150_0 hl150_0; replace p150 := eq_true p150; replace q150 := eq_true q150))
                    repeat (go_quiet (first | (go_at_call 71; (try simp only [i64_w, i32_w]); (with_reducible refine (spec_l6In.calls a2_1 (wrap64 (a2_0 + 1)) (wrap64 ((l0.length : Int) - 1)) true _ A16.out).mono ?_); rintro e w' ⟨rfl, ⟨nd, rfl⟩⟩; (try first | exact ⟨rfl, _, World.drewN_drewN _ _ _⟩ | exact ⟨rfl, _, Eq.trans (World.drewN_drewN _ _ _) (congrArg (World.drewN _) (Nat.add_assoc _ _ _))⟩); have p149 : 0 ≤ (a2_1 : Int) := of_decide_eq_true (by first | (with_reducible assumption) | assumption); have q149 : a2_1 < (l1.length : Int) := of_decide_eq_true (by first | (with_reducible assumption) | assumption); obtain ⟨ad149, e149, hx149_0⟩ := Kd.at_int HR1.out a2_1 p149 q149; cases e149; replace hx149_0 := (HB.out.cell (World.block_lt_of_cell? w _ hx149_0)).trans hx149_0; replace p149 := eq_true p149; replace q149 := eq_true q149; have p150 : 0 ≤ (a2_1 : Int) := of_decide_eq_true (by first | (with_reducible assumption) | assumption); have q150 : a2_1 < (l0.length : Int) := of_decide_eq_true (by first | (with_reducible assumption) | assumption); obtain ⟨ad150, A150_0, c150_0, e150, hx150_0, hl150_0, hi150_0⟩ := at_L2 HR0.out a2_1 p150 q150; cases e150; replace hx150_0 := (HB.out.cell (World.block_lt_of_cell? w _ hx150_0)).trans hx150_0; have HR150_0 := Aside0.mk hi150_0; have HC150_0 := Aside0.mk hl150_0; clear hi150_0 hl150_0; replace p150 := eq_true p150; replace q150 := eq_true q150)); try go_wp2_with (first | (go_at_call 71; (try simp only [i64_w, i32_w]); (with_reducible refine (spec_l6In.calls a2_1 (wrap64 (a2_0 + 1)) (wrap64 ((l0.length : Int) - 1)) true _ A16.out).mono ?_); rintro e w' ⟨rfl, ⟨nd, rfl⟩⟩; (try first | exact ⟨rfl, _, World.drewN_drewN _ _ _⟩ | exact ⟨rfl, _, Eq.trans (World.drewN_drewN _ _ _) (congrArg (World.drewN _) (Nat.add_assoc _ _ _))⟩); have p149 : 0 ≤ (a2_1 : Int) := of_decide_eq_true (by first | (with_reducible assumption) | assumption); have q149 : a2_1 < (l1.length : Int) := of_decide_eq_true (by first | (with_reducible assumption) | assumption); obtain ⟨ad149, e149, hx149_0⟩ := Kd.at_int HR1.out a2_1 p149 q149; cases e149; replace hx149_0 := (HB.out.cell (World.block_lt_of_cell? w _ hx149_0)).trans hx149_0; replace p149 := eq_true p149; replace q149 := eq_true q149; have p150 : 0 ≤ (a2_1 : Int) := of_decide_eq_true (by first | (with_reducible assumption) | assumption); have q150 : a2_1 < (l0.length : Int) := of_decide_eq_true (by first | (with_reducible assumption) | assumption); obtain ⟨ad150, A150_0, c150_0, e150, hx150_0, hl150_0, hi150_0⟩ := at_L2 HR0.out a2_1 p150 q150; cases e150; replace hx150_0 := (HB.out.cell (World.block_lt_of_cell? w _ hx150_0)).trans hx150_0; have HR150_0 := Aside0.mk hi150_0; have HC150_0 := Aside0.mk hl150_0; clear hi150_0 hl150_0; replace p150 := eq_true p150; replace q150 := eq_true q150)))
                    go_ret
                    exact ⟨by first | rfl | (simp [errW_none, errW_some] <;> rfl) | (simp [*, errW_none, errW_some] <;> rfl), by repeat (first | (with_reducible first | exact HB.out | apply below_alloc | apply pw_below_drewN | apply below_drew1 | refine below_set ?_ GE144.out) | exact HB.out)⟩
                  · rw [if_neg c21] at H
                    have c21b0 : decide (((rd_L2 l0 a2_1).length : Int) ≤ (rd l1 a2_1)) = false := decide_eq_false c21
                    clear c21
                    by_cases c23 : 0 ≤ a2_0
                    · rw [if_pos c23] at H
                      have c23b0 : decide (0 ≤ a2_0) = true := decide_eq_true c23
                      clear c23
                      by_cases c24 : a2_0 < (l0.length : Int)
                      · rw [if_pos c24] at H
                        have c24b0 : decide (a2_0 < (l0.length : Int)) = true := decide_eq_true c24
                        clear c24
                        by_cases c25 : a2_0 < (l1.length : Int)
                        · rw [if_pos c25] at H
                          have c25b0 : decide (a2_0 < (l1.length : Int)) = true := decide_eq_true c25
                          clear c25
                          by_cases c26 : 0 ≤ (rd l1 a2_0)
                          · rw [if_pos c26] at H
                            have c26b0 : decide (0 ≤ (rd l1 a2_0)) = true := decide_eq_true c26
                            clear c26
                            by_cases c27 : (rd l1 a2_0) < ((rd_L2 l0 a2_0).length : Int)
                            · rw [if_pos c27] at H
                              have c27b0 : decide ((rd l1 a2_0) < ((rd_L2 l0 a2_0).length : Int)) = true := decide_eq_true c27
                              clear c27
                              by_cases c28 : (rd (rd_L2 l0 a2_0) (rd l1 a2_0)) = 0
                              · rw [if_pos c28] at H
                                have c28b0 : ((rd (rd_L2 l0 a2_0) (rd l1 a2_0)) == 0) = true := beq_iff_eq.mpr c28
                                have c28b1 : ((rd (rd_L2 l0 a2_0) (rd l1 a2_0)) != 0) = false := bne_eq_false_iff_eq.mpr c28
                                clear c28
                                obtain rfl := Option.some.inj H
                                have hcz29_0 : wc.cell? ⟨gb144, 0, none⟩ = some (.int .i64 a2_0) := (blk_cell BK144.out 0).trans rfl
                                have hcz29_1 : wc.cell? ⟨gb144, 1, none⟩ = some (.int .i64 a2_1) := (blk_cell BK144.out 1).trans rfl
                                have hfz29_0 := blk_frozen BK144.out 0
                                have hfz29_1 := blk_frozen BK144.out 1
                                go_wp2_with (first | (go_at_call 71; (try simp only [i64_w, i32_w]); (with_reducible refine (spec_l6In.calls a2_1 (wrap64 (a2_0 + 1)) (wrap64 ((l0.length : Int) - 1)) true _ A16.out).mono ?_); rintro e w' ⟨rfl, ⟨nd, rfl⟩⟩; (try first | exact ⟨rfl, _, World.drewN_drewN _ _ _⟩ | exact ⟨rfl, _, Eq.trans (World.drewN_drewN _ _ _) (congrArg (World.drewN _) (Nat.add_assoc _ _ _))⟩); have p149 : 0 ≤ (a2_1 : Int) := of_decide_eq_true (by first | (with_reducible assumption) | assumption); have q149 : a2_1 < (l1.length : Int) := of_decide_eq_true (by first | (with_reducible assumption) | assumption); obtain ⟨ad149, e149, hx149_0⟩ := Kd.at_int HR1.out a2_1 p149 q149; cases e149; replace hx149_0 := (HB.out.cell (World.block_lt_of_cell? w _ hx149_0)).trans hx149_0; replace p149 := eq_true p149; replace q149 := eq_true q149; have p150 : 0 ≤ (a2_1 : Int) := of_decide_eq_true (by first | (with_reducible assumption) | assumption); have q150 : a2_1 < (l0.length : Int) := of_decide_eq_true (by first | (with_reducible assumption) | assumption); obtain ⟨ad150, A150_0, c150_0, e150, hx150_0, hl150_0, hi150_0⟩ := at_L2 HR0.out a2_1 p150 q150; cases e150; replace hx150_0 := (HB.out.cell (World.block_lt_of_cell? w _ hx150_0)).trans hx150_0; have HR150_0 := Aside0.mk hi150_0; have HC150_0 := Aside0.mk hl150_0; clear hi150_0 hl150_0; replace p150 := eq_true p150; replace q150 := eq_true q150; have p151 : 0 ≤ (a2_0 : Int) := of_decide_eq_true (by first | (with_reducible assumption) | assumption); have q151 : a2_0 < (l0.length : Int) := of_decide_eq_true (by first | (with_reducible assumption) | assumption); obtain ⟨ad151, A151_0, c151_0, e151, hx151_0, hl151_0, hi151_0⟩ := at_L2 HR0.out a2_0 p151 q151; obtain rfl : ad150 = ad151 := (by injection e151); replace hx151_0 := (HB.out.cell (World.block_lt_of_cell? w _ hx151_0)).trans hx151_0; have HR151_0 := Aside0.mk hi151_0; have HC151_0 := Aside0.mk hl151_0; clear hi151_0 hl151_0; replace p151 := eq_true p151; replace q151 := eq_true q151; have p152 : 0 ≤ (a2_0 : Int) := of_decide_eq_true (by first | (with_reducible assumption) | assumption); have q152 : a2_0 < (l1.length : Int) := of_decide_eq_true (by first | (with_reducible assumption) | assumption); obtain ⟨ad152, e152, hx152_0⟩ := Kd.at_int HR1.out a2_0 p152 q152; obtain rfl : ad149 = ad152 := (by injection e152); replace hx152_0 := (HB.out.cell (World.block_lt_of_cell? w _ hx152_0)).trans hx152_0; replace p152 := eq_true p152; replace q152 := eq_true q152; have p153 : 0 ≤ ((rd l1 a2_0) : Int) := of_decide_eq_true (by first | (with_reducible assumption) | assumption); have q153 : (rd l1 a2_0) < ((rd_L2 l0 a2_0).length : Int) := of_decide_eq_true (by first | (with_reducible assumption) | assumption); obtain ⟨ad153, e153, hx153_0⟩ := Kd.at_int HR151_0.out (rd l1 a2_0) p153 q153; cases e153; replace hx153_0 := (HB.out.cell (World.block_lt_of_cell? w _ hx153_0)).trans hx153_0; replace p153 := eq_true p153; replace q153 := eq_true q153))
                                repeat (go_quiet (first | (go_at_call 71; (try simp only [i64_w, i32_w]); (with_reducible refine (spec_l6In.calls a2_1 (wrap64 (a2_0 + 1)) (wrap64 ((l0.length : Int) - 1)) true _ A16.out).mono ?_); rintro e w' ⟨rfl, ⟨nd, rfl⟩⟩; (try first | exact ⟨rfl, _, World.drewN_drewN _ _ _⟩ | exact ⟨rfl, _, Eq.trans (World.drewN_drewN _ _ _) (congrArg (World.drewN _) (Nat.add_assoc _ _ _))⟩); have p149 : 0 ≤ (a2_1 : Int) := of_decide_eq_true (by first | (with_reducible assumption) | assumption); have q149 : a2_1 < (l1.length : Int) := of_decide_eq_true (by first | (with_reducible assumption) | assumption); obtain ⟨ad149, e149, hx149_0⟩ := Kd.at_int HR1.out a2_1 p149 q149; cases e149; replace hx149_0 := (HB.out.cell (World.block_lt_of_cell? w _ hx149_0)).trans hx149_0; replace p149 := eq_true p149; replace q149 := eq_true q149; have p150 : 0 ≤ (a2_1 : Int) := of_decide_eq_true (by first | (with_reducible assumption) | assumption); have q150 : a2_1 < (l0.length : Int) := of_decide_eq_true (by first | (with_reducible assumption) | assumption); obtain ⟨ad150, A150_0, c150_0, e150, hx150_0, hl150_0, hi150_0⟩ := at_L2 HR0.out a2_1 p150 q150; cases e150; replace hx150_0 := (HB.out.cell (World.block_lt_of_cell? w _ hx150_0)).trans hx150_0; have HR150_0 := Aside0.mk hi150_0; have HC150_0 := Aside0.mk hl150_0; clear hi150_0 hl150_0; replace p150 := eq_true p150; replace q150 := eq_true q150; have p151 : 0 ≤ (a2_0 : Int) := of_decide_eq_true (by first | (with_reducible assumption) | assumption); have q151 : a2_0 < (l0.length : Int) := of_decide_eq_true (by first | (with_reducible assumption) | assumption); obtain ⟨ad151, A151_0, c151_0, e151, hx151_0, hl151_0, hi151_0⟩ := at_L2 HR0.out a2_0 p151 q151; obtain rfl : ad150 = ad151 := (by injection e151); replace hx151_0 := (HB.out.cell (World.block_lt_of_cell? w _ hx151_0)).trans hx151_0; have HR151_0 := Aside0.mk hi151_0; have HC151_0 := Aside0.mk hl151_0; clear hi151_0 hl151_0; replace p151 := eq_true p151; replace q151 := eq_true q151; have p152 : 0 ≤ (a2_0 : Int) := of_decide_eq_true (by first | (with_reducible assumption) | assumption); have q152 : a2_0 < (l1.length : Int) := of_decide_eq_true (by first | (with_reducible assumption) | assumption); obtain ⟨ad152, e152, hx152_0⟩ := Kd.at_int HR1.out a2_0 p152 q152; obtain rfl : ad149 = ad152 := (by injection e152); replace hx152_0 := (HB.out.cell (World.block_lt_of_cell? w _ hx152_0)).trans hx152_0; replace p152 := eq_true p152; replace q152 := eq_true q152; have p153 : 0 ≤ ((rd l1 a2_0) : Int) := of_decide_eq_true (by first | (with_reducible assumption) | assumption); have q153 : (rd l1 a2_0) < ((rd_L2 l0 a2_0).length : Int) := of_decide_eq_true (by first | (with_reducible assumption) | assumption); obtain ⟨ad153, e153, hx153_0⟩ := Kd.at_int HR151_0.out (rd l1 a2_0) p153 q153; cases e153; replace hx153_0 := (HB.out.cell (World.block_lt_of_cell? w _ hx153_0)).trans hx153_0; replace p153 := eq_true p153; replace q153 := eq_true q153)); try go_wp2_with (first | (go_at_call 71; (try simp only [i64_w, i32_w]); (with_reducible refine (spec_l6In.calls a2_1 (wrap64 (a2_0 + 1)) (wrap64 ((l0.length : Int) - 1)) true _ A16.out).mono ?_); rintro e w' ⟨rfl, ⟨nd, rfl⟩⟩; (try first | exact ⟨rfl, _, World.drewN_drewN _ _ _⟩ | exact ⟨rfl, _, Eq.trans (World.drewN_drewN _ _ _) (congrArg (World.drewN _) (Nat.add_assoc _ _ _))⟩); have p149 : 0 ≤ (a2_1 : Int) := of_decide_eq_true (by first | (with_reducible assumption) | assumption); have q149 : a2_1 < (l1.length : Int) := of_decide_eq_true (by first | (with_reducible assumption) | assumption); obtain ⟨ad149, e149, hx149_0⟩ := Kd.at_int HR1.out a2_1 p149 q149; cases e149; replace hx149_0 := (HB.out.cell (World.block_lt_of_cell? w _ hx149_0)).trans hx149_0; replace p149 := eq_true p149; replace q149 := eq_true q149; have p150 : 0 ≤ (a2_1 : Int) := of_decide_eq_true (by first | (with_reducible assumption) | assumption); have q150 : a2_1 < (l0.length : Int) := of_decide_eq_true (by first | (with_reducible assumption) | assumption); obtain ⟨ad150, A150_0, c150_0, e150, hx150_0, hl150_0, hi150_0⟩ := at_L2 HR0.out a2_1 p150 q150; cases e150; replace hx150_0 := (HB.out.cell (World.block_lt_of_cell? w _ hx150_0)).trans hx150_0; have HR150_0 := Aside0.mk hi150_0; have HC150_0 := Aside0.mk hl150_0; clear hi150_0 hl150_0; replace p150 := eq_true p150; replace q150 := eq_true q150; have p151 : 0 ≤ (a2_0 : Int) := of_decide_eq_true (by first | (with_reducible assumption) | assumption); have q151 : a2_0 < (l0.length : Int) := of_decide_eq_true (by first | (with_reducible assumption) | assumption); obtain ⟨ad151, A151_0, c151_0, e151, hx151_0, hl151_0, hi151_0⟩ := at_L2 HR0.out a2_0 p151 q151; obtain rfl : ad150 = ad151 := (by injection e151); replace hx151_0 := (HB.out.cell (World.block_lt_of_cell? w _ hx151_0)).trans hx151_0; have HR151_0 := Aside0.mk hi151_0; have HC151_0 := Aside0.mk hl151_0; clear hi151_0 hl151_0; replace p151 := eq_true p151; replace q151 := eq_true q151; have p152 : 0 ≤ (a2_0 : Int) := of_decide_eq_true (by first | (with_reducible assumption) | assumption); have q152 : a2_0 < (l1.length : Int) := of_decide_eq_true (by first | (with_reducible assumption) | assumption); obtain ⟨ad152, e152, hx152_0⟩ := Kd.at_int HR1.out a2_0 p152 q152; obtain rfl : ad149 = ad152 := (by injection e152); replace hx152_0 := (HB.out.cell (World.block_lt_of_cell? w _ hx152_0)).trans hx152_0; replace p152 := eq_true p152; replace q152 := eq_true q152; have p153 : 0 ≤ ((rd l1 a2_0) : Int) := of_decide_eq_true (by first | (with_reducible assumption) | assumption); have q153 : (rd l1 a2_0) < ((rd_L2 l0 a2_0).length : Int) := of_decide_eq_true (by first | (with_reducible assumption) | assumption); obtain ⟨ad153, e153, hx153_0⟩ := Kd.at_int HR151_0.out (rd l1 a2_0) p153 q153; cases e153; replace hx153_0 := (HB.out.cell (World.block_lt_of_cell? w _ hx153_0)).trans hx153_0; replace p153 := eq_true p153; replace q153 := eq_true q153)))
                                go_ret
                                exact ⟨by first | rfl | (simp [errW_none, errW_some] <;> rfl) | (simp [*, errW_none, errW_some] <;> rfl), by repeat (first | (with_reducible first | exact HB.out | apply below_alloc | apply pw_below_drewN | apply below_drew1 | refine below_set ?_ GE144.out) | exact HB.out)⟩
                              · rw [if_neg c28] at H
                                have c28b0 : ((rd (rd_L2 l0 a2_0) (rd l1 a2_0)) == 0) = false := beq_eq_false_iff_ne.mpr c28
                                have c28b1 : ((rd (rd_L2 l0 a2_0) (rd l1 a2_0)) != 0) = true := bne_iff_ne.mpr c28
                                by_cases c30 : 0 ≤ (rd l1 a2_1)
                                · rw [if_pos c30] at H
                                  have c30b0 : decide (0 ≤ (rd l1 a2_1)) = true := decide_eq_true c30
                                  clear c30
                                  by_cases c31 : (rd l1 a2_1) < ((rd_L2 l0 a2_1).length : Int)
                                  · rw [if_pos c31] at H
                                    have c31b0 : decide ((rd l1 a2_1) < ((rd_L2 l0 a2_1).length : Int)) = true := decide_eq_true c31
                                    clear c31
                                    obtain rfl := Option.some.inj H
                                    have hcz32_0 : wc.cell? ⟨gb144, 0, none⟩ = some (.int .i64 a2_0) := (blk_cell BK144.out 0).trans rfl
                                    have hcz32_1 : wc.cell? ⟨gb144, 1, none⟩ = some (.int .i64 a2_1) := (blk_cell BK144.out 1).trans rfl
                                    have hfz32_0 := blk_frozen BK144.out 0
                                    have hfz32_1 := blk_frozen BK144.out 1
                                    go_wp2_with (first | (go_at_call 71; (try simp only [i64_w, i32_w]); (with_reducible refine (spec_l6In.calls a2_1 (wrap64 (a2_0 + 1)) (wrap64 ((l0.length : Int) - 1)) true _ A16.out).mono ?_); rintro e w' ⟨rfl, ⟨nd, rfl⟩⟩; (try first | exact ⟨rfl, _, World.drewN_drewN _ _ _⟩ | exact ⟨rfl, _, Eq.trans (World.drewN_drewN _ _ _) (congrArg (World.drewN _) (Nat.add_assoc _ _ _))⟩); have p149 : 0 ≤ (a2_1 : Int) := of_decide_eq_true (by first | (with_reducible assumption) | assumption); have q149 : a2_1 < (l1.length : Int) := of_decide_eq_true (by first | (with_reducible assumption) | assumption); obtain ⟨ad149, e149, hx149_0⟩ := Kd.at_int HR1.out a2_1 p149 q149; cases e149; replace hx149_0 := (HB.out.cell (World.block_lt_of_cell? w _ hx149_0)).trans hx149_0; replace p149 := eq_true p149; replace q149 := eq_true q149; have p150 : 0 ≤ (a2_1 : Int) := of_decide_eq_true (by first | (with_reducible assumption) | assumption); have q150 : a2_1 < (l0.length : Int) := of_decide_eq_true (by first | (with_reducible assumption) | assumption); obtain ⟨ad150, A150_0, c150_0, e150, hx150_0, hl150_0, hi150_0⟩ := at_L2 HR0.out a2_1 p150 q150; cases e150; replace hx150_0 := (HB.out.cell (World.block_lt_of_cell? w _ hx150_0)).trans hx150_0; have HR150_0 := Aside0.mk hi150_0; have HC150_0 := Aside0.mk hl150_0; clear hi150_0 hl150_0; replace p150 := eq_true p150; replace q150 := eq_true q150; have p151 : 0 ≤ (a2_0 : Int) := of_decide_eq_true (by first | (with_reducible assumption) | assumption); have q151 : a2_0 < (l0.length : Int) := of_decide_eq_true (by first | (with_reducible assumption) | assumption); obtain ⟨ad151, A151_0, c151_0, e151, hx151_0, hl151_0, hi151_0⟩ := at_L2 HR0.out a2_0 p151 q151; obtain rfl : ad150 = ad151 := (by injection e151); replace hx151_0 := (HB.out.cell (World.block_lt_of_cell? w _ hx151_0)).trans hx151_0; have HR151_0 := Aside0.mk hi151_0; have HC151_0 := Aside0.mk hl151_0; clear hi151_0 hl151_0; replace p151 := eq_true p151; replace q151 := eq_true q151; have p152 : 0 ≤ (a2_0 : Int) := of_decide_eq_true (by first | (with_reducible assumption) | assumption); have q152 : a2_0 < (l1.length : Int) := of_decide_eq_true (by first | (with_reducible assumption) | assumption); obtain ⟨ad152, e152, hx152_0⟩ := Kd.at_int HR1.out a2_0 p152 q152; obtain rfl : ad149 = ad152 := (by injection e152); replace hx152_0 := (HB.out.cell (World.block_lt_of_cell? w _ hx152_0)).trans hx152_0; replace p152 := eq_true p152; replace q152 := eq_true q152; have p153 : 0 ≤ ((rd l1 a2_0) : Int) := of_decide_eq_true (by first | (with_reducible assumption) | assumption); have q153 : (rd l1 a2_0) < ((rd_L2 l0 a2_0).length : Int) := of_decide_eq_true (by first | (with_reducible assumption) | assumption); obtain ⟨ad153, e153, hx153_0⟩ := Kd.at_int HR151_0.out (rd l1 a2_0) p153 q153; cases e153; replace hx153_0 := (HB.out.cell (World.block_lt_of_cell? w _ hx153_0)).trans hx153_0; replace p153 := eq_true p153; replace q153 := eq_true q153; have p154 : 0 ≤ (a2_1 : Int) := of_decide_eq_true (by first | (with_reducible assumption) | assumption); have q154 : a2_1 < (l0.length : Int) := of_decide_eq_true (by first | (with_reducible assumption) | assumption); obtain ⟨ad154, A154_0, c154_0, e154, hx154_0, hl154_0, hi154_0⟩ := at_L2 HR0.out a2_1 p154 q154; obtain rfl : ad150 = ad154 := (by injection e154); replace hx154_0 := (HB.out.cell (World.block_lt_of_cell? w _ hx154_0)).trans hx154_0; have HR154_0 := Aside0.mk hi154_0; have HC154_0 := Aside0.mk hl154_0; clear hi154_0 hl154_0; replace p154 := eq_true p154; replace q154 := eq_true q154; have ea_ := Option.some.inj (hx150_0.symm.trans hx154_0); injection ea_ with ea_ en_ ec_; subst ea_; subst ec_; clear en_; have p155 : 0 ≤ (a2_1 : Int) := of_decide_eq_true (by first | (with_reducible assumption) | assumption); have q155 : a2_1 < (l1.length : Int) := of_decide_eq_true (by first | (with_reducible assumption) | assumption); obtain ⟨ad155, e155, hx155_0⟩ := Kd.at_int HR1.out a2_1 p155 q155; obtain rfl : ad149 = ad155 := (by injection e155); replace hx155_0 := (HB.out.cell (World.block_lt_of_cell? w _ hx155_0)).trans hx155_0; replace p155 := eq_true p155; replace q155 := eq_true q155; have p156 : 0 ≤ ((rd l1 a2_1) : Int) := of_decide_eq_true (by first | (with_reducible assumption) | assumption); have q156 : (rd l1 a2_1) < ((rd_L2 l0 a2_1).length : Int) := of_decide_eq_true (by first | (with_reducible assumption) | assumption); obtain ⟨ad156, e156, hx156_0⟩ := Kd.at_int HR154_0.out (rd l1 a2_1) p156 q156; cases e156; replace hx156_0 := (HB.out.cell (World.block_lt_of_cell? w _ hx156_0)).trans hx156_0; replace p156 := eq_true p156; replace q156 := eq_true q156))
                                    repeat (go_quiet (first | (go_at_call 71; (try simp only [i64_w, i32_w]); (with_reducible refine (spec_l6In.calls a2_1 (wrap64 (a2_0 + 1)) (wrap64 ((l0.length : Int) - 1)) true _ A16.out).mono ?_); rintro e w' ⟨rfl, ⟨nd, rfl⟩⟩; (try first | exact ⟨rfl, _, World.drewN_drewN _ _ _⟩ | exact ⟨rfl, _, Eq.trans (World.drewN_drewN _ _ _) (congrArg (World.drewN _) (Nat.add_assoc _ _ _))⟩); have p149 : 0 ≤ (a2_1 : Int) := of_decide_eq_true (by first | (with_reducible assumption) | assumption); have q149 : a2_1 < (l1.length : Int) := of_decide_eq_true (by first | (with_reducible assumption) | assumption); obtain ⟨ad149, e149, hx149_0⟩ := Kd.at_int HR1.out a2_1 p149 q149; cases e149; replace hx149_0 := (HB.out.cell (World.block_lt_of_cell? w _ hx149_0)).trans hx149_0; replace p149 := eq_true p149; replace q149 := eq_true q149; have p150 : 0 ≤ (a2_1 : Int) := of_decide_eq_true (by first | (with_reducible assumption) | assumption); have q150 : a2_1 < (l0.length : Int) := of_decide_eq_true (by first | (with_reducible assumption) | assumption); obtain ⟨ad150, A150_0, c150_0, e150, hx150_0, hl150_0, hi150_0⟩ := at_L2 HR0.out a2_1 p150 q150; cases e150; replace hx150_0 := (HB.out.cell (World.block_lt_of_cell? w _ hx150_0)).trans hx150_0; have HR150_0 := Aside0.mk hi150_0; have HC150_0 := Aside0.mk hl150_0; clear hi150_0 hl150_0; replace p150 := eq_true p150; replace q150 := eq_true q150; have p151 : 0 ≤ (a2_0 : Int) := of_decide_eq_true (by first | (with_reducible assumption) | assumption); have q151 : a2_0 < (l0.length : Int) := of_decide_eq_true (by first | (with_reducible assumption) | assumption); obtain ⟨ad151, A151_0, c151_0, e151, hx151_0, hl151_0, hi151_0⟩ := at_L2 HR0.out a2_0 p151 q151; obtain rfl : ad150 = ad151 := (by injection e151); replace hx151_0 := (HB.out.cell (World.block_lt_of_cell? w _ hx151_0)).trans hx151_0; have HR151_0 := Aside0.mk hi151_0; have HC151_0 := Aside0.mk hl151_0; clear hi151_0 hl151_0; replace p151 := eq_true p151; replace q151 := eq_true q151; have p152 : 0 ≤ (a2_0 : Int) := of_decide_eq_true (by first | (with_reducible assumption) | assumption); have q152 : a2_0 < (l1.length : Int) := of_decide_eq_true (by first | (with_reducible assumption) | assumption); obtain ⟨ad152, e152, hx152_0⟩ := Kd.at_int HR1.out a2_0 p152 q152; obtain rfl : ad149 = ad152 := (by injection e152); replace hx152_0 := (HB.out.cell (World.block_lt_of_cell? w _ hx152_0)).trans hx152_0; replace p152 := eq_true p152; replace q152 := eq_true q152; have p153 : 0 ≤ ((rd l1 a2_0) : Int) := of_decide_eq_true (by first | (with_reducible assumption) | assumption); have q153 : (rd l1 a2_0) < ((rd_L2 l0 a2_0).length : Int) := of_decide_eq_true (by first | (with_reducible assumption) | assumption); obtain ⟨ad153, e153, hx153_0⟩ := Kd.at_int HR151_0.out (rd l1 a2_0) p153 q153; cases e153; replace hx153_0 := (HB.out.cell (World.block_lt_of_cell? w _ hx153_0)).trans hx153_0; replace p153 := eq_true p153; replace q153 := eq_true q153; have p154 : 0 ≤ (a2_1 : Int) := of_decide_eq_true (by first | (with_reducible assumption) | assumption); have q154 : a2_1 < (l0.length : Int) := of_decide_eq_true (by first | (with_reducible assumption) | assumption); obtain ⟨ad154, A154_0, c154_0, e154, hx154_0, hl154_0, hi154_0⟩ := at_L2 HR0.out a2_1 p154 q154; obtain rfl : ad150 = ad154 := (by injection e154); replace hx154_0 := (HB.out.cell (World.block_lt_of_cell? w _ hx154_0)).trans hx154_0; have HR154_0 := Aside0.mk hi154_0; have HC154_0 := Aside0.mk hl154_0; clear hi154_0 hl154_0; replace p154 := eq_true p154; replace q154 := eq_true q154; have ea_ := Option.some.inj (hx150_0.symm.trans hx154_0); injection ea_ with ea_ en_ ec_; subst ea_; subst ec_; clear en_; have p155 : 0 ≤ (a2_1 : Int) := of_decide_eq_true (by first | (with_reducible assumption) | assumption); have q155 : a2_1 < (l1.length : Int) := of_decide_eq_true (by first | (with_reducible assumption) | assumption); obtain ⟨ad155, e155, hx155_0⟩ := Kd.at_int HR1.out a2_1 p155 q155; obtain rfl : ad149 = ad155 := (by injection e155); replace hx155_0 := (HB.out.cell (World.block_lt_of_cell? w _ hx155_0)).trans hx155_0; replace p155 := eq_true p155; replace q155 := eq_true q155; have p156 : 0 ≤ ((rd l1 a2_1) : Int) := of_decide_eq_true (by first | (with_reducible assumption) | assumption); have q156 : (rd l1 a2_1) < ((rd_L2 l0 a2_1).length : Int) := of_decide_eq_true (by first | (with_reducible assumption) | assumption); obtain ⟨ad156, e156, hx156_0⟩ := Kd.at_int HR154_0.out (rd l1 a2_1) p156 q156; cases e156; replace hx156_0 := (HB.out.cell (World.block_lt_of_cell? w _ hx156_0)).trans hx156_0; replace p156 := eq_true p156; replace q156 := eq_true q156)); try go_wp2_with (first | (go_at_call 71; (try simp only [i64_w, i32_w]); (with_reducible refine (spec_l6In.calls a2_1 (wrap64 (a2_0 + 1)) (wrap64 ((l0.length : Int) - 1)) true _ A16.out).mono ?_); rintro e w' ⟨rfl, ⟨nd, rfl⟩⟩; (try first | exact ⟨rfl, _, World.drewN_drewN _ _ _⟩ | exact ⟨rfl, _, Eq.trans (World.drewN_drewN _ _ _) (congrArg (World.drewN _) (Nat.add_assoc _ _ _))⟩); have p149 : 0 ≤ (a2_1 : Int) := of_decide_eq_true (by first | (with_reducible assumption) | assumption); have q149 : a2_1 < (l1.length : Int) := of_decide_eq_true (by first | (with_reducible assumption) | assumption); obtain ⟨ad149, e149, hx149_0⟩ := Kd.at_int HR1.out a2_1 p149 q149; cases e149; replace hx149_0 := (HB.out.cell (World.block_lt_of_cell? w _ hx149_0)).trans hx149_0; replace p149 := eq_true p149; replace q149 := eq_true q149; have p150 : 0 ≤ (a2_1 : Int) := of_decide_eq_true (by first | (with_reducible assumption) | assumption); have q150 : a2_1 < (l0.length : Int) := of_decide_eq_true (by first | (with_reducible assumption) | assumption); obtain ⟨ad150, A150_0, c150_0, e150, hx150_0, hl150_0, hi150_0⟩ := at_L2 HR0.out a2_1 p150 q150; cases e150; replace hx150_0 := (HB.out.cell (World.block_lt_of_cell? w _ hx150_0)).trans hx150_0; have HR150_0 := Aside0.mk hi150_0; have HC150_0 := Aside0.mk hl150_0; clear hi150_0 hl150_0; replace p150 := eq_true p150; replace q150 := eq_true q150; have p151 : 0 ≤ (a2_0 : Int) := of_decide_eq_true (by first | (with_reducible assumption) | assumption); have q151 : a2_0 < (l0.length : Int) := of_decide_eq_true (by first | (with_reducible assumption) | assumption); obtain ⟨ad151, A151_0, c151_0, e151, hx151_0, hl151_0, hi151_0⟩ := at_L2 HR0.out a2_0 p151 q151; obtain rfl : ad150 = ad151 := (by injection e151); replace hx151_0 := (HB.out.cell (World.block_lt_of_cell? w _ hx151_0)).trans hx151_0; have HR151_0 := Aside0.mk hi151_0; have HC151_0 := Aside0.mk hl151_0; clear hi151_0 hl151_0; replace p151 := eq_true p151; replace q151 := eq_true q151; have p152 : 0 ≤ (a2_0 : Int) := of_decide_eq_true (by first | (with_reducible assumption) | assumption); have q152 : a2_0 < (l1.length : Int) := of_decide_eq_true (by first | (with_reducible assumption) | assumption); obtain ⟨ad152, e152, hx152_0⟩ := Kd.at_int HR1.out a2_0 p152 q152; obtain rfl : ad149 = ad152 := (by injection e152); replace hx152_0 := (HB.out.cell (World.block_lt_of_cell? w _ hx152_0)).trans hx152_0; replace p152 := eq_true p152; replace q152 := eq_true q152; have p153 : 0 ≤ ((rd l1 a2_0) : Int) := of_decide_eq_true (by first | (with_reducible assumption) | assumption); have q153 : (rd l1 a2_0) < ((rd_L2 l0 a2_0).length : Int) := of_decide_eq_true (by first | (with_reducible assumption) | assumption); obtain ⟨ad153, e153, hx153_0⟩ := Kd.at_int HR151_0.out (rd l1 a2_0) p153 q153; cases e153; replace hx153_0 := (HB.out.cell (World.block_lt_of_cell? w _ hx153_0)).trans hx153_0; replace p153 := eq_true p153; replace q153 := eq_true q153; have p154 : 0 ≤ (a2_1 : Int) := of_decide_eq_true (by first | (with_reducible assumption) | assumption); have q154 : a2_1 < (l0.length : Int) := of_decide_eq_true (by first | (with_reducible assumption) | assumption); obtain ⟨ad154, A154_0, c154_0, e154, hx154_0, hl154_0, hi154_0⟩ := at_L2 HR0.out a2_1 p154 q154; obtain rfl : ad150 = ad154 := (by injection e154); replace hx154_0 := (HB.out.cell (World.block_lt_of_cell? w _ hx154_0)).trans hx154_0; have HR154_0 := Aside0.mk hi154_0; have HC154_0 := Aside0.mk hl154_0; clear hi154_0 hl154_0; replace p154 := eq_true p154; replace q154 := eq_true q154; have ea_ := Option.some.inj (hx150_0.symm.trans hx154_0); injection ea_ with ea_ en_ ec_; subst ea_; subst ec_; clear en_; have p155 : 0 ≤ (a2_1 : Int) := of_decide_eq_true (by first | (with_reducible assumption) | assumption); have q155 : a2_1 < (l1.length : Int) := of_decide_eq_true (by first | (with_reducible assumption) | assumption); obtain ⟨ad155, e155, hx155_0⟩ := Kd.at_int HR1.out a2_1 p155 q155; obtain rfl : ad149 = ad155 := (by injection e155); replace hx155_0 := (HB.out.cell (World.block_lt_of_cell? w _ hx155_0)).trans hx155_0; replace p155 := eq_true p155; replace q155 := eq_true q155; have p156 : 0 ≤ ((rd l1 a2_1) : Int) := of_decide_eq_true (by first | (with_reducible assumption) | assumption); have q156 : (rd l1 a2_1) < ((rd_L2 l0 a2_1).length : Int) := of_decide_eq_true (by first | (with_reducible assumption) | assumption); obtain ⟨ad156, e156, hx156_0⟩ := Kd.at_int HR154_0.out (rd l1 a2_1) p156 q156; cases e156; replace hx156_0 := (HB.out.cell (World.block_lt_of_cell? w _ hx156_0)).trans hx156_0; replace p156 := eq_true p156; replace q156 := eq_true q156)))
                                    go_ret
                                    exact ⟨by first | rfl | (simp [errW_none, errW_some] <;> rfl) | (simp [*, errW_none, errW_some] <;> rfl), by repeat (first | (with_reducible first | exact HB.out | apply below_alloc | apply pw_below_drewN | apply below_drew1 | refine below_set ?_ GE144.out) | exact HB.out)⟩
                                  · rw [if_neg c31] at H
                                    exact absurd H (by simp)
                                · rw [if_neg c30] at H
                                  exact absurd H (by simp)
                            · rw [if_neg c27] at H
                              exact absurd H (by simp)
                          · rw [if_neg c26] at H
                            exact absurd H (by simp)
                        · rw [if_neg c25] at H
                          exact absurd H (by simp)
                      · rw [if_neg c24] at H
                        exact absurd H (by simp)
                    · rw [if_neg c23] at H
                      exact absurd H (by simp)
                · rw [if_neg c20] at H
                  exact absurd H (by simp)
              · rw [if_neg c19] at H
                exact absurd H (by simp)
            · rw [if_neg c18] at H
              exact absurd H (by simp)
          · replace c17 := Bool.eq_false_iff.mpr c17
            subst c17
            have H1 : (some false) = some r := by rw [if_neg (show ¬ (false = true) by decide)] at H; exact H
            clear H
            have H := H1
            clear H1
            obtain rfl := Option.some.inj H
            have hcz33_0 : wc.cell? ⟨gb144, 0, none⟩ = some (.int .i64 a2_0) := (blk_cell BK144.out 0).trans rfl
            have hcz33_1 : wc.cell? ⟨gb144, 1, none⟩ = some (.int .i64 a2_1) := (blk_cell BK144.out 1).trans rfl
            have hfz33_0 := blk_frozen BK144.out 0
            have hfz33_1 := blk_frozen BK144.out 1
            go_wp2_with (first | (go_at_call 71; (try simp only [i64_w, i32_w]); (with_reducible refine (spec_l6In.calls a2_1 (wrap64 (a2_0 + 1)) (wrap64 ((l0.length : Int) - 1)) false _ A16.out).mono ?_); rintro e w' ⟨rfl, ⟨nd, rfl⟩⟩; (try first | exact ⟨rfl, _, World.drewN_drewN _ _ _⟩ | exact ⟨rfl, _, Eq.trans (World.drewN_drewN _ _ _) (congrArg (World.drewN _) (Nat.add_assoc _ _ _))⟩)))
            repeat (go_quiet (first | (go_at_call 71; (try simp only [i64_w, i32_w]); (with_reducible refine (spec_l6In.calls a2_1 (wrap64 (a2_0 + 1)) (wrap64 ((l0.length : Int) - 1)) false _ A16.out).mono ?_); rintro e w' ⟨rfl, ⟨nd, rfl⟩⟩; (try first | exact ⟨rfl, _, World.drewN_drewN _ _ _⟩ | exact ⟨rfl, _, Eq.trans (World.drewN_drewN _ _ _) (congrArg (World.drewN _) (Nat.add_assoc _ _ _))⟩))); try go_wp2_with (first | (go_at_call 71; (try simp only [i64_w, i32_w]); (with_reducible refine (spec_l6In.calls a2_1 (wrap64 (a2_0 + 1)) (wrap64 ((l0.length : Int) - 1)) false _ A16.out).mono ?_); rintro e w' ⟨rfl, ⟨nd, rfl⟩⟩; (try first | exact ⟨rfl, _, World.drewN_drewN _ _ _⟩ | exact ⟨rfl, _, Eq.trans (World.drewN_drewN _ _ _) (congrArg (World.drewN _) (Nat.add_assoc _ _ _))⟩))))
            go_ret
            exact ⟨by first | rfl | (simp [errW_none, errW_some] <;> rfl) | (simp [*, errW_none, errW_some] <;> rfl), by repeat (first | (with_reducible first | exact HB.out | apply below_alloc | apply pw_below_drewN | apply below_drew1 | refine below_set ?_ GE144.out) | exact HB.out)⟩

end Go.Proofs.Ythljlnkanllpnaa.P
