/- Chances add up to the whole (P91). No condition. -/
import Derived.Test.YtablnoddkllhmaaP0
import Derived.Test.YtablnoddkllhmaaP1
import Derived.Test.YtablnoddkllhmaaP2
import Derived.Test.YtablnoddkllhmaaHDraw
import Derived.Test.YtablnoddkllhmaaDrawCh
import Derived.Test.YtablnoddkllhmaaChSum
namespace Go.Proofs.Ytablnoddkllhmaa.P
open Go.RowKit Go.Proofs.YtablnoddkllhmaaW.PrintWords Go.Proofs.YtablnoddkllhmaaW.PrintLast
set_option linter.unusedVariables false
set_option linter.unusedSimpArgs false
theorem mnInts_l0 (xs : List Int) (hn : xs.length ≤ 1048576) (d : Nat) : ∀ i : Nat, i + d = xs.length → Ev (fun k => laws_mnInts.l0 k xs xs i) true := by
  induction d with
  | zero =>
    intro i hi
    refine Ev.step (f := fun _ => some true) (fun k => ?_) (Ev.now _)
    simp only [laws_mnInts.l0]
    rw [if_neg (by omega)]
  | succ d ih =>
    intro i hi
    refine Ev.step (fun k => ?_) (ih (i + 1) (by omega))
    simp only [laws_mnInts.l0]
    rw [if_pos (by omega), if_pos (by omega), if_pos trivial, wrap_succ (show i < xs.length by omega) (by omega)]
    rw [if_pos (by omega)]
theorem mnInts_ev (xs : List Int) (hn : xs.length ≤ 1048576) : Ev (fun k => laws_mnInts.f k xs xs) true := by
  refine Ev.congr (fun k => ?_) (mnInts_l0 xs hn xs.length 0 (by omega))
  simp only [laws_mnInts.f]
  rw [if_pos trivial]
  rfl
theorem lawA_l1 {n : Nat} {S : Int} (hn : n ≤ 12) (hS : S = 6 ^ n) (d : Nat) : ∀ j : Nat, j + d = n → Ev (fun k => laws_FnChancesAfter.l1 k n true S (6 ^ j) j) true := by
  induction d with
  | zero =>
    intro j hj
    obtain rfl : j = n := by omega
    refine Ev.step (f := fun _ => some true) (fun k => ?_) (Ev.now _)
    simp only [laws_FnChancesAfter.l1]
    rw [if_neg (by omega), if_pos trivial, hS]
    simp
  | succ d ih =>
    intro j hj
    refine Ev.step (fun k => ?_) (ih (j + 1) (by omega))
    have hp := pow6_le (k := j) (by omega)
    simp only [laws_FnChancesAfter.l1]
    rw [if_pos (by omega), if_pos trivial, wrap_succ (show j < n by omega) (by omega), wrap_id (x := 6 ^ j * 6) (by omega) (by omega), Int.pow_succ]
theorem lawA_l0 {x : List Int} {N n : Nat} (hx : Dist x N n) (hn : n ≤ 12) (hN : N ≤ 60) (d : Nat) : ∀ i : Nat, i + d = N → Ev (fun k => laws_FnChancesAfter.l0 k n x true (sg (fun t : Nat => rd x t) i) 1 i) true := by
  have hl := hx.len
  have hp := pow6_le hn
  induction d with
  | zero =>
    intro i hi
    obtain rfl : i = N := by omega
    refine Ev.step (fun k => ?_) (lawA_l1 hn hx.sum n 0 (by omega))
    simp only [laws_FnChancesAfter.l0]
    rw [if_neg (by omega)]
    rfl
  | succ d ih =>
    intro i hi
    have h1 := hx.nn i (by omega)
    have h2 := sg_part (f := fun t : Nat => rd x t) (k := i + 1) (n := N) (by omega) hx.nn
    have h3 := sg_nonneg (f := fun t : Nat => rd x t) (n := i) (fun j hj => hx.nn j (by omega))
    rw [hx.sum, sg] at h2
    refine Ev.step (fun k => ?_) (ih (i + 1) (by omega))
    simp only [laws_FnChancesAfter.l0]
    rw [if_pos (by omega), if_pos (by omega), if_neg (by omega), wrap_succ (show i < N by omega) (by omega), wrap_id (x := sg (fun t : Nat => rd x t) i + rd x i) (by omega) (by omega), sg]
end Go.Proofs.Ytablnoddkllhmaa.P
namespace Go.Proofs.Ytablnoddkllhmaa.Pure
open Go.RowKit Go.Proofs.Ytablnoddkllhmaa.P Go.Proofs.YtablnoddkllhmaaW.PrintWords Go.Proofs.YtablnoddkllhmaaW.PrintLast
theorem FnChancesAfter : laws_FnChancesAfter.Pure := by
  intro l0 hlen hlen2 hwf
  by_cases hl : (l0.length : Int) > 1048576
  · exact ⟨0, by simp only [laws_FnChancesAfter.f]; rw [if_pos hl]⟩
  · obtain ⟨s, hs, ho⟩ := open_ev hwf
    obtain ⟨m, ws, p, hsm, p0, p1, K0, h0⟩ := drawCh_ev hs
    have h0 : ∀ k, K0 ≤ k → spec_l92Chances.f k s 0 = some (m, ws, p) := h0
    have hml := hsm.len
    have w1 : wrap64 ((m.length : Int) + 1) = (m.length : Int) + 1 := wrap_id (by omega) (by omega)
    obtain ⟨v, v0, v1, K1, h1⟩ := pick_ev hs p0 (by omega) (show (1 : Int) ≤ (m.length : Int) + 1 by omega)
    have h1 : ∀ k, K1 ≤ k → spec_l6Rd_pick.f k s p ((m.length : Int) + 1) = some (v, p + 1) := h1
    obtain ⟨n, q, hn, q0, q1, K2, h2⟩ := drawSteps_ev hs (show 0 ≤ p + 1 by omega) (by omega)
    have h2 : ∀ k, K2 ≤ k → spec_l92Steps.f k s (p + 1) = some (n, q) := h2
    have hd : ∀ k, K0 + K1 + K2 ≤ k → spec_DrawChancesAfter.f k l0 = some (m, ws, v, n) := by
      intro k hk
      unfold spec_DrawChancesAfter.f
      rw [ho, Option.bind_some, h0 k (by omega), Option.bind_some, w1, h1 k (by omega), Option.bind_some, h2 k (by omega), Option.bind_some]
    obtain ⟨K3, h3⟩ := implAfter_ev m ws v n
    obtain ⟨K4, h4⟩ := specAfter_all m ws v n
    have h3 : ∀ k, K3 ≤ k → impl_ChancesAfter.f k m ws v n = some (afterP m ws v n) := h3
    have h4 : ∀ k, K4 ≤ k → spec_ChancesAfter.f k m ws v n = some (afterP m ws v n) := h4
    have hxl := afterP_length m ws v n
    obtain ⟨K5, h5⟩ := mnInts_ev (afterP m ws v n).1 (by omega)
    have h5 : ∀ k, K5 ≤ k → laws_mnInts.f k (afterP m ws v n).1 (afterP m ws v n).1 = some true := h5
    have h6 : Ev (fun k => laws_FnChancesAfter.j0 k n (afterP m ws v n).1 (afterP m ws v n).2 false) true := by
      refine Ev.step (f := fun k => laws_FnChancesAfter.l0 k n (afterP m ws v n).1 (afterP m ws v n).2 0 1 0) (fun k => ?_) ?_
      · simp only [laws_FnChancesAfter.j0]
        rw [if_neg (by simp)]
      · unfold afterP
        by_cases hq : askP m ws v n = true
        · rw [if_pos hq]
          obtain ⟨hr, a, b, rfl, rfl, ha, hb⟩ := ask_of hq
          have hch := chain_of (m := m) (ws := ws) (by simp only [askP, Bool.and_eq_true] at hq; exact hq.1)
          exact lawA_l0 (steps_dist hch ha b hb) hb hr.le m.length 0 (by omega)
        · rw [if_neg hq]
          refine Ev.step (f := fun k => laws_FnChancesAfter.l1 k n false 0 1 0) (fun k => ?_) (Ev.step (f := fun _ => some true) (fun k => ?_) (Ev.now _))
          · simp only [laws_FnChancesAfter.l0]
            rw [if_neg (by simp)]
          · simp only [laws_FnChancesAfter.l1]
            split <;> rfl
    obtain ⟨K6, h6⟩ := h6
    have h6 : ∀ k, K6 ≤ k → laws_FnChancesAfter.j0 k n (afterP m ws v n).1 (afterP m ws v n).2 false = some true := h6
    refine ⟨K0 + K1 + K2 + K3 + K4 + K5 + K6, ?_⟩
    unfold laws_FnChancesAfter.f
    rw [if_neg hl, hd _ (by omega), Option.bind_some, h3 _ (by omega), Option.bind_some, h4 _ (by omega), Option.bind_some, h5 _ (by omega), Option.bind_some, if_pos rfl, show ((afterP m ws v n).2 != (afterP m ws v n).2) = false by simp]
    exact h6 _ (by omega)
end Go.Proofs.Ytablnoddkllhmaa.Pure
