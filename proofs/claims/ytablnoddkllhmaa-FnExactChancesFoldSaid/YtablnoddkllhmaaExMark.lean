/- Marks in the exact laws of chains: what is marked, and how far. Plain; no condition but sizes. -/
import Derived.Test.YtablnoddkllhmaaP9
import Derived.Test.YtablnoddkllhmaaChRows
import Derived.Test.YtablnoddkllhmaaHMark
namespace Go.Proofs.Ytablnoddkllhmaa.P
open Go.RowKit Go.Proofs.YtablnoddkllhmaaW.PrintWords Go.Proofs.YtablnoddkllhmaaW.PrintLast
set_option linter.unusedVariables false
set_option linter.unusedSimpArgs false
theorem markIntS_ev (l : List Int) (a : Int) (h0 : 0 ≤ a) (h1 : a + l.length ≤ 4611686018427387904) : ∃ ms, ms.length = l.length ∧ (∀ (j : Nat) (hj : j < ms.length), ms[j] = a + j) ∧ Ev (fun k => laws_markIntS.f k l a) (a + l.length, ms) := by
  have loop : ∀ (d i : Nat) (xs : List Int), i + d = l.length → xs.length = l.length → (∀ (j : Nat) (hj : j < xs.length), j < i → xs[j] = a + j) →
      ∃ ms, ms.length = l.length ∧ (∀ (j : Nat) (hj : j < ms.length), ms[j] = a + j) ∧ Ev (fun k => laws_markIntS.l0 k xs (a + i) i) (a + l.length, ms) := by
    intro d
    induction d with
    | zero =>
      intro i xs hi hx hj
      refine ⟨xs, hx, fun j hj' => hj j hj' (by omega), Ev.step (f := fun _ => some (a + i, xs)) (fun k => ?_) (Ev.to (Ev.now _) (by rw [show i = l.length by omega]))⟩
      simp only [laws_markIntS.l0]
      rw [if_neg (by omega)]
    | succ d ihd =>
      intro i xs hi hx hj
      have hil : i < xs.length := by omega
      obtain ⟨ms, m1, m2, m3⟩ := ihd (i + 1) (xs.set i (a + i)) (by omega) (by rw [List.length_set, hx]) (fun j hj' hji => by
        by_cases e : j = i
        · subst e; rw [List.getElem_set_self]
        · rw [List.getElem_set_ne (Ne.symm e)]; exact hj j (by rw [List.length_set] at hj'; exact hj') (by omega))
      refine ⟨ms, m1, m2, Ev.step (fun k => ?_) m3⟩
      simp only [laws_markIntS.l0]
      rw [if_pos (by omega), if_pos (by omega), wrap_id (by omega) (by omega), wrap_succ hil (by omega)]
      congr 1
      omega
  obtain ⟨ms, m1, m2, m3⟩ := loop l.length 0 l (by omega) rfl (fun j hj hji => by omega)
  refine ⟨ms, m1, m2, Ev.cb (Ev.now ()) (fun k _ => ?_) m3⟩
  simp only [laws_markIntS.f]
  congr 1
  omega
theorem heldIntS_ev (ms : List Int) (a : Int) (h0 : 0 ≤ a) (h1 : a + ms.length ≤ 4611686018427387904) (hm : ∀ (j : Nat) (hj : j < ms.length), ms[j] = a + j) : Ev (fun k => laws_heldIntS.f k ms a) (a + ms.length) := by
  have loop : ∀ (d i : Nat), i + d = ms.length → Ev (fun k => laws_heldIntS.l0 k ms (a + i) i) (a + ms.length) := by
    intro d
    induction d with
    | zero =>
      intro i hi
      refine Ev.step (f := fun _ => some (a + i)) (fun k => ?_) (Ev.to (Ev.now _) (by rw [show i = ms.length by omega]))
      simp only [laws_heldIntS.l0]
      rw [if_neg (by omega)]
    | succ d ihd =>
      intro i hi
      have hil : i < ms.length := by omega
      refine Ev.step (fun k => ?_) (ihd (i + 1) (by omega))
      simp only [laws_heldIntS.l0]
      rw [if_pos (by omega), if_pos (by omega), if_pos (by rw [rd_nat _ _ hil]; exact hm i hil), wrap_id (by omega) (by omega), wrap_succ hil (by omega)]
      congr 1
      omega
  refine Ev.cb (Ev.now ()) (fun k _ => ?_) (loop ms.length 0 (by omega))
  simp only [laws_heldIntS.f]
  congr 1
  omega
theorem markIntSS_ev (th : List (List Int)) (hl : th.length ≤ 1048576) (hrow : ∀ x ∈ th, x.length ≤ 1048576) (a0 : Int) (h00 : 0 ≤ a0) (h01 : a0 ≤ 2097152) : ∃ r mx, 0 ≤ r ∧ Ev (fun k => laws_markIntSS.f k th a0) (r, mx) := by
  have loop : ∀ (d i : Nat) (ys : List (List Int)) (a : Int), i + d = th.length → ys.length = th.length → (∀ (j : Nat) (hj : j < ys.length), i ≤ j → ys[j].length ≤ 1048576) → 0 ≤ a → a ≤ 2097152 + 1048576 * (i : Int) →
      ∃ r mx, 0 ≤ r ∧ Ev (fun k => laws_markIntSS.l0 k ys a i) (r, mx) := by
    intro d
    induction d with
    | zero =>
      intro i ys a hi hy hr h0 h1
      refine ⟨a, ys, h0, Ev.step (f := fun _ => some (a, ys)) (fun k => ?_) (Ev.now _)⟩
      simp only [laws_markIntSS.l0]
      rw [if_neg (by omega)]
    | succ d ihd =>
      intro i ys a hi hy hr h0 h1
      have hil : i < ys.length := by omega
      have hrow := hr i hil (Nat.le_refl _)
      obtain ⟨ms, m1, m2, m3⟩ := markIntS_ev ys[i] a h0 (by omega)
      obtain ⟨r, mx, r0, hev⟩ := ihd (i + 1) (ys.set i ms) (a + ys[i].length) (by omega) (by rw [List.length_set, hy]) (fun j hj hji => by
        rw [List.getElem_set_ne (by omega)]
        exact hr j (by rw [List.length_set] at hj; exact hj) (by omega)) (by omega) (by omega)
      refine ⟨r, mx, r0, Ev.sb m3 (fun k hk => ?_) hev⟩
      simp only [laws_markIntSS.l0]
      rw [if_pos (by omega), if_pos (by omega), rdL_nat _ _ hil, hk]
      simp only [Option.bind_some]
      rw [wrap_succ hil (by omega)]
      rfl
  exact loop th.length 0 th a0 (by omega) rfl (fun j hj _ => hrow _ (List.getElem_mem hj)) (by omega) (by omega)
theorem markChances_ev (m : List Int) (ws : List (List Int)) (h : Small m ws) : ∃ r mm mw, 0 ≤ r ∧ Ev (fun k => laws_markChances.f k m ws 1) (r, mm, mw) := by
  obtain ⟨mm, _, _, m3⟩ := markIntS_ev m 1 (by omega) (by have := h.1; omega)
  obtain ⟨r, mw, r0, r1⟩ := markIntSS_ev ws h.2.1 h.2.2 (1 + m.length) (by omega) (by have := h.1; omega)
  exact ⟨r, mm, mw, r0, Ev.bind m3 (Ev.bind r1 (Ev.now _))⟩
end Go.Proofs.Ytablnoddkllhmaa.P
