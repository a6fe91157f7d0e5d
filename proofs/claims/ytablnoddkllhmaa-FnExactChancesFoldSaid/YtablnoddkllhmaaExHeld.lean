/- Marks of two rows, and of rows of rows, that are held: what was marked is found again. Plain; no condition but sizes. -/
import Derived.Test.YtablnoddkllhmaaP20
import Derived.Test.YtablnoddkllhmaaExMark
namespace Go.Proofs.Ytablnoddkllhmaa.P
open Go.RowKit Go.Proofs.YtablnoddkllhmaaW.PrintWords Go.Proofs.YtablnoddkllhmaaW.PrintLast
set_option linter.unusedVariables false
set_option linter.unusedSimpArgs false
def tot : List (List Int) → Int
  | [] => 0
  | r :: rs => (r.length : Int) + tot rs
theorem tot_le : ∀ ws : List (List Int), (∀ x ∈ ws, x.length ≤ 1048576) → 0 ≤ tot ws ∧ tot ws ≤ 1048576 * (ws.length : Int)
  | [], _ => by simp [tot]
  | r :: rs, h => by
    have h1 := tot_le rs (fun x hx => h x (List.mem_cons_of_mem _ hx))
    have h2 := h r (List.mem_cons_self ..)
    rw [tot, List.length_cons]
    omega
theorem rdL_mid (pre rs : List (List Int)) (x : List Int) : rd_L1 (pre ++ x :: rs) (pre.length : Int) = x := by
  rw [rdL_nat _ _ (by simp)]
  simp
theorem markIntSS_told (ws : List (List Int)) (hl : ws.length ≤ 1048576) (hx : ∀ x ∈ ws, x.length ≤ 1048576) (a0 : Int) (h0 : 0 ≤ a0) (h1 : a0 ≤ 2097152) :
    ∃ mx, Ev (fun k => laws_markIntSS.f k ws a0) (a0 + tot ws, mx) ∧ Ev (fun k => laws_heldIntSS.f k mx a0) (a0 + tot ws) := by
  have loop : ∀ (rs pre pre' : List (List Int)) (a : Int), pre.length = pre'.length → pre.length + rs.length ≤ 1048576 → (∀ x ∈ rs, x.length ≤ 1048576) → 0 ≤ a → a ≤ 2097152 + 1048576 * (pre.length : Int) →
      ∃ ms, Ev (fun k => laws_markIntSS.l0 k (pre ++ rs) a pre.length) (a + tot rs, pre ++ ms) ∧ ms.length = rs.length ∧ Ev (fun k => laws_heldIntSS.l0 k (pre' ++ ms) a pre'.length) (a + tot rs) := by
    intro rs
    induction rs with
    | nil =>
      intro pre pre' a hp hs hx h0 h1
      refine ⟨[], Ev.step (f := fun _ => some (a, pre)) (fun k => ?_) (Ev.to (Ev.now _) (by simp [tot])), rfl, Ev.step (f := fun _ => some a) (fun k => ?_) (Ev.to (Ev.now _) (by simp [tot]))⟩
      · simp only [laws_markIntSS.l0]
        rw [if_neg (by simp), List.append_nil]
      · simp only [laws_heldIntSS.l0]
        rw [if_neg (by simp)]
    | cons r rs ih =>
      intro pre pre' a hp hs hx h0 h1
      have hr := hx r (List.mem_cons_self ..)
      rw [List.length_cons] at hs
      obtain ⟨mr, m1, m2, m3⟩ := markIntS_ev r a h0 (by omega)
      have hh := heldIntS_ev mr a h0 (by omega) m2
      obtain ⟨ms, e1, e2, e3⟩ := ih (pre ++ [mr]) (pre' ++ [mr]) (a + r.length) (by simp [hp]) (by simp; omega) (fun x hx' => hx x (List.mem_cons_of_mem _ hx')) (by omega) (by simp; omega)
      refine ⟨mr :: ms, Ev.sb m3 (fun k hk => ?_) (Ev.to e1 (by simp [tot, Int.add_assoc])), by simp [e2], Ev.sb hh (fun k hk => ?_) (Ev.to e3 (by simp [tot, Int.add_assoc]))⟩
      · simp only [laws_markIntSS.l0]
        rw [if_pos (by simp; omega), if_pos (by omega), rdL_mid, hk]
        simp only [Option.bind_some, Int.toNat_natCast]
        rw [wrap_succ (show pre.length < pre.length + 1 by omega) (by omega)]
        simp
      · simp only [laws_heldIntSS.l0]
        rw [if_pos (by simp; omega), if_pos (by omega), rdL_mid, hk]
        simp only [Option.bind_some]
        rw [if_neg (by omega), wrap_succ (show pre'.length < pre'.length + 1 by omega) (by omega), m1]
        simp
  obtain ⟨ms, e1, _, e3⟩ := loop ws [] [] a0 rfl (by simpa using hl) hx h0 (by simpa using h1)
  exact ⟨ms, e1, e3⟩
theorem markChances_told (m : List Int) (ws : List (List Int)) (h : Small m ws) : ∃ r mm mw, 0 ≤ r ∧ Ev (fun k => laws_markChances.f k m ws 1) (r, mm, mw) ∧ Ev (fun k => laws_heldChances.f k mm mw 1) r := by
  obtain ⟨mm, m1, m2, m3⟩ := markIntS_ev m 1 (by omega) (by have := h.1; omega)
  have hh := heldIntS_ev mm 1 (by omega) (by have := h.1; omega) m2
  rw [m1] at hh
  obtain ⟨mw, e1, e2⟩ := markIntSS_told ws h.2.1 h.2.2 (1 + m.length) (by omega) (by have := h.1; omega)
  have ht := tot_le ws h.2.2
  refine ⟨_, mm, mw, ?_, Ev.bind m3 (Ev.bind e1 (Ev.now _)), ?_⟩
  · show 0 ≤ 1 + (m.length : Int) + tot ws
    omega
  · refine Ev.cb hh (fun k hk => ?_) (Ev.cb (f := fun _ => some (1 + (m.length : Int) + tot ws)) e2 (g := fun k => (laws_heldIntSS.f k mw (1 + m.length)).bind fun t => if t < 0 then some (-1) else some t) (fun k hk => ?_) (Ev.now _))
    · simp only [laws_heldChances.f]
      rw [hk]
      simp only [Option.bind_some]
      rw [if_neg (by omega)]
    · rw [hk]
      simp only [Option.bind_some]
      rw [if_neg (by omega)]
end Go.Proofs.Ytablnoddkllhmaa.P
