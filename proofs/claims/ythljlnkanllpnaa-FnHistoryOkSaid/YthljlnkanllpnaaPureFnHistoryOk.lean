/- The beginnings of a history are histories: plain. -/
import Derived.Test.YthljlnkanllpnaaP7
import Derived.Test.YthljlnkanllpnaaP9
import Derived.Test.YthljlnkanllpnaaP22
import Derived.Test.YthljlnkanllpnaaP25
import Derived.Test.YthljlnkanllpnaaHistC
namespace Go.Proofs.Ythljlnkanllpnaa.P
open Go.RowKit Go.Proofs.YthljlnkanllpnaaW.PrintWords Go.Proofs.YthljlnkanllpnaaW.PrintLast
set_option linter.unusedVariables false
set_option linter.unusedSimpArgs false
theorem run_snoc (th : List (List Int)) (e : S32) : ∀ (h : List S32) (at_ : List Int), run th at_ (h ++ [e]) = (run th at_ h).bind fun a => if can th a e.f0 e.f1 = true then some (stepAt a e) else none
  | [], at_ => by simp [run]
  | x :: xs, at_ => by
    rw [List.cons_append, run, run]
    by_cases hc : can th at_ x.f0 x.f1 = true
    · rw [if_pos hc, if_pos hc, run_snoc th e xs]
    · rw [if_neg hc, if_neg hc]
      rfl
theorem ones_mem {th : List (List Int)} {at_ : List Int} {a : Nat} (hc : can th at_ a (-1) = true) : ∀ d i, i ≤ a → a < i + d → (⟨a, -1⟩ : S32) ∈ ones th at_ d i
  | 0, i, h1, h2 => by omega
  | d + 1, i, h1, h2 => by
    rw [ones]
    by_cases h : i = a
    · subst h
      rw [hc, if_pos rfl]
      simp
    · exact List.mem_append_right _ (ones_mem hc d (i + 1) (by omega) (by omega))
theorem twos_mem {th : List (List Int)} {at_ : List Int} {a b : Nat} (hc : can th at_ a b = true) : ∀ d j, j ≤ b → b < j + d → (⟨a, b⟩ : S32) ∈ twos th at_ a d j
  | 0, i, h1, h2 => by omega
  | d + 1, i, h1, h2 => by
    rw [twos]
    by_cases h : i = b
    · subst h
      rw [hc, if_pos rfl]
      simp
    · exact List.mem_append_right _ (twos_mem hc d (i + 1) (by omega) (by omega))
theorem pairs_mem {th : List (List Int)} {at_ : List Int} {a b : Nat} (hc : can th at_ a b = true) (hab : a < b) (hb : b < th.length) : ∀ d i, i ≤ a → a < i + d → (⟨a, b⟩ : S32) ∈ pairs th at_ d i
  | 0, i, h1, h2 => by omega
  | d + 1, i, h1, h2 => by
    rw [pairs]
    by_cases h : i = a
    · subst h
      exact List.mem_append_left _ (twos_mem hc _ _ (by omega) (by omega))
    · exact List.mem_append_right _ (pairs_mem hc hab hb d (i + 1) (by omega) (by omega))
/-- What can be done is among what may be. -/
theorem mayAt_mem {th : List (List Int)} {at_ : List Int} {e : S32} (hc : can th at_ e.f0 e.f1 = true) : e ∈ mayAt th at_ := by
  obtain ⟨ha, hb⟩ := can_ready hc
  obtain ⟨a0, a1, a2⟩ := ready_iff.1 ha
  obtain ⟨x, y⟩ := e
  obtain ⟨a, rfl⟩ : ∃ a : Nat, x = (a : Int) := ⟨x.toNat, by simp only at a0; omega⟩
  simp only at hc ha hb a0 a1 a2
  unfold mayAt
  rcases hb with rfl | ⟨hab, hb⟩
  · exact List.mem_append_left _ (ones_mem hc _ _ (by omega) (by omega))
  · obtain ⟨b0, b1, b2⟩ := ready_iff.1 hb
    obtain ⟨b, rfl⟩ : ∃ b : Nat, y = (b : Int) := ⟨y.toNat, by omega⟩
    exact List.mem_append_right _ (pairs_mem hc (by omega) (by omega) _ _ (by omega) (by omega))
section
variable {th : List (List Int)} {h : List S32}
theorem specOk_ev (hs : SmallTh th) (hh : h.length ≤ 1048576) : Ev (fun k => spec_HistoryOk.f k th h) (histAt th h).2 :=
  Ev.cb (specAt_ev hs hh) (fun k hk => by simp only [spec_HistoryOk.f, hk, Option.bind_some]) (Ev.now _)
theorem implOk_ev (hs : SmallTh th) (hh : h.length ≤ 1048576) : Ev (fun k => impl_HistoryOk.f k th h) (histAt th h).2 :=
  Ev.cb (implAt_ev hs hh) (fun k hk => by simp only [impl_HistoryOk.f, hk, Option.bind_some]) (Ev.now _)
theorem histAt_of {a : List Int} (hok : okTh th = true) (hr : run th (at0 th) h = some a) : histAt th h = (a, true) := by
  unfold histAt
  rw [if_pos hok, hr]
/-- A history's beginning is one, and its last event may be done then. -/
theorem hist_last {e : S32} (ho : (histAt th (h ++ [e])).2 = true) : (histAt th h).2 = true ∧ e ∈ mayOf th h := by
  obtain ⟨hok, hr⟩ := histAt_ok ho
  rw [run_snoc] at hr
  obtain ⟨a, ha, hc⟩ := Option.bind_eq_some_iff.1 hr
  have e1 := histAt_of hok ha
  have hc' : can th a e.f0 e.f1 = true := by
    by_cases hc' : can th a e.f0 e.f1 = true
    · exact hc'
    · rw [if_neg hc'] at hc
      cases hc
  refine ⟨by rw [e1], ?_⟩
  unfold mayOf
  rw [e1, if_pos rfl]
  exact mayAt_mem hc'
end
theorem FnHistoryOk_pure {th : List (List Int)} {h : List S32} (hs : SmallTh th) (hh : h.length ≤ 20) : Ev (fun k => laws_FnHistoryOk.j0 k th h (if (histAt th h).2 = true then ((h.length : Int) == 0) else true)) true := by
  by_cases hz : (if (histAt th h).2 = true then ((h.length : Int) == 0) else true) = true
  · rw [hz]
    refine Ev.step (f := fun _ => some true) (fun k => ?_) (Ev.now true)
    simp only [laws_FnHistoryOk.j0]
    rw [if_pos (by trivial)]
  · have ho : (histAt th h).2 = true := by
      by_cases ho : (histAt th h).2 = true
      · exact ho
      · rw [if_neg ho] at hz
        exact absurd rfl hz
    rw [if_pos ho] at hz ⊢
    have hne : h.length ≠ 0 := fun e => hz (by simp [e])
    have hlt : h.length - 1 < h.length := by omega
    have hsplit : h.take (h.length - 1) ++ [h[h.length - 1]] = h := by
      have := List.take_append_getElem hlt
      rw [show h.length - 1 + 1 = h.length by omega, List.take_length] at this
      exact this
    obtain ⟨hl1, hl2⟩ := hist_last (th := th) (h := h.take (h.length - 1)) (e := h[h.length - 1]) (by rw [hsplit]; exact ho)
    have hlen : (h.take (h.length - 1)).length ≤ 1048576 := by rw [List.length_take]; omega
    have hok := implOk_ev (h := h.take (h.length - 1)) hs hlen
    rw [hl1] at hok
    have hmay := implMayL_ev (h := h.take (h.length - 1)) hs hlen
    have hml := mayOf_len th (h.take (h.length - 1))
    generalize hless : h.take (h.length - 1) = less at *
    generalize hmo : mayOf th less = may at *
    have e1 : wrap64 ((h.length : Int) - 1) = ((h.length - 1 : Nat) : Int) := by rw [wrap_pred (by omega) (by omega)]; omega
    have loop : ∀ (d i : Nat) (x : Bool), i + d = may.length → (x || (may.drop i).any fun y => (y.f0 == h[h.length - 1].f0 && y.f1 == h[h.length - 1].f1)) = true → Ev (fun k => laws_FnHistoryOk.l0 k th h less may x i) true := by
      intro d
      induction d with
      | zero =>
        intro i x hi hx
        rw [List.drop_eq_nil_of_le (by omega)] at hx
        have hx' : x = true := by simpa using hx
        subst hx'
        refine Ev.sb hok (fun k hk => ?_) (f := fun _ => some true) (Ev.now true)
        simp only [laws_FnHistoryOk.l0]
        rw [if_neg (by omega), if_pos (by trivial), hk]
        rfl
      | succ d ihd =>
        intro i x hi hx
        have hil : i < may.length := by omega
        rw [List.drop_eq_getElem_cons hil, List.any_cons] at hx
        cases x with
        | true =>
          refine Ev.step (fun k => ?_) (ihd (i + 1) true (by omega) (by simp))
          simp only [laws_FnHistoryOk.l0]
          rw [if_pos (by omega), if_pos (by trivial), wrap_succ hil (by omega)]
        | false =>
          refine Ev.step (fun k => ?_) (ihd (i + 1) (may[i].f0 == h[h.length - 1].f0 && may[i].f1 == h[h.length - 1].f1) (by omega) (by simpa using hx))
          simp only [laws_FnHistoryOk.l0]
          rw [if_pos (by omega), if_neg (by simp), if_pos (by omega), e1, if_pos (by omega), if_pos (by omega), rdE_nat _ _ hil, rdE_nat _ _ hlt, wrap_succ hil (by omega)]
    have hany : (may.any fun y => (y.f0 == h[h.length - 1].f0 && y.f1 == h[h.length - 1].f1)) = true := by
      rw [List.any_eq_true]
      exact ⟨_, hl2, by simp⟩
    have hz' : ((h.length : Int) == 0) = false := by simpa using hz
    rw [hz']
    refine Ev.sb hmay (fun k hk => ?_) (loop may.length 0 false (by omega) (by rw [List.drop_zero, hany]; rfl))
    simp only [laws_FnHistoryOk.j0, e1]
    rw [if_neg (by simp), if_pos (by omega), if_pos (by omega)]
    simp only [Option.bind_some, Int.toNat_natCast]
    rw [hless, hk]
    rfl
end Go.Proofs.Ythljlnkanllpnaa.P
namespace Go.Proofs.Ythljlnkanllpnaa.Pure
open Go.RowKit Go.Proofs.Ythljlnkanllpnaa.P Go.Proofs.YthljlnkanllpnaaW.PrintWords Go.Proofs.YthljlnkanllpnaaW.PrintLast
theorem FnHistoryOk : laws_FnHistoryOk.Pure := by
  intro l0 hlen hlen2 hwf
  by_cases hl : (l0.length : Int) > 1048576
  · exact ⟨0, by simp only [laws_FnHistoryOk.f]; rw [if_pos hl]⟩
  · obtain ⟨s, hs, ho⟩ := open_ev hwf
    obtain ⟨th, p, hth, p0, p1, ht⟩ := drawThreads_ev hs (show (0 : Int) ≤ 0 by omega) (by omega)
    obtain ⟨h, q, hh, q0, q1, hd⟩ := drawHistory_ev hs hth (show 0 ≤ p by omega) (by omega)
    obtain ⟨K0, h0⟩ := ht
    obtain ⟨K1, h1⟩ := hd
    obtain ⟨K2, h2⟩ := implOk_ev (h := h) hth (by omega)
    obtain ⟨K3, h3⟩ := specOk_ev (h := h) hth (by omega)
    obtain ⟨K4, h4⟩ := FnHistoryOk_pure (h := h) hth hh
    refine ⟨K0 + K1 + K2 + K3 + K4, ?_⟩
    have g0 := h0 (K0 + K1 + K2 + K3 + K4) (by omega)
    have g1 := h1 (K0 + K1 + K2 + K3 + K4) (by omega)
    have g2 := h2 (K0 + K1 + K2 + K3 + K4) (by omega)
    have g3 := h3 (K0 + K1 + K2 + K3 + K4) (by omega)
    have g4 := h4 (K0 + K1 + K2 + K3 + K4) (by omega)
    simp only [laws_FnHistoryOk.f, spec_DrawHistoryOk.f, ho, g0, g1, g2, g3, Option.bind_some]
    rw [if_neg hl, if_neg (by simp)]
    by_cases hk : (histAt th h).2 = true
    · rw [if_pos hk] at g4 ⊢
      exact g4
    · rw [if_neg hk] at g4 ⊢
      exact g4
end Go.Proofs.Ythljlnkanllpnaa.Pure
