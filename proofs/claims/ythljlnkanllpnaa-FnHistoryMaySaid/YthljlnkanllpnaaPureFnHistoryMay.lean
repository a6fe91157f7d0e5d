/- What may be done can be: plain. No condition. -/
import Derived.Test.YthljlnkanllpnaaP0
import Derived.Test.YthljlnkanllpnaaP1
import Derived.Test.YthljlnkanllpnaaP2
import Derived.Test.YthljlnkanllpnaaP3
import Derived.Test.YthljlnkanllpnaaHistD
import Derived.Test.YthljlnkanllpnaaHistE
import Derived.Test.YthljlnkanllpnaaHistM
import Derived.Test.YthljlnkanllpnaaHistO
namespace Go.Proofs.Ythljlnkanllpnaa.P
open Go.RowKit Go.Proofs.YthljlnkanllpnaaW.PrintWords Go.Proofs.YthljlnkanllpnaaW.PrintLast
set_option linter.unusedVariables false
set_option linter.unusedSimpArgs false
theorem ones_can {th : List (List Int)} {at_ : List Int} {e : S32} : ∀ d i, e ∈ ones th at_ d i → can th at_ e.f0 e.f1 = true
  | 0, i, h => by simp [ones] at h
  | d + 1, i, h => by
    rw [ones, List.mem_append] at h
    rcases h with h | h
    · split at h
      · rename_i hc
        rw [List.mem_singleton] at h
        rw [h]
        exact hc
      · cases h
    · exact ones_can d (i + 1) h
theorem twos_can {th : List (List Int)} {at_ : List Int} {a : Nat} {e : S32} : ∀ d i, e ∈ twos th at_ a d i → can th at_ e.f0 e.f1 = true
  | 0, i, h => by simp [twos] at h
  | d + 1, i, h => by
    rw [twos, List.mem_append] at h
    rcases h with h | h
    · split at h
      · rename_i hc
        rw [List.mem_singleton] at h
        rw [h]
        exact hc
      · cases h
    · exact twos_can d (i + 1) h
theorem pairs_can {th : List (List Int)} {at_ : List Int} {e : S32} : ∀ d i, e ∈ pairs th at_ d i → can th at_ e.f0 e.f1 = true
  | 0, i, h => by simp [pairs] at h
  | d + 1, i, h => by
    rw [pairs, List.mem_append] at h
    rcases h with h | h
    · exact twos_can _ _ h
    · exact pairs_can d (i + 1) h
theorem mayOf_can {th : List (List Int)} {h : List S32} {e : S32} (he : e ∈ mayOf th h) : okH th (h ++ [e]) = true := by
  unfold mayOf at he
  by_cases ho : (histAt th h).2 = true
  · rw [if_pos ho] at he
    obtain ⟨ok, hr⟩ := histAt_ok ho
    have hc : can th (histAt th h).1 e.f0 e.f1 = true := by
      unfold mayAt at he
      rcases List.mem_append.1 he with h1 | h1
      · exact ones_can _ _ h1
      · exact pairs_can _ _ h1
    unfold okH
    rw [hist_of ok (a := stepAt (histAt th h).1 e) (by rw [run_append1, hr]; simp only [Option.bind_some, if_pos hc])]
  · rw [if_neg ho] at he
    cases he
theorem historyMay_ev {th : List (List Int)} {h : List S32} (hs : SmallTh th) (hh : h.length ≤ 20) : ∀ (d i : Nat), i + d = (mayOf th h).length → Ev (fun k => laws_FnHistoryMay.l0 k th h (mayOf th h) i) true := by
  have hml := mayOf_len th h
  intro d
  induction d with
  | zero =>
    intro i hi
    refine Ev.sb (implOkH_ev (h := h) hs (by omega)) (fun k hk => ?_) (f := fun _ => some true) (Ev.now true)
    simp only [laws_FnHistoryMay.l0]
    rw [if_neg (by omega), hk]
    simp only [Option.bind_some]
    cases hb : okH th h with
    | true => rw [if_pos rfl]
    | false =>
      have : mayOf th h = [] := by
        unfold mayOf
        rw [if_neg (by unfold okH at hb; rw [hb]; simp)]
      rw [if_neg (by simp), this]
      rfl
  | succ d ih =>
    intro i hi
    have hil : i < (mayOf th h).length := by omega
    have hok := implOkH_ev (h := h ++ [(mayOf th h)[i]]) hs (by rw [List.length_append, List.length_singleton]; omega)
    rw [mayOf_can (List.getElem_mem hil)] at hok
    refine Ev.sb hok (fun k hk => ?_) (ih (i + 1) (by omega))
    have l1 : ([] : List S32).length + h.length < 8796093022208 := by rw [List.length_nil]; omega
    have l2 : ([] ++ h).length + ([(⟨(rd_T32 (mayOf th h) (i : Int)).f0, (rd_T32 (mayOf th h) (i : Int)).f1⟩ : S32)]).length < 8796093022208 := by rw [List.nil_append, List.length_singleton]; omega
    rw [laws_FnHistoryMay.l0, if_pos (by omega), Option.bind_some, if_pos l1, Option.bind_some, if_pos (by omega), Option.bind_some, if_pos l2, rdE_at _ _ hil, List.nil_append]
    show (impl_HistoryOk.f k th (h ++ [(mayOf th h)[i]])).bind _ = _
    rw [hk, Option.bind_some, if_pos rfl, wrap_succ hil (by omega)]
end Go.Proofs.Ythljlnkanllpnaa.P
namespace Go.Proofs.Ythljlnkanllpnaa.Pure
open Go.RowKit Go.Proofs.Ythljlnkanllpnaa.P Go.Proofs.YthljlnkanllpnaaW.PrintWords Go.Proofs.YthljlnkanllpnaaW.PrintLast
theorem FnHistoryMay : laws_FnHistoryMay.Pure := by
  intro l0 hlen hlen2 hwf
  by_cases hl : (l0.length : Int) > 1048576
  · exact ⟨0, by simp only [laws_FnHistoryMay.f]; rw [if_pos hl]⟩
  · obtain ⟨s, hs, ho⟩ := open_ev hwf
    obtain ⟨th, p, hth, p0, p1, K0, h0⟩ := drawThreads_ev hs (show (0 : Int) ≤ 0 by omega) (by omega)
    obtain ⟨h, q, hh, q0, q1, K1, h1⟩ := drawHistory_ev hs hth (show 0 ≤ p by omega) (by omega)
    have h0 : ∀ k, K0 ≤ k → spec_l92Threads.f k s 0 = some (th, p) := h0
    have h1 : ∀ k, K1 ≤ k → spec_l92History.f k s p th = some (h, q) := h1
    have hd : ∀ k, K0 + K1 ≤ k → spec_DrawHistoryMay.f k l0 = some (th, h) := by
      intro k hk
      unfold spec_DrawHistoryMay.f
      rw [ho, Option.bind_some, h0 k (by omega), Option.bind_some, h1 k (by omega), Option.bind_some]
    obtain ⟨K2, h2⟩ := implMayL_ev (h := h) hth (by omega)
    obtain ⟨K3, h3⟩ := specMay_ev (h := h) hth (by omega)
    have := mayOf_len th h
    obtain ⟨K4, h4⟩ := mnEvents_ev (mayOf th h) (by omega)
    obtain ⟨K5, h5⟩ := historyMay_ev hth hh (mayOf th h).length 0 (by omega)
    have h2 : ∀ k, K2 ≤ k → impl_HistoryMay.f k th h = some (mayOf th h) := h2
    have h3 : ∀ k, K3 ≤ k → spec_HistoryMay.f k th h = some (mayOf th h) := h3
    have h4 : ∀ k, K4 ≤ k → laws_mnEvents.f k (mayOf th h) (mayOf th h) = some true := h4
    have h5 : ∀ k, K5 ≤ k → laws_FnHistoryMay.l0 k th h (mayOf th h) 0 = some true := h5
    refine ⟨K0 + K1 + K2 + K3 + K4 + K5, ?_⟩
    unfold laws_FnHistoryMay.f
    rw [if_neg hl, hd _ (by omega), Option.bind_some, h2 _ (by omega), Option.bind_some, h3 _ (by omega), Option.bind_some, h4 _ (by omega), Option.bind_some, if_pos rfl]
    exact h5 _ (by omega)
end Go.Proofs.Ythljlnkanllpnaa.Pure
