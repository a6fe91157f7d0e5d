/- Undoing: what may be undone stays so, and in what order does not matter. Plain; no condition. -/
import Derived.Test.YthljlnkanllpnaaHistE
import Derived.Test.YthljlnkanllpnaaHistU
namespace Go.Proofs.Ythljlnkanllpnaa.P
open Go.RowKit Go.Proofs.YthljlnkanllpnaaW.PrintWords Go.Proofs.YthljlnkanllpnaaW.PrintLast Go.Proofs.YthljlnkanllpnaaW.PrintMore
set_option linter.unusedVariables false
set_option linter.unusedSimpArgs false
theorem undo_true {th : List (List Int)} {h : List S32} {i : Int} (hu : (undoP th h i).2 = true) : ∃ n : Nat, i = (n : Int) ∧ n < h.length ∧ okH th h = true ∧ freeB h n = true ∧ (undoP th h i).1 = h.eraseIdx n := by
  unfold undoP at hu ⊢
  by_cases hc : (okH th h && ((decide (0 ≤ i) && decide (i < (h.length : Int))) && freeB h i.toNat)) = true
  · rw [if_pos hc]
    simp only [Bool.and_eq_true, decide_eq_true_eq] at hc
    exact ⟨i.toNat, by omega, by omega, hc.1, hc.2.2, rfl⟩
  · rw [if_neg hc] at hu
    cases hu
theorem undo_of {th : List (List Int)} {h : List S32} {n : Nat} (ho : okH th h = true) (hn : n < h.length) (hf : freeB h n = true) : undoP th h (n : Int) = (h.eraseIdx n, true) := by
  unfold undoP
  rw [Int.toNat_natCast, if_pos (by simp only [ho, hf, Bool.true_and, Bool.and_true, Bool.and_eq_true, decide_eq_true_eq]; omega)]
theorem free_before {h : List S32} {i k : Nat} (hk : k < i) (hi : i < h.length) (hf : freeB h k = true) : freeB (h.eraseIdx i) k = true := by
  have he : h[k]? = some h[k] := List.getElem?_eq_getElem (by omega)
  refine (freeB_iff (by rw [List.getElem?_eraseIdx, if_pos hk]; exact he)).2 (fun j f hj hf2 => ?_)
  rw [List.getElem?_eraseIdx] at hf2
  by_cases hji : j < i
  · rw [if_pos hji] at hf2
    exact (freeB_iff he).1 hf j f hj hf2
  · rw [if_neg hji] at hf2
    exact (freeB_iff he).1 hf (j + 1) f (by omega) hf2
theorem free_behind {h : List S32} {i k : Nat} (hk : i < k) (hi : k < h.length) (hf : freeB h k = true) : freeB (h.eraseIdx i) (k - 1) = true := by
  have he : h[k]? = some h[k] := List.getElem?_eq_getElem hi
  refine (freeB_iff (by rw [List.getElem?_eraseIdx, if_neg (by omega), show k - 1 + 1 = k by omega]; exact he)).2 (fun j f hj hf2 => ?_)
  rw [List.getElem?_eraseIdx, if_neg (by omega)] at hf2
  exact (freeB_iff he).1 hf (j + 1) f (by omega) hf2
theorem erase_erase {α : Type} (h : List α) {i k : Nat} (hk : i < k) : (h.eraseIdx i).eraseIdx (k - 1) = (h.eraseIdx k).eraseIdx i := by
  refine List.ext_getElem? (fun j => ?_)
  simp only [List.getElem?_eraseIdx]
  by_cases h1 : j < i
  · rw [if_pos (by omega), if_pos h1, if_pos h1, if_pos (by omega)]
  · by_cases h2 : j < k - 1
    · rw [if_pos h2, if_neg h1, if_neg h1, if_pos (by omega)]
    · rw [if_neg h2, if_neg (by omega), if_neg h1, if_neg (by omega)]
end Go.Proofs.Ythljlnkanllpnaa.P
