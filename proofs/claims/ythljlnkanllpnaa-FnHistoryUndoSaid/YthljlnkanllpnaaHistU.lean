/- Undoing: what the program and the reference compute: one and the same. Plain; no condition but sizes. -/
import Derived.Test.YthljlnkanllpnaaP0
import Derived.Test.YthljlnkanllpnaaP2
import Derived.Test.YthljlnkanllpnaaHistF
import Derived.Test.YthljlnkanllpnaaHistL
import Derived.Test.YthljlnkanllpnaaHistO
import Derived.Test.YthljlnkanllpnaaHUndo
namespace Go.Proofs.Ythljlnkanllpnaa.P
open Go.RowKit Go.Proofs.YthljlnkanllpnaaW.PrintWords Go.Proofs.YthljlnkanllpnaaW.PrintLast Go.Proofs.YthljlnkanllpnaaW.PrintMore Go.Proofs.Ythljlnkanllpnaa.Any
set_option linter.unusedVariables false
set_option linter.unusedSimpArgs false
variable {th : List (List Int)} {g h : List S32}
theorem free_ev (hh : h.length ≤ 1048576) {i : Nat} (hi : i < h.length) : Ev (fun k => spec_l19Free.f k h i) (freeB h i) := by
  have loop : ∀ (d j : Nat), j + d = h.length → Ev (fun k => spec_l19Free.l0 k h i j) ((h.drop j).all fun f => !linkB (h.getD i z32) f) := by
    intro d
    induction d with
    | zero =>
      intro j hj
      rw [List.drop_eq_nil_of_le (by omega)]
      refine Ev.step (f := fun _ => some true) (fun k => ?_) (Ev.now _)
      simp only [spec_l19Free.l0]
      rw [if_neg (by omega)]
    | succ d ih =>
      intro j hj
      have hjl : j < h.length := by omega
      have hgi : h.getD i z32 = h[i] := by rw [List.getD_eq_getElem?_getD, List.getElem?_eq_getElem hi]; rfl
      rw [all_drop _ hjl]
      cases hlk : linkB h[i] h[j] with
      | true =>
        refine Ev.step (f := fun _ => some false) (fun k => ?_) (Ev.to (Ev.now false) (by rw [hgi, hlk]; rfl))
        simp only [spec_l19Free.l0, rdE_at _ _ hi, rdE_at _ _ hjl]
        rw [if_pos (by omega), if_pos (by omega), if_pos (by omega), if_pos (by omega), shares_f, hlk]
        simp
      | false =>
        refine Ev.step (fun k => ?_) (Ev.to (ih (j + 1) (by omega)) (by rw [hgi, hlk]; simp))
        simp only [spec_l19Free.l0, rdE_at _ _ hi, rdE_at _ _ hjl]
        rw [if_pos (by omega), if_pos (by omega), if_pos (by omega), if_pos (by omega), shares_f, hlk]
        simp only [Option.bind_some]
        rw [if_neg (by simp), wrap_succ hjl (by omega)]
  refine Ev.congr (fun k => ?_) (loop (h.length - (i + 1)) (i + 1) (by omega))
  simp only [spec_l19Free.f]
  rw [wrap_succ hi (by omega)]
def undoP (th : List (List Int)) (h : List S32) (i : Int) : List S32 × Bool :=
  if (okH th h && ((decide (0 ≤ i) && decide (i < (h.length : Int))) && freeB h i.toNat)) = true then (h.eraseIdx i.toNat, true) else ([], false)
theorem specUndo_ev (hs : SmallTh th) (hh : h.length ≤ 1048576) (i : Int) : Ev (fun k => spec_HistoryUndo.f k th h i) (undoP th h i) := by
  cases h1 : okH th h with
  | false =>
    refine Ev.cb (f := fun _ => some ([], false)) (specOkH_ev hs hh) (fun k hk => ?_) (Ev.to (Ev.now _) (by simp [undoP, h1]))
    simp only [spec_HistoryUndo.f]
    rw [hk, h1]
    simp
  | true =>
    cases h2 : decide (0 ≤ i) && decide (i ≤ wrap64 ((h.length : Int) - 1)) with
    | false =>
      have h2' : (decide (0 ≤ i) && decide (i < (h.length : Int))) = false := by
        rw [wrap_id (by omega) (by omega)] at h2
        rw [← h2]
        congr 1
        rw [decide_eq_decide]
        omega
      refine Ev.cb (f := fun _ => some ([], false)) (specOkH_ev hs hh) (fun k hk => ?_) (Ev.to (Ev.now _) (by simp only [undoP, h1, h2']; simp))
      simp only [spec_HistoryUndo.f]
      rw [hk, h1]
      simp only [Option.bind_some]
      rw [if_pos trivial, l6In_f, h2]
      simp
    | true =>
      have h2' : (decide (0 ≤ i) && decide (i < (h.length : Int))) = true := by
        rw [wrap_id (by omega) (by omega)] at h2
        rw [← h2]
        congr 1
        rw [decide_eq_decide]
        omega
      obtain ⟨n, rfl⟩ : ∃ n : Nat, i = n := ⟨i.toNat, by simp at h2'; omega⟩
      have hn : n < h.length := by simp at h2'; exact h2'
      refine Ev.cb (specOkH_ev hs hh) (fun k hk => ?_) (Ev.cb (g := fun k => (spec_l19Free.f k h n).bind fun t => if t = true then ((spec_l19Without.f h n).bind fun t489 => some (t489, true)) else some ([], false)) (f := fun _ => some (undoP th h n)) (free_ev hh hn) (fun k hk => ?_) (Ev.now _))
      · simp only [spec_HistoryUndo.f]
        rw [hk, h1]
        simp only [Option.bind_some]
        rw [if_pos trivial, l6In_f, h2]
        simp only [Option.bind_some]
        rw [if_pos trivial]
      · rw [hk, without_f hh hn]
        simp only [Option.bind_some, undoP, h1, h2', Int.toNat_natCast]
        cases freeB h n <;> simp
theorem any_not_all {α : Type} (q : α → Bool) : ∀ l : List α, l.any q = !l.all (fun x => !q x)
  | [] => rfl
  | x :: xs => by simp [any_not_all q xs, Bool.not_and]
theorem implUndo_ev (hs : SmallTh th) (hh : h.length ≤ 1048576) (i : Int) : Ev (fun k => impl_HistoryUndo.f k th h i) (undoP th h i) := by
  refine Ev.cb (f := fun _ => some (undoP th h i)) (implOkH_ev hs hh) (fun k hk => ?_) (Ev.now _)
  simp only [impl_HistoryUndo.f]
  rw [hk]
  simp only [Option.bind_some, undoP]
  cases h1 : okH th h with
  | false => simp
  | true =>
    rw [if_pos rfl]
    by_cases h2 : i < 0
    · rw [if_pos h2]
      simp [show ¬ 0 ≤ i by omega]
    · rw [if_neg h2]
      by_cases h3 : i ≥ (h.length : Int)
      · rw [if_pos h3]
        simp [show ¬ i < (h.length : Int) by omega]
      · rw [if_neg h3]
        obtain ⟨n, rfl⟩ : ∃ n : Nat, i = n := ⟨i.toNat, by omega⟩
        have hn : n < h.length := by omega
        have hgi : h.getD n z32 = h[n] := by rw [List.getD_eq_getElem?_getD, List.getElem?_eq_getElem hn]; rfl
        rw [Int.toNat_natCast, anyOf_all (h.drop (n + 1)) (q := fun y => linkB h[n] y) (fun y _ => by rw [undoPred, rdE_at _ _ hn, linked_f]), any_not_all]
        simp only [Option.bind_some, freeB, hgi]
        cases (h.drop (n + 1)).all (fun f => !linkB h[n] f) <;> simp [show 0 ≤ (n : Int) by omega, show (n : Int) < (h.length : Int) by omega, show h.length < 8796093022208 by omega, hn]
end Go.Proofs.Ythljlnkanllpnaa.P
