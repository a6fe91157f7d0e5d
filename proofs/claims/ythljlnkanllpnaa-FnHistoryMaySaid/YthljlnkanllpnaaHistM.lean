/- Histories: HistoryMay of the program. Plain; no condition. -/
import Derived.Test.YthljlnkanllpnaaP0
import Derived.Test.YthljlnkanllpnaaP2
import Derived.Test.YthljlnkanllpnaaHistC
namespace Go.Proofs.Ythljlnkanllpnaa.P
open Go.RowKit Go.Proofs.YthljlnkanllpnaaW.PrintWords Go.Proofs.YthljlnkanllpnaaW.PrintLast Go.Proofs.YthljlnkanllpnaaW.PrintMore Go.Proofs.Ythljlnkanllpnaa.Any
set_option linter.unusedVariables false
set_option linter.unusedSimpArgs false
variable {th : List (List Int)}
theorem implMayL_ev {h : List S32} (hs : SmallTh th) (hh : h.length ≤ 1048576) : Ev (fun k => impl_HistoryMay.f k th h) (mayOf th h) := by
  have hat := implAt_ev hs hh
  unfold mayOf
  by_cases ho : (histAt th h).2 = true
  · obtain ⟨hok, hrun⟩ := histAt_ok ho
    have hf := run_far h (far0 th) hrun
    have h4 := okTh_len hok
    rw [if_pos ho]
    obtain ⟨a, ha⟩ : ∃ a, a = (histAt th h).1 := ⟨_, rfl⟩
    rw [← ha] at hf ⊢
    have l2 : ∀ (d : Nat) (i j : Nat) (acc : List S32) (r : List S32), j + d = th.length → acc.length + d < 1000 →
        (∀ acc' : List S32, acc'.length ≤ acc.length + d → acc' = acc ++ twos th a i d j → Ev (fun k => impl_HistoryMay.l1 k th a acc' th.length ((i + 1 : Nat) : Int)) r) → i < th.length →
        Ev (fun k => impl_HistoryMay.l2 k th a acc i th.length i th.length j) r := by
      intro d
      induction d with
      | zero =>
        intro i j acc r hj hl hk hi
        refine Ev.step (fun k => ?_) (hk acc (by omega) (by simp [twos]))
        simp only [impl_HistoryMay.l2]
        rw [if_neg (by omega), wrap_succ hi (by omega)]
      | succ d ihd =>
        intro i j acc r hj hl hk hi
        cases hc : can th a i j with
        | false =>
          refine Ev.step (fun k => ?_) (ihd i (j + 1) acc r (by omega) (by omega) (fun acc' h1 h2 => hk acc' (by omega) (by rw [h2, twos, hc, if_neg (by simp), List.nil_append])) hi)
          simp only [impl_HistoryMay.l2]
          rw [if_pos (by omega), implMay_f hf, hc]
          simp only [Option.bind_some]
          rw [if_neg (by simp), wrap_succ (n := th.length) (by omega) (by omega)]
        | true =>
          refine Ev.step (fun k => ?_) (ihd i (j + 1) (acc ++ [⟨i, j⟩]) r (by omega) (by rw [List.length_append, List.length_singleton]; omega) (fun acc' h1 h2 => hk acc' (by rw [List.length_append, List.length_singleton] at h1; omega) (by rw [h2, twos, hc, if_pos rfl, List.append_assoc])) hi)
          simp only [impl_HistoryMay.l2]
          rw [if_pos (by omega), implMay_f hf, hc]
          simp only [Option.bind_some]
          rw [if_pos (by trivial), if_pos (by omega), wrap_succ (n := th.length) (by omega) (by omega)]
    have l1 : ∀ (d i : Nat) (acc : List S32), i + d = th.length → acc.length + 4 * d < 900 → Ev (fun k => impl_HistoryMay.l1 k th a acc th.length i) (acc ++ pairs th a d i) := by
      intro d
      induction d with
      | zero =>
        intro i acc hi hl
        refine Ev.step (f := fun _ => some acc) (fun k => ?_) (Ev.to (Ev.now acc) (by simp [pairs]))
        simp only [impl_HistoryMay.l1]
        rw [if_neg (by omega)]
      | succ d ihd =>
        intro i acc hi hl
        have ht := twos_all th a (show i < th.length by omega)
        refine Ev.step (fun k => ?_) (l2 th.length i 0 acc (acc ++ pairs th a (d + 1) i) (by omega) (by omega) (fun acc' h1 h2 => Ev.to (ihd (i + 1) acc' (by omega) (by
          have := twos_len th a i (th.length - (i + 1)) (i + 1)
          rw [h2, ht, List.length_append]
          omega)) (by rw [h2, ht, pairs, List.append_assoc])) (by omega))
        simp only [impl_HistoryMay.l1]
        rw [if_pos (by omega)]
        rfl
    have l0 : ∀ (d i : Nat) (acc : List S32), i + d = th.length → acc.length + d ≤ 100 → Ev (fun k => impl_HistoryMay.l0 k th a acc th.length i) (acc ++ (ones th a d i ++ pairs th a th.length 0)) := by
      intro d
      induction d with
      | zero =>
        intro i acc hi hl
        refine Ev.step (fun k => ?_) (Ev.to (l1 th.length 0 acc (by omega) (by omega)) (by simp [ones]))
        simp only [impl_HistoryMay.l0]
        rw [if_neg (by omega)]
        rfl
      | succ d ihd =>
        intro i acc hi hl
        cases hc : can th a i (-1) with
        | false =>
          refine Ev.step (fun k => ?_) (Ev.to (ihd (i + 1) acc (by omega) (by omega)) (by rw [ones, hc, if_neg (by simp), List.nil_append]))
          simp only [impl_HistoryMay.l0]
          rw [if_pos (by omega), implMay_f hf, hc]
          simp only [Option.bind_some]
          rw [if_neg (by simp), wrap_succ (n := th.length) (by omega) (by omega)]
        | true =>
          refine Ev.step (fun k => ?_) (Ev.to (ihd (i + 1) (acc ++ [⟨i, -1⟩]) (by omega) (by rw [List.length_append, List.length_singleton]; omega)) (by rw [ones, hc, if_pos rfl, List.append_assoc, List.append_assoc]))
          simp only [impl_HistoryMay.l0]
          rw [if_pos (by omega), implMay_f hf, hc]
          simp only [Option.bind_some]
          rw [if_pos (by trivial), if_pos (by omega), wrap_succ (n := th.length) (by omega) (by omega)]
    refine Ev.cb hat (fun k hk => ?_) (l0 th.length 0 [] (by omega) (by simp; omega))
    simp only [impl_HistoryMay.f, hk, Option.bind_some]
    rw [if_pos ho, ha]
    rfl
  · rw [if_neg ho]
    refine Ev.cb hat (fun k hk => ?_) (Ev.now [])
    simp only [impl_HistoryMay.f, hk, Option.bind_some]
    rw [if_neg ho]
end Go.Proofs.Ythljlnkanllpnaa.P
