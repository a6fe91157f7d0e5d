/- Histories: HistoryMay of the program and of the reference: one and the same; and what is drawn. Plain; no condition. -/
import Derived.Test.YthljlnkanllpnaaP2
import Derived.Test.YthljlnkanllpnaaP3
import Derived.Test.YthljlnkanllpnaaP6
import Derived.Test.YthljlnkanllpnaaP7
import Derived.Test.YthljlnkanllpnaaP24
import Derived.Test.YthljlnkanllpnaaHistB
namespace Go.Proofs.Ythljlnkanllpnaa.P
open Go.RowKit Go.Proofs.YthljlnkanllpnaaW.PrintWords Go.Proofs.YthljlnkanllpnaaW.PrintLast Go.Proofs.YthljlnkanllpnaaW.PrintMore Go.Proofs.Ythljlnkanllpnaa.Any
set_option linter.unusedVariables false
set_option linter.unusedSimpArgs false

def ones (th : List (List Int)) (at_ : List Int) : Nat → Nat → List S32
  | 0, _ => []
  | d + 1, i => (if can th at_ i (-1) = true then [⟨i, -1⟩] else []) ++ ones th at_ d (i + 1)
def twos (th : List (List Int)) (at_ : List Int) (a : Nat) : Nat → Nat → List S32
  | 0, _ => []
  | d + 1, j => (if can th at_ a j = true then [⟨a, j⟩] else []) ++ twos th at_ a d (j + 1)
def pairs (th : List (List Int)) (at_ : List Int) : Nat → Nat → List S32
  | 0, _ => []
  | d + 1, i => twos th at_ i (th.length - (i + 1)) (i + 1) ++ pairs th at_ d (i + 1)
def mayAt (th : List (List Int)) (at_ : List Int) : List S32 := ones th at_ th.length 0 ++ pairs th at_ th.length 0
/-- What HistoryMay answers. -/
def mayOf (th : List (List Int)) (h : List S32) : List S32 := if (histAt th h).2 = true then mayAt th (histAt th h).1 else []

theorem can_le (th : List (List Int)) (at_ : List Int) {a j : Nat} (h : j ≤ a) : can th at_ a j = false := by
  unfold can
  rw [show decide ((j : Int) = -1) = false by simp, show decide ((a : Int) < (j : Int)) = false by simp; omega]
  simp
theorem twos_skip (th : List (List Int)) (at_ : List Int) (a : Nat) : ∀ (c d j : Nat), j + c ≤ a + 1 → twos th at_ a (c + d) j = twos th at_ a d (j + c)
  | 0, d, j, _ => by rw [Nat.zero_add, Nat.add_zero]
  | c + 1, d, j, h => by
    rw [show c + 1 + d = (c + d) + 1 by omega, twos, can_le th at_ (by omega), if_neg (by simp), List.nil_append, twos_skip th at_ a c d (j + 1) (by omega), show j + 1 + c = j + (c + 1) by omega]
theorem twos_all (th : List (List Int)) (at_ : List Int) {a : Nat} (h : a < th.length) : twos th at_ a th.length 0 = twos th at_ a (th.length - (a + 1)) (a + 1) := by
  have := twos_skip th at_ a (a + 1) (th.length - (a + 1)) 0 (by omega)
  rw [Nat.zero_add, show a + 1 + (th.length - (a + 1)) = th.length by omega] at this
  exact this
theorem ones_len (th : List (List Int)) (at_ : List Int) : ∀ d i, (ones th at_ d i).length ≤ d
  | 0, _ => by simp [ones]
  | d + 1, i => by
    have := ones_len th at_ d (i + 1)
    rw [ones, List.length_append]
    split <;> simp <;> omega
theorem twos_len (th : List (List Int)) (at_ : List Int) (a : Nat) : ∀ d j, (twos th at_ a d j).length ≤ d
  | 0, _ => by simp [twos]
  | d + 1, j => by
    have := twos_len th at_ a d (j + 1)
    rw [twos, List.length_append]
    split <;> simp <;> omega
theorem pairs_len (th : List (List Int)) (at_ : List Int) : ∀ d i, (pairs th at_ d i).length ≤ d * th.length
  | 0, _ => by simp [pairs]
  | d + 1, i => by
    have h1 := pairs_len th at_ d (i + 1)
    have h2 := twos_len th at_ i (th.length - (i + 1)) (i + 1)
    rw [pairs, List.length_append, Nat.succ_mul]
    omega
theorem okTh_len {th : List (List Int)} (h : okTh th = true) : th.length ≤ 4 := by
  unfold okTh at h
  simp only [Bool.and_eq_true, decide_eq_true_eq] at h
  exact h.1
theorem histAt_ok {th : List (List Int)} {h : List S32} (ho : (histAt th h).2 = true) : okTh th = true ∧ run th (at0 th) h = some (histAt th h).1 := by
  unfold histAt at ho ⊢
  by_cases hk : okTh th = true
  · rw [if_pos hk] at ho ⊢
    refine ⟨hk, ?_⟩
    cases hr : run th (at0 th) h with
    | some a => rfl
    | none => rw [hr] at ho; cases ho
  · rw [if_neg hk] at ho
    cases ho
theorem run_far {th : List (List Int)} : ∀ (h : List S32) {at_ a : List Int}, Far th at_ → run th at_ h = some a → Far th a
  | [], at_, a, hf, hr => by
    obtain rfl := Option.some.inj hr
    exact hf
  | e :: es, at_, a, hf, hr => by
    rw [run] at hr
    by_cases hc : can th at_ e.f0 e.f1 = true
    · rw [if_pos hc] at hr
      exact run_far es (hf.step hc) hr
    · rw [if_neg hc] at hr
      cases hr
theorem mayOf_len (th : List (List Int)) (h : List S32) : (mayOf th h).length ≤ 20 := by
  unfold mayOf
  by_cases ho : (histAt th h).2 = true
  · rw [if_pos ho]
    have h4 := okTh_len (histAt_ok ho).1
    have h1 := ones_len th (histAt th h).1 th.length 0
    have h2 := pairs_len th (histAt th h).1 th.length 0
    have h3 : th.length * th.length ≤ 4 * 4 := Nat.mul_le_mul h4 h4
    unfold mayAt
    rw [List.length_append]
    omega
  · rw [if_neg ho]
    simp

section
variable {th : List (List Int)}
theorem specMay_ev {h : List S32} (hs : SmallTh th) (hh : h.length ≤ 1048576) : Ev (fun k => spec_HistoryMay.f k th h) (mayOf th h) := by
  have hat := specAt_ev hs hh
  unfold mayOf
  by_cases ho : (histAt th h).2 = true
  · obtain ⟨hok, hrun⟩ := histAt_ok ho
    have hf := run_far h (far0 th) hrun
    have h4 := okTh_len hok
    rw [if_pos ho]
    obtain ⟨a, ha⟩ : ∃ a, a = (histAt th h).1 := ⟨_, rfl⟩
    rw [← ha] at hf ⊢
    have l2 : ∀ (d : Nat) (i j : Nat) (acc : List S32) (r : List S32), j + d = th.length → acc.length + d < 1000 →
        (∀ acc' : List S32, acc'.length ≤ acc.length + d → acc' = acc ++ twos th a i d j → Ev (fun k => spec_HistoryMay.l1 k th acc' a ((i + 1 : Nat) : Int)) r) → i < th.length →
        Ev (fun k => spec_HistoryMay.l2 k th acc a i j) r := by
      intro d
      induction d with
      | zero =>
        intro i j acc r hj hl hk hi
        refine Ev.step (fun k => ?_) (hk acc (by omega) (by simp [twos]))
        simp only [spec_HistoryMay.l2]
        rw [if_neg (by omega), wrap_succ hi (by omega)]
      | succ d ihd =>
        intro i j acc r hj hl hk hi
        cases hc : can th a i j with
        | false =>
          refine Ev.sb (specCan_ev hs hf i j) (fun k hk' => ?_) (ihd i (j + 1) acc r (by omega) (by omega) (fun acc' h1 h2 => hk acc' (by omega) (by rw [h2, twos, hc, if_neg (by simp), List.nil_append])) hi)
          simp only [spec_HistoryMay.l2]
          rw [if_pos (by omega), hk', hc]
          simp only [Option.bind_some]
          rw [if_neg (by simp), wrap_succ (n := th.length) (by omega) (by omega)]
        | true =>
          refine Ev.sb (specCan_ev hs hf i j) (fun k hk' => ?_) (ihd i (j + 1) (acc ++ [⟨i, j⟩]) r (by omega) (by rw [List.length_append, List.length_singleton]; omega) (fun acc' h1 h2 => hk acc' (by rw [List.length_append, List.length_singleton] at h1; omega) (by rw [h2, twos, hc, if_pos rfl, List.append_assoc])) hi)
          simp only [spec_HistoryMay.l2]
          rw [if_pos (by omega), hk', hc]
          simp only [Option.bind_some]
          rw [if_pos (by trivial), if_pos (by omega), wrap_succ (n := th.length) (by omega) (by omega)]
    have l1 : ∀ (d i : Nat) (acc : List S32), i + d = th.length → acc.length + 4 * d < 900 → Ev (fun k => spec_HistoryMay.l1 k th acc a i) (acc ++ pairs th a d i) := by
      intro d
      induction d with
      | zero =>
        intro i acc hi hl
        refine Ev.step (f := fun _ => some acc) (fun k => ?_) (Ev.to (Ev.now acc) (by simp [pairs]))
        simp only [spec_HistoryMay.l1]
        rw [if_neg (by omega)]
      | succ d ihd =>
        intro i acc hi hl
        refine Ev.step (fun k => ?_) (l2 (th.length - (i + 1)) i (i + 1) acc (acc ++ pairs th a (d + 1) i) (by omega) (by omega) (fun acc' h1 h2 => Ev.to (ihd (i + 1) acc' (by omega) (by omega)) (by rw [h2, pairs, List.append_assoc])) (by omega))
        simp only [spec_HistoryMay.l1]
        rw [if_pos (by omega), wrap_succ (n := th.length) (by omega) (by omega)]
    have l0 : ∀ (d i : Nat) (acc : List S32), i + d = th.length → acc.length + d ≤ 100 → Ev (fun k => spec_HistoryMay.l0 k th acc a i) (acc ++ (ones th a d i ++ pairs th a th.length 0)) := by
      intro d
      induction d with
      | zero =>
        intro i acc hi hl
        refine Ev.step (fun k => ?_) (Ev.to (l1 th.length 0 acc (by omega) (by omega)) (by simp [ones]))
        simp only [spec_HistoryMay.l0]
        rw [if_neg (by omega)]
        rfl
      | succ d ihd =>
        intro i acc hi hl
        cases hc : can th a i (-1) with
        | false =>
          refine Ev.sb (specCan_ev hs hf i (-1)) (fun k hk' => ?_) (Ev.to (ihd (i + 1) acc (by omega) (by omega)) (by rw [ones, hc, if_neg (by simp), List.nil_append]))
          simp only [spec_HistoryMay.l0]
          rw [if_pos (by omega), hk', hc]
          simp only [Option.bind_some]
          rw [if_neg (by simp), wrap_succ (n := th.length) (by omega) (by omega)]
        | true =>
          refine Ev.sb (specCan_ev hs hf i (-1)) (fun k hk' => ?_) (Ev.to (ihd (i + 1) (acc ++ [⟨i, -1⟩]) (by omega) (by rw [List.length_append, List.length_singleton]; omega)) (by rw [ones, hc, if_pos rfl, List.append_assoc, List.append_assoc]))
          simp only [spec_HistoryMay.l0]
          rw [if_pos (by omega), hk', hc]
          simp only [Option.bind_some]
          rw [if_pos (by trivial), if_pos (by omega), wrap_succ (n := th.length) (by omega) (by omega)]
    refine Ev.cb hat (fun k hk => ?_) (l0 th.length 0 [] (by omega) (by simp; omega))
    simp only [spec_HistoryMay.f, hk, Option.bind_some]
    rw [if_pos ho, ha]
    rfl
  · rw [if_neg ho]
    refine Ev.cb hat (fun k hk => ?_) (Ev.now [])
    simp only [spec_HistoryMay.f, hk, Option.bind_some]
    rw [if_neg ho]
theorem implMayL_ev {h : List S32} (hs : SmallTh th) (hh : h.length ≤ 1048576) : Ev (fun k => impl_HistoryMay.f k th h) (mayOf th h) := by
  have hat := implAt_ev hs hh
  unfold mayOf
  by_cases ho : (histAt th h).2 = true
  · obtain ⟨hok, hrun⟩ := histAt_ok ho
    have hf := run_far h (far0 th) hrun
    have h4 := okTh_len hok
    rw [if_pos ho]
    obtain ⟨a, ha⟩ : ∃ a, a = (histAt th h).1 := ⟨_, rfl⟩
    rw [← ha] at hf ⊢
    have l2 : ∀ (d : Nat) (i j : Nat) (acc : List S32) (r : List S32), j + d = th.length → acc.length + d < 1000 →
        (∀ acc' : List S32, acc'.length ≤ acc.length + d → acc' = acc ++ twos th a i d j → Ev (fun k => impl_HistoryMay.l1 k th a acc' th.length ((i + 1 : Nat) : Int)) r) → i < th.length →
        Ev (fun k => impl_HistoryMay.l2 k th a acc i th.length i th.length j) r := by
      intro d
      induction d with
      | zero =>
        intro i j acc r hj hl hk hi
        refine Ev.step (fun k => ?_) (hk acc (by omega) (by simp [twos]))
        simp only [impl_HistoryMay.l2]
        rw [if_neg (by omega), wrap_succ hi (by omega)]
      | succ d ihd =>
        intro i j acc r hj hl hk hi
        cases hc : can th a i j with
        | false =>
          refine Ev.step (fun k => ?_) (ihd i (j + 1) acc r (by omega) (by omega) (fun acc' h1 h2 => hk acc' (by omega) (by rw [h2, twos, hc, if_neg (by simp), List.nil_append])) hi)
          simp only [impl_HistoryMay.l2]
          rw [if_pos (by omega), implMay_f hf, hc]
          simp only [Option.bind_some]
          rw [if_neg (by simp), wrap_succ (n := th.length) (by omega) (by omega)]
        | true =>
          refine Ev.step (fun k => ?_) (ihd i (j + 1) (acc ++ [⟨i, j⟩]) r (by omega) (by rw [List.length_append, List.length_singleton]; omega) (fun acc' h1 h2 => hk acc' (by rw [List.length_append, List.length_singleton] at h1; omega) (by rw [h2, twos, hc, if_pos rfl, List.append_assoc])) hi)
          simp only [impl_HistoryMay.l2]
          rw [if_pos (by omega), implMay_f hf, hc]
          simp only [Option.bind_some]
          rw [if_pos (by trivial), if_pos (by omega), wrap_succ (n := th.length) (by omega) (by omega)]
    have l1 : ∀ (d i : Nat) (acc : List S32), i + d = th.length → acc.length + 4 * d < 900 → Ev (fun k => impl_HistoryMay.l1 k th a acc th.length i) (acc ++ pairs th a d i) := by
      intro d
      induction d with
      | zero =>
        intro i acc hi hl
        refine Ev.step (f := fun _ => some acc) (fun k => ?_) (Ev.to (Ev.now acc) (by simp [pairs]))
        simp only [impl_HistoryMay.l1]
        rw [if_neg (by omega)]
      | succ d ihd =>
        intro i acc hi hl
        have ht := twos_all th a (show i < th.length by omega)
        refine Ev.step (fun k => ?_) (l2 th.length i 0 acc (acc ++ pairs th a (d + 1) i) (by omega) (by omega) (fun acc' h1 h2 => Ev.to (ihd (i + 1) acc' (by omega) (by
          have := twos_len th a i (th.length - (i + 1)) (i + 1)
          rw [h2, ht, List.length_append]
          omega)) (by rw [h2, ht, pairs, List.append_assoc])) (by omega))
        simp only [impl_HistoryMay.l1]
        rw [if_pos (by omega)]
        rfl
    have l0 : ∀ (d i : Nat) (acc : List S32), i + d = th.length → acc.length + d ≤ 100 → Ev (fun k => impl_HistoryMay.l0 k th a acc th.length i) (acc ++ (ones th a d i ++ pairs th a th.length 0)) := by
      intro d
      induction d with
      | zero =>
        intro i acc hi hl
        refine Ev.step (fun k => ?_) (Ev.to (l1 th.length 0 acc (by omega) (by omega)) (by simp [ones]))
        simp only [impl_HistoryMay.l0]
        rw [if_neg (by omega)]
        rfl
      | succ d ihd =>
        intro i acc hi hl
        cases hc : can th a i (-1) with
        | false =>
          refine Ev.step (fun k => ?_) (Ev.to (ihd (i + 1) acc (by omega) (by omega)) (by rw [ones, hc, if_neg (by simp), List.nil_append]))
          simp only [impl_HistoryMay.l0]
          rw [if_pos (by omega), implMay_f hf, hc]
          simp only [Option.bind_some]
          rw [if_neg (by simp), wrap_succ (n := th.length) (by omega) (by omega)]
        | true =>
          refine Ev.step (fun k => ?_) (Ev.to (ihd (i + 1) (acc ++ [⟨i, -1⟩]) (by omega) (by rw [List.length_append, List.length_singleton]; omega)) (by rw [ones, hc, if_pos rfl, List.append_assoc, List.append_assoc]))
          simp only [impl_HistoryMay.l0]
          rw [if_pos (by omega), implMay_f hf, hc]
          simp only [Option.bind_some]
          rw [if_pos (by trivial), if_pos (by omega), wrap_succ (n := th.length) (by omega) (by omega)]
    refine Ev.cb hat (fun k hk => ?_) (l0 th.length 0 [] (by omega) (by simp; omega))
    simp only [impl_HistoryMay.f, hk, Option.bind_some]
    rw [if_pos ho, ha]
    rfl
  · rw [if_neg ho]
    refine Ev.cb hat (fun k hk => ?_) (Ev.now [])
    simp only [impl_HistoryMay.f, hk, Option.bind_some]
    rw [if_neg ho]

/-! ### what is drawn -/
section
variable {s : List Int}
theorem drawThreads_ev (hs : Src s) {p : Int} (hp : 0 ≤ p) (hp2 : p ≤ 1000000) : ∃ th p', SmallTh th ∧ p ≤ p' ∧ p' ≤ p + 100 ∧ Ev (fun k => spec_l92Threads.f k s p) (th, p') := by
  have l2 : ∀ (d : Nat) (th : List (List Int)) (p : Int), th.length + d = 5 → SmallTh th → ∃ th', SmallTh th' ∧ Ev (fun k => spec_l92Threads.l2 k th s p) (th', p) := by
    intro d
    induction d with
    | zero =>
      intro th p h1 hth
      refine ⟨th, hth, Ev.step (f := fun _ => some (th, p)) (fun k => ?_) (Ev.now _)⟩
      simp only [spec_l92Threads.l2]
      rw [if_neg (by omega)]
    | succ d ihd =>
      intro th p h1 hth
      obtain ⟨th', h2, h3⟩ := ihd (th ++ [[]]) p (by rw [List.length_append, List.length_singleton]; omega) ⟨by rw [List.length_append, List.length_singleton]; omega, fun x hx => by
        rcases List.mem_append.1 hx with hx | hx
        · exact hth.row x hx
        · rw [List.mem_singleton.1 hx]; simp⟩
      refine ⟨th', h2, Ev.step (fun k => ?_) h3⟩
      simp only [spec_l92Threads.l2]
      rw [if_pos (by omega), if_pos (by omega)]
  have l0 : ∀ (m : Nat) (th : List (List Int)) (p : Int), 1 ≤ th.length + m → th.length + m ≤ 4 → SmallTh th → (∀ x, x ∈ th → x.length ≤ 10) → 0 ≤ p → p + 10 * m ≤ 2000000 →
      ∃ th' p', SmallTh th' ∧ p ≤ p' ∧ p' ≤ p + 10 * m + 5 ∧ Ev (fun k => spec_l92Threads.l0 k th m s p) (th', p') := by
    intro m
    induction m with
    | zero =>
      intro th p h1 h4 hth h10 hp hp2
      obtain ⟨v, v0, v1, hv⟩ := pick_ev hs hp (by omega) (show (1 : Int) ≤ 30 by omega)
      by_cases e0 : v = 0
      · refine ⟨th.set 0 (rd_L2 th 0 ++ [9]), p + 1, ⟨by rw [List.length_set]; omega, fun x hx => ?_⟩, by omega, by omega, Ev.sb hv (fun k hk => ?_) (f := fun _ => some (th.set 0 (rd_L2 th 0 ++ [9]), p + 1)) (Ev.now _)⟩
        · rcases List.mem_or_eq_of_mem_set hx with hx | rfl
          · exact hth.row x hx
          · have := h10 th[0] (List.getElem_mem (by omega))
            rw [show (0 : Int) = ((0 : Nat) : Int) from rfl, rdL_nat _ _ (by omega), List.length_append, List.length_singleton]
            omega
        · have := h10 th[0] (List.getElem_mem (by omega))
          simp only [spec_l92Threads.l0]
          rw [if_neg (by omega), hk]
          simp only [Option.bind_some]
          rw [if_pos e0, if_pos (by omega), if_pos (by rw [show (0 : Int) = ((0 : Nat) : Int) from rfl, rdL_nat _ _ (by omega)]; omega)]
          rfl
      · by_cases e1 : v = 1
        · obtain ⟨th', h2, h3⟩ := l2 (5 - th.length) th (p + 1) (by omega) hth
          refine ⟨th', p + 1, h2, by omega, by omega, Ev.sb hv (fun k hk => ?_) h3⟩
          simp only [spec_l92Threads.l0]
          rw [if_neg (by omega), hk]
          simp only [Option.bind_some]
          rw [if_neg e0, if_pos e1]
        · refine ⟨th, p + 1, hth, by omega, by omega, Ev.sb hv (fun k hk => ?_) (f := fun _ => some (th, p + 1)) (Ev.now _)⟩
          simp only [spec_l92Threads.l0]
          rw [if_neg (by omega), hk]
          simp only [Option.bind_some]
          rw [if_neg e0, if_neg e1]
    | succ m ihm =>
      intro th p h1 h4 hth h10 hp hp2
      have l1 : ∀ (c : Nat) (row : List Int) (p : Int), row.length + c ≤ 10 → 0 ≤ p → p + c + 10 * m ≤ 2000000 →
          ∃ th' p', SmallTh th' ∧ p ≤ p' ∧ p' ≤ p + c + 10 * m + 5 ∧ Ev (fun k => spec_l92Threads.l1 k th ((m + 1 : Nat) : Int) row c s p) (th', p') := by
        intro c
        induction c with
        | zero =>
          intro row p hr hp hp2
          obtain ⟨th', p', h5, h6, h7, h8⟩ := ihm (th ++ [row]) p (by rw [List.length_append, List.length_singleton]; omega) (by rw [List.length_append, List.length_singleton]; omega) ⟨by rw [List.length_append, List.length_singleton]; omega, fun x hx => by
            rcases List.mem_append.1 hx with hx | hx
            · exact hth.row x hx
            · rw [List.mem_singleton.1 hx]; omega⟩ (fun x hx => by
            rcases List.mem_append.1 hx with hx | hx
            · exact h10 x hx
            · rw [List.mem_singleton.1 hx]; omega) hp (by omega)
          refine ⟨th', p', h5, h6, by omega, Ev.step (fun k => ?_) h8⟩
          simp only [spec_l92Threads.l1]
          rw [if_neg (by omega), if_pos (by omega), wrap_pred (by omega) (by omega), show ((m + 1 : Nat) : Int) - 1 = (m : Int) by omega]
        | succ c ihc =>
          intro row p hr hp hp2
          obtain ⟨v, v0, v1, hv⟩ := pick_ev hs hp (by omega) (show (1 : Int) ≤ 3 by omega)
          obtain ⟨th', p', h5, h6, h7, h8⟩ := ihc (row ++ [wrap64 (v - 1)]) (p + 1) (by rw [List.length_append, List.length_singleton]; omega) (by omega) (by omega)
          refine ⟨th', p', h5, by omega, by omega, Ev.sb hv (fun k hk => ?_) h8⟩
          simp only [spec_l92Threads.l1]
          rw [if_pos (by omega), hk]
          simp only [Option.bind_some]
          rw [if_pos (by omega), wrap_pred (x := ((c + 1 : Nat) : Int)) (by omega) (by omega), show ((c + 1 : Nat) : Int) - 1 = (c : Int) by omega]
      obtain ⟨v, v0, v1, hv⟩ := pick_ev hs hp (by omega) (show (1 : Int) ≤ 6 by omega)
      obtain ⟨c, rfl⟩ : ∃ c : Nat, v = (c : Int) := ⟨v.toNat, by omega⟩
      obtain ⟨th', p', h5, h6, h7, h8⟩ := l1 c [] (p + 1) (by simp <;> omega) (by omega) (by omega)
      refine ⟨th', p', h5, by omega, by omega, Ev.sb hv (fun k hk => ?_) h8⟩
      simp only [spec_l92Threads.l0]
      rw [if_pos (by omega), hk]
      rfl
  obtain ⟨v, v0, v1, hv⟩ := pick_ev hs hp (by omega) (show (1 : Int) ≤ 4 by omega)
  obtain ⟨c, rfl⟩ : ∃ c : Nat, v = (c : Int) := ⟨v.toNat, by omega⟩
  obtain ⟨th', p', h5, h6, h7, h8⟩ := l0 (1 + c) [] (p + 1) (by simp <;> omega) (by simp <;> omega) ⟨by simp, by simp⟩ (by simp) (by omega) (by omega)
  refine ⟨th', p', h5, by omega, by omega, Ev.cb hv (fun k hk => ?_) h8⟩
  simp only [spec_l92Threads.f, hk, Option.bind_some]
  rw [wrap_id (by omega) (by omega)]
  rfl
theorem drawHistory_ev (hs : Src s) {th : List (List Int)} (ht : SmallTh th) {p : Int} (hp : 0 ≤ p) (hp2 : p ≤ 1000000) : ∃ h p', h.length ≤ 20 ∧ p ≤ p' ∧ p' ≤ p + 100 ∧ Ev (fun k => spec_l92History.f k s p th) (h, p') := by
  have j1 : ∀ (h : List S32) (p : Int), h.length ≤ 19 → 0 ≤ p → p ≤ 2000000 → ∃ h' p', h'.length ≤ 20 ∧ p ≤ p' ∧ p' ≤ p + 3 ∧ Ev (fun k => spec_l92History.j1 k h s p) (h', p') := by
    intro h p hl hp hp2
    obtain ⟨v, v0, v1, hv⟩ := pick_ev hs hp (by omega) (show (1 : Int) ≤ 20 by omega)
    by_cases e0 : v = 0
    · obtain ⟨u, u0, u1, hu⟩ := pick_ev hs (show 0 ≤ p + 1 by omega) (by omega) (show (1 : Int) ≤ 5 by omega)
      obtain ⟨t, t0, t1, ht⟩ := pick_ev hs (show 0 ≤ p + 1 + 1 by omega) (by omega) (show (1 : Int) ≤ 6 by omega)
      refine ⟨h ++ [⟨wrap64 (u - 1), wrap64 (t - 2)⟩], p + 1 + 1 + 1, by rw [List.length_append, List.length_singleton]; omega, by omega, by omega, Ev.sb hv (fun k hk => ?_) (f := fun k => (spec_l6Rd_pick.f k s (p + 1) 5).bind fun bt209 => ((spec_l6Rd_pick.f k s bt209.2 6).bind fun bt211 => (if h.length < 8796093022208 then (some ((h ++ [(⟨wrap64 (bt209.1 - 1), wrap64 (bt211.1 - 2)⟩ : S32)]), bt211.2)) else (none)))) (Ev.cb hu (fun k hk => ?_) (f := fun k => (spec_l6Rd_pick.f k s (p + 1 + 1) 6).bind fun bt211 => (if h.length < 8796093022208 then (some ((h ++ [(⟨wrap64 (u - 1), wrap64 (bt211.1 - 2)⟩ : S32)]), bt211.2)) else (none))) (Ev.cb ht (fun k hk => ?_) (Ev.now _)))⟩
      · simp only [spec_l92History.j1, hk, Option.bind_some]
        rw [if_pos e0]
      · simp only [hk, Option.bind_some]
      · simp only [hk, Option.bind_some]
        rw [if_pos (by omega)]
    · refine ⟨h, p + 1, by omega, by omega, by omega, Ev.sb hv (fun k hk => ?_) (f := fun _ => some (h, p + 1)) (Ev.now _)⟩
      simp only [spec_l92History.j1, hk, Option.bind_some]
      rw [if_neg e0]
  have l0 : ∀ (m : Nat) (h : List S32) (p : Int), h.length + m ≤ 19 → 0 ≤ p → p + m ≤ 2000000 → ∃ h' p', h'.length ≤ 20 ∧ p ≤ p' ∧ p' ≤ p + m + 3 ∧ Ev (fun k => spec_l92History.l0 k th h m s p) (h', p') := by
    intro m
    induction m with
    | zero =>
      intro h p hl hp hp2
      obtain ⟨h', p', h1, h2, h3, h4⟩ := j1 h p (by omega) hp (by omega)
      refine ⟨h', p', h1, h2, by omega, Ev.step (fun k => ?_) h4⟩
      simp only [spec_l92History.l0]
      rw [if_neg (by omega)]
    | succ m ihm =>
      intro h p hl hp hp2
      have hm := specMay_ev (h := h) ht (by omega)
      have hml := mayOf_len th h
      by_cases hz : (mayOf th h).length = 0
      · obtain ⟨h', p', h1, h2, h3, h4⟩ := j1 h p (by omega) hp (by omega)
        refine ⟨h', p', h1, h2, by omega, Ev.sb hm (fun k hk => ?_) h4⟩
        simp only [spec_l92History.l0]
        rw [if_pos (by omega), hk]
        simp only [Option.bind_some]
        rw [if_pos (by omega)]
      · obtain ⟨v, v0, v1, hv⟩ := pick_ev hs hp (by omega) (show (1 : Int) ≤ ((mayOf th h).length : Int) by omega)
        obtain ⟨h', p', h1, h2, h3, h4⟩ := ihm (h ++ [⟨(rd_T32 (mayOf th h) v).f0, (rd_T32 (mayOf th h) v).f1⟩]) (p + 1) (by rw [List.length_append, List.length_singleton]; omega) (by omega) (by omega)
        refine ⟨h', p', h1, by omega, by omega, Ev.sb hm (fun k hk => ?_) (f := fun k => ((spec_l6Rd_pick.f k s p ((mayOf th h).length : Int)).bind fun bt201 => (if 0 ≤ bt201.1 then (if bt201.1 < ((mayOf th h).length : Int) then (if h.length < 8796093022208 then (spec_l92History.l0 k th (h ++ [(⟨(rd_T32 (mayOf th h) bt201.1).f0, (rd_T32 (mayOf th h) bt201.1).f1⟩ : S32)]) (wrap64 (((m + 1 : Nat) : Int) - 1)) s bt201.2) else (none)) else (none)) else (none)))) (Ev.cb hv (fun k hk => ?_) h4)⟩
        · simp only [spec_l92History.l0]
          rw [if_pos (by omega), hk]
          simp only [Option.bind_some]
          rw [if_neg (by omega)]
        · simp only [hk, Option.bind_some]
          rw [if_pos v0, if_pos v1, if_pos (by omega), wrap_pred (by omega) (by omega), show ((m + 1 : Nat) : Int) - 1 = (m : Int) by omega]
  obtain ⟨v, v0, v1, hv⟩ := pick_ev hs hp (by omega) (show (1 : Int) ≤ 14 by omega)
  obtain ⟨c, rfl⟩ : ∃ c : Nat, v = (c : Int) := ⟨v.toNat, by omega⟩
  obtain ⟨h', p', h5, h6, h7, h8⟩ := l0 c [] (p + 1) (by simp <;> omega) (by omega) (by omega)
  refine ⟨h', p', h5, by omega, by omega, Ev.cb hv (fun k hk => ?_) h8⟩
  simp only [spec_l92History.f, hk, Option.bind_some]
theorem u8_wf {x : Int} (h : (Lit.int .u8 x).wf = true) : 0 ≤ x ∧ x < 256 := by
  simp [Lit.wf] at h
  have h1 : IntKind.u8.min = 0 := by decide
  have h2 : IntKind.u8.max = 255 := by decide
  omega
theorem open_ev {l : List Int} (hb : ∀ x, x ∈ l → (Lit.int .u8 x).wf = true) : ∃ s, Src s ∧ spec_l6Open.f l = some (s, 0) := by
  by_cases h : (l.length : Int) > 2000
  · refine ⟨l.take 2000, ⟨fun x hx => u8_wf (hb x (List.mem_of_mem_take hx)), by rw [List.length_take]; omega⟩, ?_⟩
    simp only [spec_l6Open.f]
    rw [if_pos h, if_pos (by omega)]
  · refine ⟨l, ⟨fun x hx => u8_wf (hb x hx), by omega⟩, ?_⟩
    simp only [spec_l6Open.f]
    rw [if_neg h]
end
end
end Go.Proofs.Ythljlnkanllpnaa.P
