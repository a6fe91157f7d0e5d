/- Each event is of one thread or two: plain. -/
import Derived.Test.YthljlnkanllpnaaHistC
namespace Go.Proofs.Ythljlnkanllpnaa.P
open Go.RowKit Go.Proofs.YthljlnkanllpnaaW.PrintWords Go.Proofs.YthljlnkanllpnaaW.PrintLast
set_option linter.unusedVariables false
set_option linter.unusedSimpArgs false
def wt (e : S32) : Int := if e.f1 ≥ 0 then 2 else 1
def wts : List S32 → Int
  | [] => 0
  | e :: es => wt e + wts es
theorem wt_pos (e : S32) : 1 ≤ wt e ∧ wt e ≤ 2 := by unfold wt; split <;> omega
theorem wts_pos : ∀ h : List S32, 0 ≤ wts h ∧ wts h ≤ 2 * (h.length : Int)
  | [] => by simp [wts]
  | e :: es => by
    have h1 := wt_pos e
    have h2 := wts_pos es
    rw [wts, List.length_cons]
    omega
theorem sum_set : ∀ (l : List Int) (i : Nat), i < l.length → (l.set i (l.getD i 0 + 1)).sum = l.sum + 1
  | x :: xs, 0, _ => by simp; omega
  | x :: xs, i + 1, h => by
    have := sum_set xs i (by simpa using h)
    simp only [List.set_cons_succ, List.sum_cons, List.getD_cons_succ]
    omega
theorem sum_bump {at_ : List Int} {k : Int} (h0 : 0 ≤ k) (h1 : k < (at_.length : Int)) : (bump at_ k).sum = at_.sum + 1 := by
  unfold bump rd
  exact sum_set at_ k.toNat (by omega)
theorem sum_step {th : List (List Int)} {at_ : List Int} (hf : Far th at_) {e : S32} (hc : can th at_ e.f0 e.f1 = true) : (stepAt at_ e).sum = at_.sum + wt e := by
  obtain ⟨ha, hb⟩ := can_ready hc
  obtain ⟨a0, a1, a2⟩ := ready_iff.1 ha
  have hl := hf.len
  unfold stepAt wt
  rcases hb with hb | ⟨hab, hb⟩
  · rw [if_neg (by omega), if_neg (by omega), sum_bump a0 (by omega)]
  · obtain ⟨b0, b1, b2⟩ := ready_iff.1 hb
    rw [if_pos (by omega), if_pos (by omega), sum_bump b0 (by rw [bump_length]; omega), sum_bump a0 (by omega)]
    omega
theorem run_sum {th : List (List Int)} : ∀ (h : List S32) {at_ a : List Int}, Far th at_ → run th at_ h = some a → a.sum = at_.sum + wts h
  | [], at_, a, hf, hr => by
    obtain rfl := Option.some.inj hr
    simp [wts]
  | e :: es, at_, a, hf, hr => by
    rw [run] at hr
    by_cases hc : can th at_ e.f0 e.f1 = true
    · rw [if_pos hc] at hr
      rw [run_sum es (hf.step hc) hr, sum_step hf hc, wts]
      omega
    · rw [if_neg hc] at hr
      cases hr
theorem sum_zeros (n : Nat) : (List.replicate n (0 : Int)).sum = 0 := by
  induction n with
  | zero => rfl
  | succ n ih => rw [List.replicate_succ, List.sum_cons, ih]; rfl
theorem Far.nonneg {th : List (List Int)} {a : List Int} (hf : Far th a) : ∀ i, (h : i < a.length) → 0 ≤ a[i] := by
  intro i h
  have := hf.low i (by omega) (by have := hf.len; omega)
  rwa [rd_nat _ _ h] at this
theorem mnInts_ev (l : List Int) (hl : l.length ≤ 1048576) : Ev (fun k => laws_mnInts.f k l l) true := by
  have loop : ∀ (d i : Nat), i + d = l.length → Ev (fun k => laws_mnInts.l0 k l l i) true := by
    intro d
    induction d with
    | zero =>
      intro i hi
      refine Ev.step (f := fun _ => some true) (fun k => ?_) (Ev.now true)
      simp only [laws_mnInts.l0]
      rw [if_neg (by omega)]
    | succ d ihd =>
      intro i hi
      have hil : i < l.length := by omega
      refine Ev.step (fun k => ?_) (ihd (i + 1) (by omega))
      simp only [laws_mnInts.l0]
      rw [if_pos (by omega), if_pos (by omega), if_pos (by omega), if_pos (by trivial), wrap_succ hil (by omega)]
  refine Ev.cb (Ev.now ()) (fun k _ => ?_) (loop l.length 0 (by omega))
  simp only [laws_mnInts.f]
  rw [if_pos (by trivial)]
  rfl
theorem drop_sum {l : List Int} {i : Nat} (h : i < l.length) : (l.drop i).sum = l[i] + (l.drop (i + 1)).sum := by
  rw [List.drop_eq_getElem_cons h, List.sum_cons]
theorem wts_drop {h : List S32} {i : Nat} (hi : i < h.length) : wts (h.drop i) = wt h[i] + wts (h.drop (i + 1)) := by
  rw [List.drop_eq_getElem_cons hi, wts]
theorem sum_nonneg : ∀ {l : List Int}, (∀ x, x ∈ l → 0 ≤ x) → 0 ≤ l.sum
  | [], _ => by simp
  | x :: xs, h => by
    have h1 := h x (List.mem_cons_self ..)
    have h2 := sum_nonneg (l := xs) (fun y hy => h y (List.mem_cons_of_mem _ hy))
    rw [List.sum_cons]
    omega
/-- The end of the law: the events are as many as the threads' actions. -/
theorem atEnd_ev (h : List S32) (a : List Int) (told : Bool) (hh : h.length ≤ 1048576) (ha : a.length ≤ 1048576) (hn : ∀ x, x ∈ a → 0 ≤ x) (hsum : a.sum ≤ 100000000) (ht : told = true → a.sum = wts h) :
    Ev (fun k => laws_FnHistoryAt.j0 k h a told false) true := by
  have l1 : ∀ (d i : Nat), i + d = h.length → told = true → Ev (fun k => laws_FnHistoryAt.l1 k h true (wts (h.drop i)) i) true := by
    intro d
    induction d with
    | zero =>
      intro i hi htt
      refine Ev.step (f := fun k => laws_FnHistoryAt.j3 k h true (wts (h.drop i)) i false) (fun k => ?_) (Ev.step (f := fun _ => some true) (fun k => ?_) (Ev.now true))
      · simp only [laws_FnHistoryAt.l1]
        rw [if_neg (by omega)]
      · simp only [laws_FnHistoryAt.j3]
        rw [if_neg (by simp), if_pos (by trivial), List.drop_eq_nil_of_le (by omega)]
        rfl
    | succ d ihd =>
      intro i hi htt
      have hil : i < h.length := by omega
      have hw := wts_drop hil
      have hp := wts_pos (h.drop (i + 1))
      have hq := wt_pos h[i]
      have hdl : (h.drop (i + 1)).length ≤ h.length := by rw [List.length_drop]; omega
      refine Ev.step (f := fun k => laws_FnHistoryAt.j3 k h true (wts (h.drop i)) i true) (fun k => ?_) (Ev.step (fun k => ?_) (ihd (i + 1) (by omega) htt))
      · simp only [laws_FnHistoryAt.l1]
        rw [if_pos (by omega)]
      · simp only [laws_FnHistoryAt.j3]
        rw [if_pos (by trivial), if_pos (by omega), if_pos (by omega), rdE_nat _ _ hil, wrap_succ hil (by omega), wrap_id (x := wts (h.drop i) - 1) (by omega) (by omega), hw]
        unfold wt at hq hw ⊢
        by_cases hb : h[i].f1 ≥ 0
        · rw [if_pos hb] at hw hq ⊢
          rw [if_pos hb, wrap_id (by omega) (by omega)]
          congr 1
          omega
        · rw [if_neg hb] at hw hq ⊢
          rw [if_neg hb]
          congr 1
          omega
  have l0 : ∀ (d i : Nat) (x : Int), i + d = a.length → 0 ≤ x → x + (a.drop i).sum = a.sum → Ev (fun k => laws_FnHistoryAt.l0 k h a told x i) true := by
    intro d
    induction d with
    | zero =>
      intro i x hi hx hs
      rw [List.drop_eq_nil_of_le (by omega)] at hs
      have hx' : x = a.sum := by simpa using hs
      cases told with
      | true =>
        refine Ev.step (fun k => ?_) (l1 h.length 0 (by omega) rfl)
        simp only [laws_FnHistoryAt.l0]
        rw [if_neg (by omega), List.drop_zero, ← ht rfl, hx']
        rfl
      | false =>
        have fin : Ev (fun k => laws_FnHistoryAt.j3 k h false x 0 false) true := Ev.step (f := fun _ => some true) (fun k => by
          simp only [laws_FnHistoryAt.j3]
          rw [if_neg (by simp), if_neg (by simp)]) (Ev.now true)
        refine Ev.step (f := fun k => laws_FnHistoryAt.l1 k h false x 0) (fun k => ?_) (Ev.step (fun k => ?_) fin)
        · simp only [laws_FnHistoryAt.l0]
          rw [if_neg (by omega)]
        · simp only [laws_FnHistoryAt.l1]
          split <;> rfl
    | succ d ihd =>
      intro i x hi hx hs
      have hil : i < a.length := by omega
      rw [drop_sum hil] at hs
      have h1 := hn a[i] (List.getElem_mem hil)
      have h2 := sum_nonneg (l := a.drop (i + 1)) (fun y hy => hn y (List.mem_of_mem_drop hy))
      refine Ev.step (fun k => ?_) (ihd (i + 1) (x + a[i]) (by omega) (by omega) (by omega))
      simp only [laws_FnHistoryAt.l0]
      rw [if_pos (by omega), if_pos (by omega), rd_nat _ _ hil, wrap_id (by omega) (by omega), wrap_succ hil (by omega)]
  refine Ev.step (fun k => ?_) (l0 a.length 0 0 (by omega) (by omega) (by rw [List.drop_zero]; omega))
  simp only [laws_FnHistoryAt.j0]
  rw [if_neg (by simp)]
  rfl
end Go.Proofs.Ythljlnkanllpnaa.P
namespace Go.Proofs.Ythljlnkanllpnaa.Pure
open Go.RowKit Go.Proofs.Ythljlnkanllpnaa.P Go.Proofs.YthljlnkanllpnaaW.PrintWords Go.Proofs.YthljlnkanllpnaaW.PrintLast
theorem FnHistoryAt : laws_FnHistoryAt.Pure := by
  intro l0 hlen hlen2 hwf
  by_cases hl : (l0.length : Int) > 1048576
  · exact ⟨0, by simp only [laws_FnHistoryAt.f]; rw [if_pos hl]⟩
  · obtain ⟨s, hs, ho⟩ := open_ev hwf
    obtain ⟨th, p, hth, p0, p1, ht⟩ := drawThreads_ev hs (show (0 : Int) ≤ 0 by omega) (by omega)
    obtain ⟨h, q, hh, q0, q1, hd⟩ := drawHistory_ev hs hth (show 0 ≤ p by omega) (by omega)
    have hi := implAt_ev (h := h) hth (by omega)
    have hsp := specAt_ev (h := h) hth (by omega)
    have hw := wts_pos h
    have hlen0 := hth.len
    have facts : (histAt th h).1.length ≤ 1048576 ∧ (∀ x, x ∈ (histAt th h).1 → 0 ≤ x) ∧ (histAt th h).1.sum ≤ 100000000 ∧ ((histAt th h).2 = true → (histAt th h).1.sum = wts h) := by
      by_cases hok : (histAt th h).2 = true
      · obtain ⟨h1, h2⟩ := histAt_ok hok
        have hf := run_far h (far0 th) h2
        have hsum := run_sum h (far0 th) h2
        rw [show (at0 th).sum = 0 from sum_zeros _] at hsum
        refine ⟨by have := hf.len; omega, fun x hx => ?_, by omega, fun _ => by omega⟩
        obtain ⟨i, hi, rfl⟩ := List.getElem_of_mem hx
        exact hf.nonneg i hi
      · have e : (histAt th h).1 = [] := by
          unfold histAt at hok ⊢
          split
          · rename_i hk
            rw [if_pos hk] at hok
            cases hr : run th (at0 th) h with
            | some a => rw [hr] at hok; exact absurd rfl hok
            | none => rfl
          · rfl
        rw [e]
        refine ⟨by simp, by simp, by simp, fun h => absurd h hok⟩
    obtain ⟨f1, f2, f3, f4⟩ := facts
    have hm := mnInts_ev (histAt th h).1 f1
    have he := atEnd_ev h (histAt th h).1 (histAt th h).2 (by omega) f1 f2 f3 f4
    obtain ⟨K0, h0⟩ := ht
    obtain ⟨K1, h1⟩ := hd
    obtain ⟨K2, h2⟩ := hi
    obtain ⟨K3, h3⟩ := hsp
    obtain ⟨K4, h4⟩ := hm
    obtain ⟨K5, h5⟩ := he
    refine ⟨K0 + K1 + K2 + K3 + K4 + K5, ?_⟩
    have g0 := h0 (K0 + K1 + K2 + K3 + K4 + K5) (by omega)
    have g1 := h1 (K0 + K1 + K2 + K3 + K4 + K5) (by omega)
    have g2 := h2 (K0 + K1 + K2 + K3 + K4 + K5) (by omega)
    have g3 := h3 (K0 + K1 + K2 + K3 + K4 + K5) (by omega)
    have g4 := h4 (K0 + K1 + K2 + K3 + K4 + K5) (by omega)
    have g5 := h5 (K0 + K1 + K2 + K3 + K4 + K5) (by omega)
    simp only [laws_FnHistoryAt.f, spec_DrawHistoryAt.f, ho, g0, g1, g2, g3, g4, Option.bind_some]
    rw [if_neg hl, if_pos (by trivial), show ((histAt th h).2 != (histAt th h).2) = false by simp]
    exact g5
end Go.Proofs.Ythljlnkanllpnaa.Pure
