/- Being the same but for order: what the program and the reference compute: one and the same. Plain; no condition but sizes. -/
import Derived.Test.YthljlnkanllpnaaP0
import Derived.Test.YthljlnkanllpnaaP1
import Derived.Test.YthljlnkanllpnaaP2
import Derived.Test.YthljlnkanllpnaaP3
import Derived.Test.YthljlnkanllpnaaHistO
import Derived.Test.YthljlnkanllpnaaHSame
namespace Go.Proofs.Ythljlnkanllpnaa.P
open Go.RowKit Go.Proofs.YthljlnkanllpnaaW.PrintWords Go.Proofs.YthljlnkanllpnaaW.PrintLast Go.Proofs.YthljlnkanllpnaaW.PrintMore Go.Proofs.Ythljlnkanllpnaa.Any
set_option linter.unusedVariables false
set_option linter.unusedSimpArgs false
variable {th : List (List Int)} {g h : List S32}
theorem ofP_take (h : List S32) (k : Int) (i : Nat) (hi : i < h.length) : ofP (h.take (i + 1)) k = if hasB h[i] k = true then ofP (h.take i) k ++ [h[i]] else ofP (h.take i) k := by
  rw [ofP, List.take_succ_eq_append_getElem hi, List.filter_append, ofP]
  by_cases e : hasB h[i] k = true <;> simp [e]
theorem of_ev (hh : h.length ≤ 1048576) (k0 : Int) : Ev (fun k => spec_l19Of.f k h k0) (ofP h k0) := by
  have loop : ∀ (d i : Nat), i + d = h.length → Ev (fun k => spec_l19Of.l0 k h k0 (ofP (h.take i) k0) i) (ofP h k0) := by
    intro d
    induction d with
    | zero =>
      intro i hi
      refine Ev.step (f := fun _ => some (ofP h k0)) (fun k => ?_) (Ev.now _)
      simp only [spec_l19Of.l0]
      rw [if_neg (by omega), List.take_of_length_le (by omega)]
    | succ d ih =>
      intro i hi
      have hil : i < h.length := by omega
      have hlen : (ofP (h.take i) k0).length < 8796093022208 := by have := ofP_length (h.take i) k0; simp at this; omega
      have hn := ih (i + 1) (by omega)
      rw [ofP_take h k0 i hil] at hn
      refine Ev.step (fun k => ?_) hn
      simp only [spec_l19Of.l0, rdE_at _ _ hil]
      rw [if_pos (by omega), if_pos (by omega)]
      by_cases e0 : h[i].f0 = k0
      · rw [if_pos e0, if_pos hlen, if_pos (by simp [hasB, e0]), wrap_succ hil (by omega)]
      · rw [if_neg e0]
        by_cases e1 : h[i].f1 = k0
        · rw [if_pos e1, if_pos hlen, if_pos (by simp [hasB, e1]), wrap_succ hil (by omega)]
        · rw [if_neg e1, if_neg (by simp [hasB, e0, e1]), wrap_succ hil (by omega)]
  refine Ev.congr (fun k => ?_) (loop h.length 0 (by omega))
  simp only [spec_l19Of.f]
  rfl
def sameFrom (n : Nat) (g h : List S32) (k : Nat) : Bool := (List.range (n - k)).all fun j => decide (ofP g ((k + j : Nat) : Int) = ofP h ((k + j : Nat) : Int))
theorem sameFrom_zero (n : Nat) (g h : List S32) : sameFrom n g h 0 = sameB n g h := by simp [sameFrom, sameB]
theorem sameFrom_iff (n : Nat) (g h : List S32) (k : Nat) : sameFrom n g h k = true ↔ ∀ j : Nat, k ≤ j → j < n → ofP g (j : Int) = ofP h (j : Int) := by
  simp only [sameFrom, List.all_eq_true, List.mem_range, decide_eq_true_eq]
  exact ⟨fun h j h1 h2 => by have := h (j - k) (by omega); rwa [show k + (j - k) = j by omega] at this, fun h j hj => h (k + j) (by omega) (by omega)⟩
theorem sameB_iff (n : Nat) (g h : List S32) : sameB n g h = true ↔ ∀ j : Nat, j < n → ofP g (j : Int) = ofP h (j : Int) := by
  rw [← sameFrom_zero, sameFrom_iff]
  exact ⟨fun h j hj => h j (by omega) hj, fun h j _ hj => h j hj⟩
theorem sameFrom_step (n : Nat) (g h : List S32) (k : Nat) (hk : k < n) : sameFrom n g h k = (decide (ofP g (k : Int) = ofP h (k : Int)) && sameFrom n g h (k + 1)) := by
  rw [Bool.eq_iff_iff, Bool.and_eq_true, sameFrom_iff, sameFrom_iff, decide_eq_true_eq]
  exact ⟨fun h => ⟨h k (by omega) hk, fun j h1 h2 => h j (by omega) h2⟩, fun h j h1 h2 => by
    rcases Nat.eq_or_lt_of_le h1 with rfl | h1
    · exact h.1
    · exact h.2 j h1 h2⟩
def sameP (th : List (List Int)) (g h : List S32) : Bool := okH th g && (okH th h && sameB th.length g h)
theorem sameL1_ev {us vs : List S32} {kk : Nat} (hl : us.length = vs.length) (hm : us.length ≤ 1048576) (r : Bool) (hkk : kk < th.length) (hs : SmallTh th) (hr : Ev (fun k => spec_HistorySame.l0 k th g h ((kk + 1 : Nat) : Int)) r) (d : Nat) :
    ∀ i : Nat, i + d = us.length → Ev (fun k => spec_HistorySame.l1 k th g h kk us vs i) (decide (us.drop i = vs.drop i) && r) := by
  have hn := hs.len
  induction d with
  | zero =>
    intro i hi
    rw [List.drop_eq_nil_of_le (by omega), List.drop_eq_nil_of_le (by omega)]
    refine Ev.step (fun k => ?_) (Ev.to hr (by simp))
    simp only [spec_HistorySame.l1]
    rw [if_neg (by omega), wrap_succ hkk (by omega)]
  | succ d ih =>
    intro i hi
    have h1 : i < us.length := by omega
    have h2 : i < vs.length := by omega
    rw [List.drop_eq_getElem_cons h1, List.drop_eq_getElem_cons h2]
    by_cases e : us[i] = vs[i]
    · refine Ev.step (fun k => ?_) (Ev.to (ih (i + 1) (by omega)) (by rw [show decide (us[i] :: us.drop (i + 1) = vs[i] :: vs.drop (i + 1)) = decide (us.drop (i + 1) = vs.drop (i + 1)) by rw [decide_eq_decide, List.cons.injEq]; simp only [e, true_and]]))
      simp only [spec_HistorySame.l1, rdE_at _ _ h1, rdE_at _ _ h2, evNe, decide_eq_true e]
      rw [if_pos (by omega), if_pos (by omega), if_pos (by omega), if_neg (by simp), wrap_succ h1 (by omega)]
    · refine Ev.step (f := fun _ => some false) (fun k => ?_) (Ev.to (Ev.now false) (by rw [decide_eq_false (fun h => e (List.cons.inj h).1)]; rfl))
      simp only [spec_HistorySame.l1, rdE_at _ _ h1, rdE_at _ _ h2, evNe, decide_eq_false e]
      rw [if_pos (by omega), if_pos (by omega), if_pos (by omega), if_pos (by simp)]
theorem sameL0_ev (hs : SmallTh th) (hg : g.length ≤ 1048576) (hh : h.length ≤ 1048576) (d : Nat) : ∀ kk : Nat, kk + d = th.length → Ev (fun k => spec_HistorySame.l0 k th g h kk) (sameFrom th.length g h kk) := by
  have hn := hs.len
  induction d with
  | zero =>
    intro kk hk
    refine Ev.step (f := fun _ => some true) (fun k => ?_) (Ev.to (Ev.now true) (by rw [eq_comm, sameFrom_iff]; intro j h1 h2; omega))
    simp only [spec_HistorySame.l0]
    rw [if_neg (by omega)]
  | succ d ih =>
    intro kk hk
    have hkl : kk < th.length := by omega
    rw [sameFrom_step _ _ _ _ hkl]
    have ho := ofP_length g (kk : Int)
    by_cases hl : (ofP g (kk : Int)).length = (ofP h (kk : Int)).length
    · have := sameL1_ev (g := g) (h := h) hl (by omega) _ hkl hs (ih (kk + 1) (by omega)) (ofP g (kk : Int)).length 0 (by omega)
      refine Ev.sb (of_ev hg (kk : Int)) (fun k hk1 => ?_) (Ev.cb (g := fun k => (spec_l19Of.f k h kk).bind fun t548 => if ((ofP g (kk : Int)).length : Int) = (t548.length : Int) then spec_HistorySame.l1 k th g h kk (ofP g (kk : Int)) t548 0 else some false) (of_ev hh (kk : Int)) (fun k hk2 => by rw [hk2]; simp only [Option.bind_some]; rw [if_pos (by omega)]; rfl) this)
      simp only [spec_HistorySame.l0]
      rw [if_pos (by omega), hk1]
      rfl
    · refine Ev.sb (of_ev hg (kk : Int)) (fun k hk1 => ?_) (Ev.cb (f := fun _ => some false) (g := fun k => (spec_l19Of.f k h kk).bind fun t548 => if ((ofP g (kk : Int)).length : Int) = (t548.length : Int) then spec_HistorySame.l1 k th g h kk (ofP g (kk : Int)) t548 0 else some false) (of_ev hh (kk : Int)) (fun k hk2 => by rw [hk2]; simp only [Option.bind_some]; rw [if_neg (by omega)]) (Ev.to (Ev.now false) (by rw [decide_eq_false (fun e => hl (by rw [e]))]; rfl)))
      simp only [spec_HistorySame.l0]
      rw [if_pos (by omega), hk1]
      rfl
theorem specSame_ev (hs : SmallTh th) (hg : g.length ≤ 1048576) (hh : h.length ≤ 1048576) : Ev (fun k => spec_HistorySame.f k th g h) (sameP th g h) := by
  have bad : Ev (fun k => spec_HistorySame.j0 k th g h true) false := Ev.step (f := fun _ => some false) (fun k => by simp only [spec_HistorySame.j0]; rw [if_pos trivial]) (Ev.now _)
  cases h1 : okH th g with
  | false =>
    refine Ev.cb (specOkH_ev hs hg) (fun k hk => ?_) (Ev.to bad (by simp [sameP, h1]))
    simp only [spec_HistorySame.f]
    rw [hk, h1]
    simp
  | true =>
    refine Ev.cb (f := fun k => (spec_HistoryOk.f k th h).bind fun t => spec_HistorySame.j0 k th g h (!t)) (specOkH_ev hs hg) (fun k hk => ?_) ?_
    · simp only [spec_HistorySame.f]
      rw [hk, h1]
      simp
    · cases h2 : okH th h with
      | false =>
        refine Ev.cb (specOkH_ev hs hh) (fun k hk => ?_) (Ev.to bad (by simp [sameP, h1, h2]))
        rw [hk, h2]
        rfl
      | true =>
        refine Ev.cb (specOkH_ev hs hh) (fun k hk => ?_) (Ev.step (f := fun k => spec_HistorySame.l0 k th g h 0) (g := fun k => spec_HistorySame.j0 k th g h false) (fun k => ?_) (Ev.to (sameL0_ev hs hg hh th.length 0 (by omega)) (by rw [sameFrom_zero]; simp [sameP, h1, h2])))
        · rw [hk, h2]
          rfl
        · simp only [spec_HistorySame.j0]
          rw [if_neg (by simp)]
theorem implSame_ev (hs : SmallTh th) (hg : g.length ≤ 1048576) (hh : h.length ≤ 1048576) : Ev (fun k => impl_HistorySame.f k th g h) (sameP th g h) := by
  have hn := hs.len
  cases h1 : okH th g with
  | false =>
    refine Ev.cb (f := fun _ => some false) (implOkH_ev hs hg) (fun k hk => ?_) (Ev.to (Ev.now _) (by simp [sameP, h1]))
    simp only [impl_HistorySame.f]
    rw [hk, h1]
    simp
  | true =>
    refine Ev.cb (f := fun k => (impl_HistoryOk.f k th h).bind fun u => if u = true then some (sameB th.length g h) else some false) (implOkH_ev hs hg) (fun k hk => ?_) (Ev.cb (f := fun _ => some (sameP th g h)) (implOkH_ev hs hh) (fun k hk => ?_) (Ev.now _))
    · simp only [impl_HistorySame.f]
      rw [hk, h1]
      simp only [Option.bind_some]
      rw [if_pos trivial, if_pos (by omega), if_pos (by omega), if_pos (by omega)]
    · rw [hk]
      simp only [Option.bind_some, sameP, h1]
      cases okH th h <;> simp
end Go.Proofs.Ythljlnkanllpnaa.P
