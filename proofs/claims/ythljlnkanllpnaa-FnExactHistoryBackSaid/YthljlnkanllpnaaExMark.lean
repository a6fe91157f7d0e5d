/- Marks in the exact laws: what is marked, and how far. Plain; no condition. -/
import Derived.Test.YthljlnkanllpnaaP0
import Derived.Test.YthljlnkanllpnaaP2
import Derived.Test.YthljlnkanllpnaaHistA
import Derived.Test.YthljlnkanllpnaaHMark
namespace Go.Proofs.Ythljlnkanllpnaa.P
open Go.RowKit Go.Proofs.YthljlnkanllpnaaW.PrintWords Go.Proofs.YthljlnkanllpnaaW.PrintLast
set_option linter.unusedVariables false
set_option linter.unusedSimpArgs false
theorem markIntS_ev (l : List Int) (a : Int) (h0 : 0 ≤ a) (h1 : a + l.length ≤ 4611686018427387904) : ∃ ms, ms.length = l.length ∧ (∀ (j : Nat) (hj : j < ms.length), ms[j] = a + j) ∧ Ev (fun k => laws_markIntS.f k l a) (a + l.length, ms) := by
  have loop : ∀ (d i : Nat) (xs : List Int), i + d = l.length → xs.length = l.length → (∀ (j : Nat) (hj : j < xs.length), j < i → xs[j] = a + j) →
      ∃ ms, ms.length = l.length ∧ (∀ (j : Nat) (hj : j < ms.length), ms[j] = a + j) ∧ Ev (fun k => laws_markIntS.l0 k xs (a + i) i) (a + l.length, ms) := by
    intro d
    induction d with
    | zero =>
      intro i xs hi hx hj
      refine ⟨xs, hx, fun j hj' => hj j hj' (by omega), Ev.step (f := fun _ => some (a + i, xs)) (fun k => ?_) (Ev.to (Ev.now _) (by rw [show i = l.length by omega]))⟩
      simp only [laws_markIntS.l0]
      rw [if_neg (by omega)]
    | succ d ihd =>
      intro i xs hi hx hj
      have hil : i < xs.length := by omega
      obtain ⟨ms, m1, m2, m3⟩ := ihd (i + 1) (xs.set i (a + i)) (by omega) (by rw [List.length_set, hx]) (fun j hj' hji => by
        by_cases e : j = i
        · subst e; rw [List.getElem_set_self]
        · rw [List.getElem_set_ne (Ne.symm e)]; exact hj j (by rw [List.length_set] at hj'; exact hj') (by omega))
      refine ⟨ms, m1, m2, Ev.step (fun k => ?_) m3⟩
      simp only [laws_markIntS.l0]
      rw [if_pos (by omega), if_pos (by omega), wrap_id (by omega) (by omega), wrap_succ hil (by omega)]
      congr 1
      omega
  obtain ⟨ms, m1, m2, m3⟩ := loop l.length 0 l (by omega) rfl (fun j hj hji => by omega)
  refine ⟨ms, m1, m2, Ev.cb (Ev.now ()) (fun k _ => ?_) m3⟩
  simp only [laws_markIntS.f]
  congr 1
  omega
theorem heldIntS_ev (ms : List Int) (a : Int) (h0 : 0 ≤ a) (h1 : a + ms.length ≤ 4611686018427387904) (hm : ∀ (j : Nat) (hj : j < ms.length), ms[j] = a + j) : Ev (fun k => laws_heldIntS.f k ms a) (a + ms.length) := by
  have loop : ∀ (d i : Nat), i + d = ms.length → Ev (fun k => laws_heldIntS.l0 k ms (a + i) i) (a + ms.length) := by
    intro d
    induction d with
    | zero =>
      intro i hi
      refine Ev.step (f := fun _ => some (a + i)) (fun k => ?_) (Ev.to (Ev.now _) (by rw [show i = ms.length by omega]))
      simp only [laws_heldIntS.l0]
      rw [if_neg (by omega)]
    | succ d ihd =>
      intro i hi
      have hil : i < ms.length := by omega
      refine Ev.step (fun k => ?_) (ihd (i + 1) (by omega))
      simp only [laws_heldIntS.l0]
      rw [if_pos (by omega), if_pos (by omega), if_pos (by rw [rd_nat _ _ hil]; exact hm i hil), wrap_id (by omega) (by omega), wrap_succ hil (by omega)]
      congr 1
      omega
  refine Ev.cb (Ev.now ()) (fun k _ => ?_) (loop ms.length 0 (by omega))
  simp only [laws_heldIntS.f]
  congr 1
  omega
theorem markIntSS_ev (th : List (List Int)) (hs : SmallTh th) : ∃ r mx, 0 ≤ r ∧ r ≤ 1 + 1048576 * (th.length : Int) ∧ Ev (fun k => laws_markIntSS.f k th 1) (r, mx) := by
  have hl := hs.len
  have loop : ∀ (d i : Nat) (ys : List (List Int)) (a : Int), i + d = th.length → ys.length = th.length → (∀ (j : Nat) (hj : j < ys.length), i ≤ j → ys[j].length ≤ 1048576) → 0 ≤ a → a ≤ 1 + 1048576 * (i : Int) →
      ∃ r mx, 0 ≤ r ∧ r ≤ 1 + 1048576 * (th.length : Int) ∧ Ev (fun k => laws_markIntSS.l0 k ys a i) (r, mx) := by
    intro d
    induction d with
    | zero =>
      intro i ys a hi hy hr h0 h1
      refine ⟨a, ys, h0, by omega, Ev.step (f := fun _ => some (a, ys)) (fun k => ?_) (Ev.now _)⟩
      simp only [laws_markIntSS.l0]
      rw [if_neg (by omega)]
    | succ d ihd =>
      intro i ys a hi hy hr h0 h1
      have hil : i < ys.length := by omega
      have hrow := hr i hil (Nat.le_refl _)
      obtain ⟨ms, m1, m2, m3⟩ := markIntS_ev ys[i] a h0 (by omega)
      obtain ⟨r, mx, r0, r1, hev⟩ := ihd (i + 1) (ys.set i ms) (a + ys[i].length) (by omega) (by rw [List.length_set, hy]) (fun j hj hji => by
        rw [List.getElem_set_ne (by omega)]
        exact hr j (by rw [List.length_set] at hj; exact hj) (by omega)) (by omega) (by omega)
      refine ⟨r, mx, r0, r1, Ev.sb m3 (fun k hk => ?_) hev⟩
      simp only [laws_markIntSS.l0]
      rw [if_pos (by omega), if_pos (by omega), rdL_nat _ _ hil, hk]
      simp only [Option.bind_some]
      rw [wrap_succ hil (by omega)]
      rfl
  exact loop th.length 0 th 1 (by omega) rfl (fun j hj _ => hs.row _ (List.getElem_mem hj)) (by omega) (by omega)
theorem markEventS_ev (l : List S32) (a : Int) (hl : l.length ≤ 1048576) (h0 : 0 ≤ a) (h1 : a ≤ 4611686018427000000) : ∃ ml, Ev (fun k => laws_markEventS.f k l a) (a + 2 * l.length, ml) := by
  have loop : ∀ (d i : Nat) (ys : List S32), i + d = l.length → ys.length = l.length → ∃ ml, Ev (fun k => laws_markEventS.l0 k ys (a + 2 * i) i) (a + 2 * l.length, ml) := by
    intro d
    induction d with
    | zero =>
      intro i ys hi hy
      refine ⟨ys, Ev.step (f := fun _ => some (a + 2 * i, ys)) (fun k => ?_) (Ev.to (Ev.now _) (by rw [show i = l.length by omega]))⟩
      simp only [laws_markEventS.l0]
      rw [if_neg (by omega)]
    | succ d ihd =>
      intro i ys hi hy
      have hil : i < ys.length := by omega
      obtain ⟨ml, hev⟩ := ihd (i + 1) ((ys.set i ⟨a + 2 * i, (rd_T32 ys i).f1⟩).set i ⟨(rd_T32 (ys.set i ⟨a + 2 * i, (rd_T32 ys i).f1⟩) i).f0, a + 2 * i + 1⟩) (by omega) (by rw [List.length_set, List.length_set, hy])
      refine ⟨ml, Ev.step (fun k => ?_) hev⟩
      simp only [laws_markEventS.l0, Option.bind_some]
      rw [if_pos (by omega), if_pos (by omega), wrap_id (x := a + 2 * i + 1) (by omega) (by omega), wrap_id (x := a + 2 * i + 1 + 1) (by omega) (by omega), wrap_succ hil (by omega)]
      congr 1
      omega
  obtain ⟨ml, hev⟩ := loop l.length 0 l (by omega) rfl
  refine ⟨ml, Ev.cb (Ev.now ()) (fun k _ => ?_) hev⟩
  simp only [laws_markEventS.f]
  congr 1
  omega
end Go.Proofs.Ythljlnkanllpnaa.P
