/- Marks of events: held where they were written. Plain; no condition. -/
import Derived.Test.YthljlnkanllpnaaP0
import Derived.Test.YthljlnkanllpnaaP2
import Derived.Test.YthljlnkanllpnaaExMark
namespace Go.Proofs.Ythljlnkanllpnaa.P
open Go.RowKit Go.Proofs.YthljlnkanllpnaaW.PrintWords Go.Proofs.YthljlnkanllpnaaW.PrintLast
set_option linter.unusedVariables false
set_option linter.unusedSimpArgs false
theorem markEventS_told (l : List S32) (a : Int) (hl : l.length ≤ 1048576) (h0 : 0 ≤ a) (h1 : a ≤ 4611686018427000000) : ∃ ml, ml.length = l.length ∧ (∀ (j : Nat) (hj : j < ml.length), ml[j].f0 = a + 2 * j ∧ ml[j].f1 = a + 2 * j + 1) ∧ Ev (fun k => laws_markEventS.f k l a) (a + 2 * l.length, ml) := by
  have loop : ∀ (d i : Nat) (ys : List S32), i + d = l.length → ys.length = l.length → (∀ (j : Nat) (hj : j < ys.length), j < i → ys[j].f0 = a + 2 * j ∧ ys[j].f1 = a + 2 * j + 1) → ∃ ml, ml.length = l.length ∧ (∀ (j : Nat) (hj : j < ml.length), ml[j].f0 = a + 2 * j ∧ ml[j].f1 = a + 2 * j + 1) ∧ Ev (fun k => laws_markEventS.l0 k ys (a + 2 * i) i) (a + 2 * l.length, ml) := by
    intro d
    induction d with
    | zero =>
      intro i ys hi hy hj
      refine ⟨ys, hy, fun j hj' => hj j hj' (by omega), Ev.step (f := fun _ => some (a + 2 * i, ys)) (fun k => ?_) (Ev.to (Ev.now _) (by rw [show i = l.length by omega]))⟩
      simp only [laws_markEventS.l0]
      rw [if_neg (by omega)]
    | succ d ihd =>
      intro i ys hi hy hj
      have hil : i < ys.length := by omega
      have e0 : (rd_T32 (ys.set i ⟨a + 2 * i, (rd_T32 ys i).f1⟩) i).f0 = a + 2 * i := by
        rw [rdE_nat _ _ (by rw [List.length_set]; exact hil), List.getElem_set_self]
      obtain ⟨ml, l1, l2, hev⟩ := ihd (i + 1) ((ys.set i ⟨a + 2 * i, (rd_T32 ys i).f1⟩).set i ⟨(rd_T32 (ys.set i ⟨a + 2 * i, (rd_T32 ys i).f1⟩) i).f0, a + 2 * i + 1⟩) (by omega) (by rw [List.length_set, List.length_set, hy]) (fun j hj' hji => by
        by_cases e : j = i
        · subst e
          rw [List.getElem_set_self, e0]
          exact ⟨rfl, rfl⟩
        · simp only [List.getElem_set_ne (Ne.symm e)]
          exact hj j (by simpa using hj') (by omega))
      refine ⟨ml, l1, l2, Ev.step (fun k => ?_) hev⟩
      simp only [laws_markEventS.l0, Option.bind_some]
      rw [if_pos (by omega), if_pos (by omega), wrap_id (x := a + 2 * i + 1) (by omega) (by omega), wrap_id (x := a + 2 * i + 1 + 1) (by omega) (by omega), wrap_succ hil (by omega)]
      congr 1
      omega
  obtain ⟨ml, l1, l2, hev⟩ := loop l.length 0 l (by omega) rfl (fun j hj hji => by omega)
  refine ⟨ml, l1, l2, Ev.cb (Ev.now ()) (fun k _ => ?_) hev⟩
  simp only [laws_markEventS.f]
  congr 1
  omega
theorem heldEventS_ev (ms : List S32) (a : Int) (hl : ms.length ≤ 1048576) (h0 : 0 ≤ a) (h1 : a ≤ 4611686018427000000) (hm : ∀ (j : Nat) (hj : j < ms.length), ms[j].f0 = a + 2 * j ∧ ms[j].f1 = a + 2 * j + 1) : Ev (fun k => laws_heldEventS.f k ms a) (a + 2 * ms.length) := by
  have loop : ∀ (d i : Nat), i + d = ms.length → Ev (fun k => laws_heldEventS.l0 k ms (a + 2 * i) i) (a + 2 * ms.length) := by
    intro d
    induction d with
    | zero =>
      intro i hi
      refine Ev.step (f := fun _ => some (a + 2 * i)) (fun k => ?_) (Ev.to (Ev.now _) (by rw [show i = ms.length by omega]))
      simp only [laws_heldEventS.l0]
      rw [if_neg (by omega)]
    | succ d ihd =>
      intro i hi
      have hil : i < ms.length := by omega
      obtain ⟨e1, e2⟩ := hm i hil
      refine Ev.step (fun k => ?_) (ihd (i + 1) (by omega))
      simp only [laws_heldEventS.l0]
      rw [rdE_nat _ _ hil, wrap_id (x := a + 2 * i + 1) (by omega) (by omega), wrap_id (x := a + 2 * i + 1 + 1) (by omega) (by omega), if_pos (by omega), if_pos (by omega), if_pos e1, if_pos e2, wrap_succ hil (by omega)]
      congr 1
      omega
  refine Ev.cb (Ev.now ()) (fun k _ => ?_) (loop ms.length 0 (by omega))
  simp only [laws_heldEventS.f]
  congr 1
  omega
end Go.Proofs.Ythljlnkanllpnaa.P
