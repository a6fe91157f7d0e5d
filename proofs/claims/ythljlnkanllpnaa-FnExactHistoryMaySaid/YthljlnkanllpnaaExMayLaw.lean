/- HistoryMay of the program answers as the reference's, whatever the arguments, and shares no memory: the walk of the law. No condition. -/
import Derived.Test.YthljlnkanllpnaaP15
import Derived.Test.YthljlnkanllpnaaP19
import Derived.Test.YthljlnkanllpnaaExMark
import Derived.Test.YthljlnkanllpnaaExMay
import Derived.Test.YthljlnkanllpnaaExSz
import Derived.Test.YthljlnkanllpnaaOpens
import Derived.Test.YthljlnkanllpnaaHistC
namespace Go.Proofs.Ythljlnkanllpnaa.P
section
open Go.RowKit Go.Proofs.YthljlnkanllpnaaW.PrintWords Go.Proofs.YthljlnkanllpnaaW.PrintLast
set_option linter.unusedVariables false
set_option linter.unusedSimpArgs false
theorem markEventS_told (l : List S32) (a : Int) (hl : l.length ≤ 1048576) (h0 : 0 ≤ a) (h1 : a ≤ 4611686018427000000) : ∃ ml, ml.length = l.length ∧ (∀ (j : Nat) (hj : j < ml.length), ml[j].f0 = a + 2 * j ∧ ml[j].f1 = a + 2 * j + 1) ∧ Ev (fun k => laws_markEventS.f k l a) (a + 2 * l.length, ml) := by
  have loop : ∀ (d i : Nat) (ys : List S32), i + d = l.length → ys.length = l.length → (∀ (j : Nat) (hj : j < ys.length), j < i → ys[j].f0 = a + 2 * j ∧ ys[j].f1 = a + 2 * j + 1) → ∃ ml, ml.length = l.length ∧ (∀ (j : Nat) (hj : j < ml.length), ml[j].f0 = a + 2 * j ∧ ml[j].f1 = a + 2 * j + 1) ∧ Ev (fun k => laws_markEventS.l0 k ys (a + 2 * i) i) (a + 2 * l.length, ml) := by
    intro d
    induction d with
    | zero =>
      intro i ys hi hy hj
      refine ⟨ys, hy, fun j hj' => hj j hj' (by omega), Ev.step (f := fun _ => some (a + 2 * i, ys)) (fun k => ?_) (Ev.to (Ev.now _) (by rw [show i = l.length by omega]))⟩
      simp only [laws_markEventS.l0]
      rw [if_neg (by omega)]
    | succ d ihd =>
      intro i ys hi hy hj
      have hil : i < ys.length := by omega
      have e0 : (rd_T32 (ys.set i ⟨a + 2 * i, (rd_T32 ys i).f1⟩) i).f0 = a + 2 * i := by
        rw [rdE_nat _ _ (by rw [List.length_set]; exact hil), List.getElem_set_self]
      obtain ⟨ml, l1, l2, hev⟩ := ihd (i + 1) ((ys.set i ⟨a + 2 * i, (rd_T32 ys i).f1⟩).set i ⟨(rd_T32 (ys.set i ⟨a + 2 * i, (rd_T32 ys i).f1⟩) i).f0, a + 2 * i + 1⟩) (by omega) (by rw [List.length_set, List.length_set, hy]) (fun j hj' hji => by
        by_cases e : j = i
        · subst e
          rw [List.getElem_set_self, e0]
          exact ⟨rfl, rfl⟩
        · simp only [List.getElem_set_ne (Ne.symm e)]
          exact hj j (by simpa using hj') (by omega))
      refine ⟨ml, l1, l2, Ev.step (fun k => ?_) hev⟩
      simp only [laws_markEventS.l0, Option.bind_some]
      rw [if_pos (by omega), if_pos (by omega), wrap_id (x := a + 2 * i + 1) (by omega) (by omega), wrap_id (x := a + 2 * i + 1 + 1) (by omega) (by omega), wrap_succ hil (by omega)]
      congr 1
      omega
  obtain ⟨ml, l1, l2, hev⟩ := loop l.length 0 l (by omega) rfl (fun j hj hji => by omega)
  refine ⟨ml, l1, l2, Ev.cb (Ev.now ()) (fun k _ => ?_) hev⟩
  simp only [laws_markEventS.f]
  congr 1
  omega
theorem heldEventS_ev (ms : List S32) (a : Int) (hl : ms.length ≤ 1048576) (h0 : 0 ≤ a) (h1 : a ≤ 4611686018427000000) (hm : ∀ (j : Nat) (hj : j < ms.length), ms[j].f0 = a + 2 * j ∧ ms[j].f1 = a + 2 * j + 1) : Ev (fun k => laws_heldEventS.f k ms a) (a + 2 * ms.length) := by
  have loop : ∀ (d i : Nat), i + d = ms.length → Ev (fun k => laws_heldEventS.l0 k ms (a + 2 * i) i) (a + 2 * ms.length) := by
    intro d
    induction d with
    | zero =>
      intro i hi
      refine Ev.step (f := fun _ => some (a + 2 * i)) (fun k => ?_) (Ev.to (Ev.now _) (by rw [show i = ms.length by omega]))
      simp only [laws_heldEventS.l0]
      rw [if_neg (by omega)]
    | succ d ihd =>
      intro i hi
      have hil : i < ms.length := by omega
      obtain ⟨e1, e2⟩ := hm i hil
      refine Ev.step (fun k => ?_) (ihd (i + 1) (by omega))
      simp only [laws_heldEventS.l0]
      rw [rdE_nat _ _ hil, wrap_id (x := a + 2 * i + 1) (by omega) (by omega), wrap_id (x := a + 2 * i + 1 + 1) (by omega) (by omega), if_pos (by omega), if_pos (by omega), if_pos e1, if_pos e2, wrap_succ hil (by omega)]
      congr 1
      omega
  refine Ev.cb (Ev.now ()) (fun k _ => ?_) (loop ms.length 0 (by omega))
  simp only [laws_heldEventS.f]
  congr 1
  omega
end
open Go.RowKit Go.Proofs.YthljlnkanllpnaaW.PrintWords Go.Proofs.YthljlnkanllpnaaW.PrintLast
set_option linter.unusedVariables false
theorem exMay_walk (A0 : Option Addr) (c0 : Nat) (x0 : List (List Int)) (A1 : Option Addr) (c1 : Nat) (x1 : List S71) (W : World) (hc0 : x0.length ≤ c0) (hk0 : Kd.C (Kd.slice 3 (Kd.int .i64)) W A0 x0.length x0) (hg0 : IntRows x0) (hc1 : x1.length ≤ c1) (hk1 : Kd.C k71 W A1 x1.length x1) (hg1 : x1.length ≤ maxLen ∧ ∀ a ∈ x1, Ev71 a) :
    Calls Try.prog 9 #[.slice A0 x0.length c0, .slice A1 x1.length c1] W fun e w' => e = .returned (.bool true) ∧ Below W.heap.size W w' := by
  have hn : x0.length ≤ 9223372036854775807 := by have := hg0.1; simp only [maxLen] at this; omega
  have hx : ∀ r ∈ x0, r.length ≤ 9223372036854775807 := fun r hr => by have := (hg0.2 r hr).1; simp only [maxLen] at this; omega
  have hl : x1.length ≤ 9223372036854775807 := by have := hg1.1; simp only [maxLen] at this; omega
  obtain ⟨r, ⟨K0, hr⟩, hr1, hs⟩ := szIntSS_ev x0 hn hx
  by_cases h : r < 0
  · exact exMay_r K0 A0 c0 x0 A1 c1 x1 r W hk0 hc0 hk1 hc1 (hr K0 (Nat.le_refl _)) (decide_eq_true h)
  · have hth := hs (by omega)
    obtain ⟨q, hq, hq1, hq2⟩ := szEventS_f x1 r (by omega) hr1 hl
    by_cases h2 : q < 0
    · exact exMay_q K0 A0 c0 x0 A1 c1 x1 r q W hk0 hc0 hk1 hc1 (hr K0 (Nat.le_refl _)) hq (decide_eq_false h) (decide_eq_true h2)
    · have hll := hq2 (by omega)
      have hml : (x1.map evOf).length ≤ 1048576 := by rw [List.length_map]; omega
      have hal0 := mayOf_len x0 (x1.map evOf)
      have hal : (mayOf x0 (x1.map evOf)).length ≤ 1048576 := by omega
      obtain ⟨K1, h1⟩ := toIntSS_ev x0 hth.len hth.row
      obtain ⟨K2, h3⟩ := toEventS_ev x1 hll
      obtain ⟨K3, h4⟩ := specMay_ev (h := x1.map evOf) hth hml
      obtain ⟨K4, h5⟩ := implMayL_ev (h := x1.map evOf) hth hml
      obtain ⟨K5, h6⟩ := eqIntSS_ev x0 hth.len hth.row
      obtain ⟨K6, h7⟩ := eqEventS_ev (x1.map evOf) hml
      obtain ⟨K7, h8⟩ := eqEventS_ev (mayOf x0 (x1.map evOf)) hal
      obtain ⟨k1, mx, k10, k11, K8, h9⟩ := markIntSS_ev x0 hth
      have := hth.len
      obtain ⟨mh, K9, h10⟩ := markEventS_ev (x1.map evOf) k1 hml k10 (by omega)
      obtain ⟨ma, m1, m2, K10, h11⟩ := markEventS_told (mayOf x0 (x1.map evOf)) 1 hal (by omega) (by omega)
      obtain ⟨K11, h12⟩ := heldEventS_ev ma 1 (by omega) (by omega) (by omega) m2
      rw [m1] at h12
      have hz : ¬ k1 + 2 * ((x1.map evOf).length : Int) < 0 := by omega
      have hz2 : ¬ (1 + 2 * ((mayOf x0 (x1.map evOf)).length : Int)) < 0 := by omega
      obtain ⟨K, hK⟩ : ∃ K, K = K0 + K1 + K2 + K3 + K4 + K5 + K6 + K7 + K8 + K9 + K10 + K11 := ⟨_, rfl⟩
      exact exMay_main K A0 c0 x0 A1 c1 x1 r q k1 _ _ (x1.map evOf) (mayOf x0 (x1.map evOf)) ma mx mh W hk0 hc0 hk1 hc1 (hr K (by omega)) hq (h1 K (by omega)) (h3 K (by omega)) (h4 K (by omega)) (h5 K (by omega)) (h8 K (by omega)) (h6 K (by omega)) (h7 K (by omega)) (h9 K (by omega)) (h10 K (by omega)) (h11 K (by omega)) (h12 K (by omega)) (decide_eq_false h) (decide_eq_false h2) (decide_eq_false hz) (decide_eq_false hz2)
end Go.Proofs.Ythljlnkanllpnaa.P
