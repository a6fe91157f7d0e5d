/- HistoryBack of the program answers as the reference's, whatever the arguments, and shares no memory: the walk of the law. No condition. -/
import Derived.Test.YthljlnkanllpnaaExBack
import Derived.Test.YthljlnkanllpnaaExMarkE
import Derived.Test.YthljlnkanllpnaaExSz
import Derived.Test.YthljlnkanllpnaaOpens
import Derived.Test.YthljlnkanllpnaaHistBk
namespace Go.Proofs.Ythljlnkanllpnaa.P
open Go.RowKit Go.Proofs.YthljlnkanllpnaaW.PrintWords Go.Proofs.YthljlnkanllpnaaW.PrintLast
set_option linter.unusedVariables false
theorem exBack_walk (A0 : Option Addr) (c0 : Nat) (x0 : List (List Int)) (A1 : Option Addr) (c1 : Nat) (x1 : List S71) (i j : Int) (W : World) (hc0 : x0.length ≤ c0) (hk0 : Kd.C (Kd.slice 3 (Kd.int .i64)) W A0 x0.length x0) (hg0 : IntRows x0) (hc1 : x1.length ≤ c1) (hk1 : Kd.C k71 W A1 x1.length x1) (hg1 : x1.length ≤ maxLen ∧ ∀ a ∈ x1, Ev71 a) (hi : (Lit.int .i64 i).wf = true) (hj : (Lit.int .i64 j).wf = true) :
    Calls Try.prog 15 #[.slice A0 x0.length c0, .slice A1 x1.length c1, .int .i64 i, .int .i64 j] W fun e w' => e = .returned (.bool true) ∧ Below W.heap.size W w' := by
  have hn : x0.length ≤ 9223372036854775807 := by have := hg0.1; simp only [maxLen] at this; omega
  have hx : ∀ r ∈ x0, r.length ≤ 9223372036854775807 := fun r hr => by have := (hg0.2 r hr).1; simp only [maxLen] at this; omega
  have hl : x1.length ≤ 9223372036854775807 := by have := hg1.1; simp only [maxLen] at this; omega
  obtain ⟨r, ⟨K0, hr⟩, hr1, hs⟩ := szIntSS_ev x0 hn hx
  by_cases h : r < 0
  · exact exBack_r K0 A0 c0 x0 A1 c1 x1 i j r W hk0 hc0 hk1 hc1 (hr K0 (Nat.le_refl _)) (decide_eq_true h)
  · have hth := hs (by omega)
    obtain ⟨q, hq, hq1, hq2⟩ := szEventS_f x1 r (by omega) hr1 hl
    by_cases h2 : q < 0
    · exact exBack_q K0 A0 c0 x0 A1 c1 x1 i j r q W hk0 hc0 hk1 hc1 (hr K0 (Nat.le_refl _)) hq (decide_eq_false h) (decide_eq_true h2)
    · have hll := hq2 (by omega)
      have hml : (x1.map evOf).length ≤ 1048576 := by rw [List.length_map]; omega
      obtain ⟨bk, hbk⟩ := backIs_ex x0 (x1.map evOf) i j
      have hal : bk.1.length ≤ 1048576 := by
        rcases hbk with ⟨_, _, _, _, _, b⟩ | ⟨_, rfl⟩
        · have := b.sub.length_le
          omega
        · simp
      obtain ⟨K1, h1⟩ := toIntSS_ev x0 hth.len hth.row
      obtain ⟨K2, h3⟩ := toEventS_ev x1 hll
      obtain ⟨K3, h4⟩ := hbk.spec hth hml
      obtain ⟨K4, h5⟩ := hbk.impl hth hml
      obtain ⟨K5, h6⟩ := eqIntSS_ev x0 hth.len hth.row
      obtain ⟨K6, h7⟩ := eqEventS_ev (x1.map evOf) hml
      obtain ⟨K7, h8⟩ := eqEventS_ev bk.1 hal
      obtain ⟨k1, mx, k10, k11, K8, h9⟩ := markIntSS_ev x0 hth
      have := hth.len
      obtain ⟨mh, K9, h10⟩ := markEventS_ev (x1.map evOf) k1 hml k10 (by omega)
      obtain ⟨ma, m1, m2, K10, h11⟩ := markEventS_told bk.1 1 hal (by omega) (by omega)
      obtain ⟨K11, h12⟩ := heldEventS_ev ma 1 (by omega) (by omega) (by omega) m2
      rw [m1] at h12
      have hz : ¬ k1 + 2 * ((x1.map evOf).length : Int) < 0 := by omega
      have hz2 : ¬ (1 + 2 * (bk.1.length : Int)) < 0 := by omega
      obtain ⟨K, hK⟩ : ∃ K, K = K0 + K1 + K2 + K3 + K4 + K5 + K6 + K7 + K8 + K9 + K10 + K11 := ⟨_, rfl⟩
      exact exBack_main K A0 c0 x0 A1 c1 x1 i j r q k1 _ _ (x1.map evOf) bk.1 ma mx mh bk.2 W hk0 hc0 hk1 hc1 (hr K (by omega)) hq (h1 K (by omega)) (h3 K (by omega)) (h4 K (by omega)) (h5 K (by omega)) (h8 K (by omega)) (h6 K (by omega)) (h7 K (by omega)) (h9 K (by omega)) (h10 K (by omega)) (h11 K (by omega)) (h12 K (by omega)) (decide_eq_false h) (decide_eq_false h2) (decide_eq_false hz) (decide_eq_false hz2)
end Go.Proofs.Ythljlnkanllpnaa.P
