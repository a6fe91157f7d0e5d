/- HistorySame of the program answers as the reference's, whatever the arguments: the walk of the law. No condition. -/
import Derived.Test.YthljlnkanllpnaaExSm
import Derived.Test.YthljlnkanllpnaaExSz
import Derived.Test.YthljlnkanllpnaaOpens
import Derived.Test.YthljlnkanllpnaaHistS
namespace Go.Proofs.Ythljlnkanllpnaa.P
open Go.RowKit Go.Proofs.YthljlnkanllpnaaW.PrintWords Go.Proofs.YthljlnkanllpnaaW.PrintLast
set_option linter.unusedVariables false
theorem exSame_walk (A0 : Option Addr) (c0 : Nat) (x0 : List (List Int)) (A1 : Option Addr) (c1 : Nat) (x1 : List S71) (A2 : Option Addr) (c2 : Nat) (x2 : List S71) (W : World) (hc0 : x0.length ≤ c0) (hk0 : Kd.C (Kd.slice 3 (Kd.int .i64)) W A0 x0.length x0) (hg0 : IntRows x0) (hc1 : x1.length ≤ c1) (hk1 : Kd.C k71 W A1 x1.length x1) (hg1 : x1.length ≤ maxLen ∧ ∀ a ∈ x1, Ev71 a) (hc2 : x2.length ≤ c2) (hk2 : Kd.C k71 W A2 x2.length x2) (hg2 : x2.length ≤ maxLen ∧ ∀ a ∈ x2, Ev71 a) :
    Calls Try.prog 10 #[.slice A0 x0.length c0, .slice A1 x1.length c1, .slice A2 x2.length c2] W fun e w' => e = .returned (.bool true) ∧ Below W.heap.size W w' := by
  have hn : x0.length ≤ 9223372036854775807 := by have := hg0.1; simp only [maxLen] at this; omega
  have hx : ∀ r ∈ x0, r.length ≤ 9223372036854775807 := fun r hr => by have := (hg0.2 r hr).1; simp only [maxLen] at this; omega
  have hl : x1.length ≤ 9223372036854775807 := by have := hg1.1; simp only [maxLen] at this; omega
  have hl2 : x2.length ≤ 9223372036854775807 := by have := hg2.1; simp only [maxLen] at this; omega
  obtain ⟨r, ⟨K0, hr⟩, hr1, hs⟩ := szIntSS_ev x0 hn hx
  by_cases h : r < 0
  · exact exSame_r K0 A0 c0 x0 A1 c1 x1 A2 c2 x2 r W hk0 hc0 hk1 hc1 hk2 hc2 (hr K0 (Nat.le_refl _)) (decide_eq_true h)
  · have hth := hs (by omega)
    obtain ⟨q, hq, hq1, hq2⟩ := szEventS_f x1 r (by omega) hr1 hl
    by_cases h2 : q < 0
    · exact exSame_q K0 A0 c0 x0 A1 c1 x1 A2 c2 x2 r q W hk0 hc0 hk1 hc1 hk2 hc2 (hr K0 (Nat.le_refl _)) hq (decide_eq_false h) (decide_eq_true h2)
    · obtain ⟨p, hp, hp1, hp2⟩ := szEventS_f x2 q (by omega) hq1 hl2
      by_cases h3 : p < 0
      · exact exSame_p K0 A0 c0 x0 A1 c1 x1 A2 c2 x2 r q p W hk0 hc0 hk1 hc1 hk2 hc2 (hr K0 (Nat.le_refl _)) hq hp (decide_eq_false h) (decide_eq_false h2) (decide_eq_true h3)
      · have hll := hq2 (by omega)
        have hll2 := hp2 (by omega)
        have hml : (x1.map evOf).length ≤ 1048576 := by rw [List.length_map]; omega
        have hml2 : (x2.map evOf).length ≤ 1048576 := by rw [List.length_map]; omega
        obtain ⟨K1, e1⟩ := toIntSS_ev x0 hth.len hth.row
        obtain ⟨K2, e2⟩ := toEventS_ev x1 hll
        obtain ⟨K3, e3⟩ := toEventS_ev x2 hll2
        obtain ⟨K4, e4⟩ := specSame_ev (g := x1.map evOf) (h := x2.map evOf) hth hml hml2
        obtain ⟨K5, e5⟩ := implSame_ev (g := x1.map evOf) (h := x2.map evOf) hth hml hml2
        obtain ⟨K6, e6⟩ := eqIntSS_ev x0 hth.len hth.row
        obtain ⟨K7, e7⟩ := eqEventS_ev (x1.map evOf) hml
        obtain ⟨K8, e8⟩ := eqEventS_ev (x2.map evOf) hml2
        obtain ⟨K, hK⟩ : ∃ K, K = K0 + K1 + K2 + K3 + K4 + K5 + K6 + K7 + K8 := ⟨_, rfl⟩
        exact exSame_main K A0 c0 x0 A1 c1 x1 A2 c2 x2 r q p (x1.map evOf) (x2.map evOf) _ W hk0 hc0 hk1 hc1 hk2 hc2 (hr K (by omega)) hq hp (e1 K (by omega)) (e2 K (by omega)) (e3 K (by omega)) (e4 K (by omega)) (e5 K (by omega)) (e6 K (by omega)) (e7 K (by omega)) (e8 K (by omega)) (decide_eq_false h) (decide_eq_false h2) (decide_eq_false h3)
end Go.Proofs.Ythljlnkanllpnaa.P
