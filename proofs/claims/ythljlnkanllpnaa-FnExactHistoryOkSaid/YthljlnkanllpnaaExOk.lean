/- HistoryOk of the program answers as the reference's, whatever the arguments: the walk of the law. No condition. -/
import Derived.Test.YthljlnkanllpnaaP7
import Derived.Test.YthljlnkanllpnaaP22
import Derived.Test.YthljlnkanllpnaaP23
import Derived.Test.YthljlnkanllpnaaExSz
import Derived.Test.YthljlnkanllpnaaOpens
import Derived.Test.YthljlnkanllpnaaHistB
namespace Go.Proofs.Ythljlnkanllpnaa.P
open Go.RowKit Go.Proofs.YthljlnkanllpnaaW.PrintWords Go.Proofs.YthljlnkanllpnaaW.PrintLast
set_option linter.unusedVariables false
theorem exSpecOk_ev {th : List (List Int)} {h : List S32} (hs : SmallTh th) (hh : h.length ≤ 1048576) : Ev (fun k => spec_HistoryOk.f k th h) (histAt th h).2 :=
  Ev.cb (specAt_ev hs hh) (fun k hk => by simp only [spec_HistoryOk.f, hk, Option.bind_some]) (Ev.now _)
theorem exImplOk_ev {th : List (List Int)} {h : List S32} (hs : SmallTh th) (hh : h.length ≤ 1048576) : Ev (fun k => impl_HistoryOk.f k th h) (histAt th h).2 :=
  Ev.cb (implAt_ev hs hh) (fun k hk => by simp only [impl_HistoryOk.f, hk, Option.bind_some]) (Ev.now _)
theorem exOk_pure (th : List (List Int)) (l : List S71) (hn : th.length ≤ 9223372036854775807) (hx : ∀ x ∈ th, x.length ≤ 9223372036854775807) (hl : l.length ≤ 9223372036854775807) :
    Ev (fun k => laws_FnExactHistoryOk.f k th l) true := by
  obtain ⟨r, ⟨K0, hr⟩, hr1, hs⟩ := szIntSS_ev th hn hx
  by_cases h : r < 0
  · exact ⟨K0, fun k hk => by simp only [laws_FnExactHistoryOk.f, hr k hk, Option.bind_some]; rw [if_pos h]⟩
  · have hth := hs (by omega)
    obtain ⟨q, hq, hq1, hq2⟩ := szEventS_f l r (by omega) hr1 hl
    by_cases h2 : q < 0
    · exact ⟨K0, fun k hk => by simp only [laws_FnExactHistoryOk.f, hr k hk, hq, Option.bind_some]; rw [if_neg h, if_pos h2]⟩
    · have hll := hq2 (by omega)
      have hml : (l.map evOf).length ≤ 1048576 := by rw [List.length_map]; omega
      obtain ⟨K1, h1⟩ := toIntSS_ev th hth.len hth.row
      obtain ⟨K2, h3⟩ := toEventS_ev l hll
      obtain ⟨K3, h4⟩ := exSpecOk_ev (h := l.map evOf) hth hml
      obtain ⟨K4, h5⟩ := exImplOk_ev (h := l.map evOf) hth hml
      obtain ⟨K5, h6⟩ := eqIntSS_ev th hth.len hth.row
      obtain ⟨K6, h7⟩ := eqEventS_ev (l.map evOf) hml
      refine ⟨K0 + K1 + K2 + K3 + K4 + K5 + K6, fun k hk => ?_⟩
      simp only [laws_FnExactHistoryOk.f, hr k (by omega), hq, h1 k (by omega), h3 k (by omega), h4 k (by omega), h5 k (by omega), h6 k (by omega), h7 k (by omega), Option.bind_some]
      rw [if_neg h, if_neg h2]
      simp
theorem exOk_walk (A0 : Option Addr) (c0 : Nat) (x0 : List (List Int)) (A1 : Option Addr) (c1 : Nat) (x1 : List S71) (W : World) (hc0 : x0.length ≤ c0) (hk0 : Kd.C (Kd.slice 3 (Kd.int .i64)) W A0 x0.length x0) (hg0 : IntRows x0) (hc1 : x1.length ≤ c1) (hk1 : Kd.C k71 W A1 x1.length x1) (hg1 : x1.length ≤ maxLen ∧ ∀ a ∈ x1, Ev71 a) :
    Calls Try.prog 4 #[.slice A0 x0.length c0, .slice A1 x1.length c1] W fun e w' => e = .returned (.bool true) ∧ Below W.heap.size W w' := by
  obtain ⟨k, h⟩ := (exOk_pure x0 x1 (by have := hg0.1; simp only [maxLen] at this; omega) (fun r hr => by have := (hg0.2 r hr).1; simp only [maxLen] at this; omega) (by have := hg1.1; simp only [maxLen] at this; omega)).rounds
  exact laws_FnExactHistoryOk.calls k A0 c0 x0 A1 c1 x1 true W hk0 hc0 hk1 hc1 h
end Go.Proofs.Ythljlnkanllpnaa.P
