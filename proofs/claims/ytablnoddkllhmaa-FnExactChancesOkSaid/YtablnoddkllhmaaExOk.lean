/- ChancesOk of the program answers as the reference's, whatever the arguments: the walk of the law. No condition. -/
import Derived.Test.YtablnoddkllhmaaP3
import Derived.Test.YtablnoddkllhmaaOkPure
import Derived.Test.YtablnoddkllhmaaOpens
namespace Go.Proofs.Ytablnoddkllhmaa.P
open Go.RowKit Go.Proofs.YtablnoddkllhmaaW.PrintWords Go.Proofs.YtablnoddkllhmaaW.PrintLast
set_option linter.unusedVariables false
theorem exOk_pure (m : List Int) (ws : List (List Int)) (hm : m.length ≤ 9223372036854775807) (hn : ws.length ≤ 9223372036854775807) (hx : ∀ x ∈ ws, x.length ≤ 9223372036854775807) :
    Ev (fun k => laws_FnExactChancesOk.f k m ws) true := by
  obtain ⟨r, ⟨K0, hr⟩, hs⟩ := szChances_ev m ws hm hn hx
  by_cases h : r < 0
  · exact ⟨K0, fun k hk => by simp only [laws_FnExactChancesOk.f, hr k hk, Option.bind_some]; rw [if_pos h]⟩
  · have hsm := hs (by omega)
    obtain ⟨K1, h1⟩ := toChances_ev m ws hsm
    obtain ⟨K2, h2⟩ := spec_ok m ws
    obtain ⟨K3, h3⟩ := impl_ok m ws
    obtain ⟨K4, h4⟩ := eqChances_ev m ws hsm
    refine ⟨K0 + K1 + K2 + K3 + K4, fun k hk => ?_⟩
    simp only [laws_FnExactChancesOk.f, hr k (by omega), h1 k (by omega), h2 k (by omega), h3 k (by omega), h4 k (by omega), Option.bind_some]
    rw [if_neg h]
    simp
theorem exOk_walk (cs : Array Value) (x : List Int × List (List Int)) (W : World) (hk : (Kd.pair (Kd.slice 3 (Kd.int .i64)) (Kd.slice 22 (Kd.slice 3 (Kd.int .i64)))).K W x cs.toList) (hg : Ints x.1 ∧ IntRows x.2) :
    Calls Try.prog 3 #[.agg cs] W fun e w' => e = .returned (.bool true) ∧ Below W.heap.size W w' := by
  obtain ⟨c0, c1, hcs, ⟨A0, k0, rfl, l0, g0⟩, ⟨A1, k1, rfl, l1, g1⟩⟩ := hk
  obtain rfl : cs = #[.slice A0 x.1.length k0, .slice A1 x.2.length k1] := by
    apply Array.toList_inj.1
    simpa using hcs
  obtain ⟨k, h⟩ := (exOk_pure x.1 x.2 (by have := hg.1.1; simp only [maxLen] at this; omega) (by have := hg.2.1; simp only [maxLen] at this; omega) (fun r hr => by have := (hg.2.2 r hr).1; simp only [maxLen] at this; omega)).rounds
  exact laws_FnExactChancesOk.calls k A0 k0 x.1 A1 k1 x.2 true W g0 l0 g1 l1 h
end Go.Proofs.Ytablnoddkllhmaa.P
