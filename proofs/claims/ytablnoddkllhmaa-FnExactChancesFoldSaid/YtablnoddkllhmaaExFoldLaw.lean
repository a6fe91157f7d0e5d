/- ChancesFold of the program answers as the reference's, whatever the argument, and shares no memory: the walk of the law. No condition. -/
import Derived.Test.YtablnoddkllhmaaExFold
import Derived.Test.YtablnoddkllhmaaExHeld
import Derived.Test.YtablnoddkllhmaaFoldP
import Derived.Test.YtablnoddkllhmaaOpens
namespace Go.Proofs.Ytablnoddkllhmaa.P
open Go.RowKit Go.Proofs.YtablnoddkllhmaaW.PrintWords Go.Proofs.YtablnoddkllhmaaW.PrintLast
set_option linter.unusedVariables false
theorem exFold_walk (cs : Array Value) (x : List Int × List (List Int)) (W : World) (hk : (Kd.pair (Kd.slice 3 (Kd.int .i64)) (Kd.slice 22 (Kd.slice 3 (Kd.int .i64)))).K W x cs.toList) (hg : Ints x.1 ∧ IntRows x.2) :
    Calls Try.prog 12 #[.agg cs] W fun e w' => e = .returned (.bool true) ∧ Below W.heap.size W w' := by
  obtain ⟨c0, c1, hcs, ⟨A0, k0, rfl, l0, g0⟩, ⟨A1, k1, rfl, l1, g1⟩⟩ := hk
  obtain rfl : cs = #[.slice A0 x.1.length k0, .slice A1 x.2.length k1] := by
    apply Array.toList_inj.1
    simpa using hcs
  obtain ⟨r, ⟨K0, hr⟩, hsz⟩ := szChances_ev x.1 x.2 (by have := hg.1.1; simp only [maxLen] at this; omega) (by have := hg.2.1; simp only [maxLen] at this; omega) (fun r hr => by have := (hg.2.2 r hr).1; simp only [maxLen] at this; omega)
  by_cases h : r < 0
  · exact exFold_r K0 A0 k0 x.1 A1 k1 x.2 r W g0 l0 g1 l1 (hr K0 (Nat.le_refl _)) (decide_eq_true h)
  · have hsm := hsz (by omega)
    have hfs := foldP_small x.1 x.2
    obtain ⟨K1, h1⟩ := toChances_ev x.1 x.2 hsm
    obtain ⟨K2, h2⟩ := specFold_ev x.1 x.2
    obtain ⟨K3, h3⟩ := implFold_ev x.1 x.2
    obtain ⟨K4, h4⟩ := eqChances_ev (foldP x.1 x.2).1 (foldP x.1 x.2).2.1 hfs
    obtain ⟨K5, h5⟩ := eqChances_ev x.1 x.2 hsm
    obtain ⟨k2, mm, mw, k20, K6, h6⟩ := markChances_ev x.1 x.2 hsm
    obtain ⟨m, ma, mb, m0, ⟨K7, h7⟩, K8, h8⟩ := markChances_told (foldP x.1 x.2).1 (foldP x.1 x.2).2.1 hfs
    obtain ⟨K, hK⟩ : ∃ K, K = K0 + K1 + K2 + K3 + K4 + K5 + K6 + K7 + K8 := ⟨_, rfl⟩
    exact exFold_main K A0 k0 x.1 A1 k1 x.2 r k2 m (foldP x.1 x.2).1 mm ma (foldP x.1 x.2).2.2 (foldP x.1 x.2).2.1 mw mb W g0 l0 g1 l1 (hr K (by omega)) (h1 K (by omega)) (h2 K (by omega)) (h3 K (by omega)) (h4 K (by omega)) (h5 K (by omega)) (h6 K (by omega)) (h7 K (by omega)) (h8 K (by omega)) (decide_eq_false h) (decide_eq_false (by omega)) (decide_eq_false (by omega))
end Go.Proofs.Ytablnoddkllhmaa.P
