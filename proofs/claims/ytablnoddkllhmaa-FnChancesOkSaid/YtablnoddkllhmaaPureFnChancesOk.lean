/- A chain is one just if it has classes (P90). No condition. -/
import Derived.Test.YtablnoddkllhmaaP0
import Derived.Test.YtablnoddkllhmaaP1
import Derived.Test.YtablnoddkllhmaaP2
import Derived.Test.YtablnoddkllhmaaHDraw
import Derived.Test.YtablnoddkllhmaaDrawCh
import Derived.Test.YtablnoddkllhmaaFoldP
import Derived.Test.YtablnoddkllhmaaCls3
namespace Go.Proofs.Ytablnoddkllhmaa.Pure
open Go.RowKit Go.Proofs.Ytablnoddkllhmaa.P Go.Proofs.YtablnoddkllhmaaW.PrintWords Go.Proofs.YtablnoddkllhmaaW.PrintLast
theorem FnChancesOk : laws_FnChancesOk.Pure := by
  intro l0 hlen hlen2 hwf
  by_cases hl : (l0.length : Int) > 1048576
  · exact ⟨0, by simp only [laws_FnChancesOk.f]; rw [if_pos hl]⟩
  · obtain ⟨s, hs, ho⟩ := open_ev hwf
    obtain ⟨m, ws, p, hsm, _, _, K0, h0⟩ := drawCh_ev hs
    have h0 : ∀ k, K0 ≤ k → spec_l92Chances.f k s 0 = some (m, ws, p) := h0
    obtain ⟨K1, h1⟩ := impl_ok m ws
    obtain ⟨K2, h2⟩ := spec_ok m ws
    obtain ⟨K3, h3⟩ := implFold_ev m ws
    obtain ⟨K4, h4⟩ := implCls_ev m ws
    have h1 : ∀ k, K1 ≤ k → impl_ChancesOk.f k m ws = some (chOk m ws) := h1
    have h2 : ∀ k, K2 ≤ k → spec_ChancesOk.f k m ws = some (chOk m ws) := h2
    have h3 : ∀ k, K3 ≤ k → impl_ChancesFold.f k m ws = some (foldP m ws) := h3
    have h4 : ∀ k, K4 ≤ k → impl_ChancesClasses.f k m ws = some (clsP m ws) := h4
    refine ⟨K0 + K1 + K2 + K3 + K4, ?_⟩
    have hd : spec_DrawChancesOk.f (K0 + K1 + K2 + K3 + K4) l0 = some (m, ws) := by
      unfold spec_DrawChancesOk.f
      rw [ho, Option.bind_some, h0 _ (by omega), Option.bind_some]
    unfold laws_FnChancesOk.f
    rw [if_neg hl, hd, Option.bind_some, h1 _ (by omega), Option.bind_some, h2 _ (by omega), Option.bind_some, if_neg (by simp), h3 _ (by omega), Option.bind_some, h4 _ (by omega), Option.bind_some]
    have hc : (chOk m ws == decide (((clsP m ws).length : Int) > 0)) = true := by
      cases hh : chOk m ws with
      | false => simp [clsP, hh]
      | true =>
        have h5 := (chOk_rows hh).2
        have h6 := (classesP_canon m ws).len
        simp only [clsP, hh, if_pos, beq_iff_eq]
        exact (decide_eq_true (by omega)).symm
    rw [if_pos hc]
    have hf : (foldP m ws).2.2 = chOk m ws := by
      unfold foldP
      cases hh : chOk m ws <;> simp
    rw [hf]
    simp
end Go.Proofs.Ytablnoddkllhmaa.Pure
