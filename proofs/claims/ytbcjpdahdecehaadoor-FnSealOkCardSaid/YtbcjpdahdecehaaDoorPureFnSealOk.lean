/- A message is one just if it has a text (P99). No condition. -/
import Derived.Test.YtbcjpdahdecehaaDoorP1
import Derived.Test.YtbcjpdahdecehaaDoorP2
import Derived.Test.YtbcjpdahdecehaaDoorP5
import Derived.Test.YtbcjpdahdecehaaDoorP6
import Derived.Test.YtbcjpdahdecehaaDoorP24
import Derived.Test.YtbcjpdahdecehaaDoorP30
import Derived.Test.YtbcjpdahdecehaaDoorP32
import Derived.Test.YtbcjpdahdecehaaDoorP33
import Derived.Test.YtbcjpdahdecehaaDoorSealTx
import Derived.Test.YtbcjpdahdecehaaDoorDrawSl
namespace Go.Proofs.YtbcjpdahdecehaaDoor.Pure
open Go.RowKit Go.Proofs.YtbcjpdahdecehaaDoor.P Go.Proofs.YtbcjpdahdecehaaDoorW.PrintWords Go.Proofs.YtbcjpdahdecehaaDoorW.PrintLast
theorem FnSealOk : laws_FnSealOk.Pure := by
  intro l0 hlen hlen2 hwf
  by_cases hl : (l0.length : Int) > 1048576
  · exact ⟨0, by simp only [laws_FnSealOk.f]; rw [if_pos hl]⟩
  · obtain ⟨s, hs, ho⟩ := open_ev hwf
    obtain ⟨v, v0, v1, K9, h9⟩ := pick_ev hs (p := 0) (by omega) (by omega) (show (1 : Int) ≤ 5 by omega)
    obtain ⟨d, rfl⟩ : ∃ d : Nat, v = (d : Int) := ⟨v.toNat, by omega⟩
    have hd4 : d ≤ 4 := by omega
    have e3 : (2 : Int) ^ d ≤ 16 := by
      have := Nat.pow_le_pow_right (n := 2) (by omega) hd4
      have h2 : ((2 ^ d : Nat) : Int) = 2 ^ d := by simp
      omega
    obtain ⟨x, p, hw, _, _, K0, h0⟩ := seal_ev hs d (by omega) (0 + 1) (by omega) (by omega)
    have h9 : ∀ k, K9 ≤ k → spec_l6Rd_pick.f k s 0 5 = some ((d : Int), 0 + 1) := h9
    have h0 : ∀ k, K0 ≤ k → spec_l92Seal.f k s (0 + 1) d = some (x.f0, x.f1, x.f2, p) := h0
    obtain ⟨K1, h1⟩ := okImpl_ev hw
    obtain ⟨K2, h2⟩ := specOk_ev hw
    obtain ⟨K3, h3⟩ := implText_ev hw
    obtain ⟨K4, h4⟩ := implUnder_ev hw hw
    have h1 : ∀ k, K1 ≤ k → impl_SealOk.f k x.f0 x.f1 x.f2 = some (sealOk x) := h1
    have h2 : ∀ k, K2 ≤ k → spec_SealOk.f k x.f0 x.f1 x.f2 = some (sealOk x) := h2
    have h3 : ∀ k, K3 ≤ k → impl_SealText.f k x.f0 x.f1 x.f2 = some (if sealOk x = true then x.tx else ⟨#[]⟩) := h3
    have h4 : ∀ k, K4 ≤ k → impl_SealUnder.f k x.f0 x.f1 x.f2 x.f0 x.f1 x.f2 = some (sealOk x && (sealOk x && x.un x)) := h4
    refine ⟨K0 + K1 + K2 + K3 + K4 + K9, ?_⟩
    have hd : spec_DrawSealOk.f (K0 + K1 + K2 + K3 + K4 + K9) l0 = some (x.f0, x.f1, x.f2) := by
      unfold spec_DrawSealOk.f
      rw [ho, Option.bind_some, h9 _ (by omega), Option.bind_some, h0 _ (by omega), Option.bind_some]
    unfold laws_FnSealOk.f
    rw [if_neg hl, hd, Option.bind_some, h1 _ (by omega), Option.bind_some, h2 _ (by omega), Option.bind_some, if_neg (by simp), h3 _ (by omega), Option.bind_some, h4 _ (by omega), Option.bind_some]
    cases hc : sealOk x with
    | false =>
      have this : (ByteArray.toList ⟨#[]⟩ != ([] : List UInt8)) = false := by
        rw [ByteArray.toList_eq]
        rfl
      have e1 : (if (false = true) then x.tx else (⟨#[]⟩ : ByteArray)) = ⟨#[]⟩ := rfl
      rw [e1, this]
      rfl
    | true =>
      have e1 : (if (true = true) then x.tx else (⟨#[]⟩ : ByteArray)) = x.tx := rfl
      rw [e1, tx_ne (sealOk_t hw hc).1, un_self]
      rfl
end Go.Proofs.YtbcjpdahdecehaaDoor.Pure
