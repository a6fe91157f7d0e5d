/- A text is made of those of the parts (P100). No condition. -/
import Derived.Test.YtbcjpdahdecehaaDoorP1
import Derived.Test.YtbcjpdahdecehaaDoorP5
import Derived.Test.YtbcjpdahdecehaaDoorP6
import Derived.Test.YtbcjpdahdecehaaDoorP14
import Derived.Test.YtbcjpdahdecehaaDoorP29
import Derived.Test.YtbcjpdahdecehaaDoorP32
import Derived.Test.YtbcjpdahdecehaaDoorExTx
import Derived.Test.YtbcjpdahdecehaaDoorDrawSl
import Derived.Test.YtbcjpdahdecehaaDoorHDrawT
namespace Go.Proofs.YtbcjpdahdecehaaDoor.Pure
open Go.RowKit Go.Proofs.YtbcjpdahdecehaaDoor.P Go.Proofs.YtbcjpdahdecehaaDoorW.PrintWords Go.Proofs.YtbcjpdahdecehaaDoorW.PrintLast
set_option linter.unusedSimpArgs false
theorem ok_two {a : Int} (ha : a = 1 ∨ a = 2) (x : S25) : (S25.mk a 0 [x, x]).ok = x.ok := by
  rcases ha with rfl | rfl <;> simp [S25.ok, okL, okHead]
theorem W_two {a : Int} {x : S25} (hx : W25 x) : W25 ⟨a, 0, [x, x]⟩ := .mk _ _ _ (by simp) (by simpa using hx)
theorem sealOk_two {a : Int} (ha : a = 1 ∨ a = 2) (x : S25) : sealOk ⟨a, 0, [x, x]⟩ = (x.ok && decide (1 + (x.nodes + x.nodes) ≤ 12)) := by
  unfold sealOk
  rw [ok_two ha, nodes2]
theorem FnSealText : laws_FnSealText.Pure := by
  intro l0 hlen hlen2 hwf
  by_cases hl : (l0.length : Int) > 1048576
  · exact ⟨0, by simp only [laws_FnSealText.f]; rw [if_pos hl]⟩
  · obtain ⟨s, hs, ho⟩ := open_ev hwf
    obtain ⟨v, v0, v1, K9, h9⟩ := pick_ev hs (p := 0) (by omega) (by omega) (show (1 : Int) ≤ 4 by omega)
    obtain ⟨d, rfl⟩ : ∃ d : Nat, v = (d : Int) := ⟨v.toNat, by omega⟩
    have hd4 : d ≤ 4 := by omega
    have e3 : (2 : Int) ^ d ≤ 16 := by
      have := Nat.pow_le_pow_right (n := 2) (by omega) hd4
      have h2 : ((2 ^ d : Nat) : Int) = 2 ^ d := by simp
      omega
    obtain ⟨x, p, hw, _, _, K0, h0⟩ := seal_ev hs d (by omega) (0 + 1) (by omega) (by omega)
    have h9 : ∀ k, K9 ≤ k → spec_l6Rd_pick.f k s 0 4 = some ((d : Int), 0 + 1) := h9
    have h0 : ∀ k, K0 ≤ k → spec_l92Seal.f k s (0 + 1) d = some (x.f0, x.f1, x.f2, p) := h0
    obtain ⟨K1, h1⟩ := implText_ev hw
    obtain ⟨K2, h2⟩ := specText_ev hw
    obtain ⟨K3, h3⟩ := okImpl_ev (W_two (a := 1) hw)
    obtain ⟨K4, h4⟩ := implText_ev (W_two (a := 1) hw)
    obtain ⟨K5, h5⟩ := implText_ev (W_two (a := 2) hw)
    have h1 : ∀ k, K1 ≤ k → impl_SealText.f k x.f0 x.f1 x.f2 = some (if sealOk x = true then x.tx else ⟨#[]⟩) := h1
    have h2 : ∀ k, K2 ≤ k → spec_SealText.f k x.f0 x.f1 x.f2 = some (if sealOk x = true then x.tx else ⟨#[]⟩) := h2
    have h3 : ∀ k, K3 ≤ k → impl_SealOk.f k 1 0 [x, x] = some (sealOk ⟨1, 0, [x, x]⟩) := h3
    have h4 : ∀ k, K4 ≤ k → impl_SealText.f k 1 0 [x, x] = some (if sealOk ⟨1, 0, [x, x]⟩ = true then (S25.mk 1 0 [x, x]).tx else ⟨#[]⟩) := h4
    have h5 : ∀ k, K5 ≤ k → impl_SealText.f k 2 0 [x, x] = some (if sealOk ⟨2, 0, [x, x]⟩ = true then (S25.mk 2 0 [x, x]).tx else ⟨#[]⟩) := h5
    refine ⟨K0 + K1 + K2 + K3 + K4 + K5 + K9, ?_⟩
    have hd : spec_DrawSealText.f (K0 + K1 + K2 + K3 + K4 + K5 + K9) l0 = some (x.f0, x.f1, x.f2) := by
      unfold spec_DrawSealText.f
      rw [ho, Option.bind_some, h9 _ (by omega), Option.bind_some, h0 _ (by omega), Option.bind_some]
    unfold laws_FnSealText.f
    rw [if_neg hl, hd, Option.bind_some, h1 _ (by omega), Option.bind_some, h2 _ (by omega), Option.bind_some, if_pos rfl, Option.bind_some]
    simp only [eta25]
    rw [h3 _ (by omega), Option.bind_some, h4 _ (by omega), h5 _ (by omega)]
    have e1 := sealOk_two (.inl rfl : (1 : Int) = 1 ∨ (1 : Int) = 2) x
    have e2 := sealOk_two (.inr rfl : (2 : Int) = 1 ∨ (2 : Int) = 2) x
    cases hc : (x.ok && decide (1 + (x.nodes + x.nodes) ≤ 12)) with
    | false =>
      rw [e1, hc, if_neg (by simp)]
    | true =>
      rw [e1, e2, hc]
      rw [Bool.and_eq_true, decide_eq_true_eq] at hc
      have ht := okT_of hw hc.1
      have hk : sealOk x = true := by
        unfold sealOk
        rw [hc.1, decide_eq_true (by omega)]
        rfl
      have hz := (tx_size ht).2
      rw [if_pos rfl, hk]
      simp only [if_true]
      rw [Option.bind_some, if_pos (by omega), if_pos (by simp only [ByteArray.size_append, z40]; omega), if_pos (by simp only [ByteArray.size_append, z40, z32]; omega), if_pos (by simp only [ByteArray.size_append, z40, z32]; omega), tx_pair, if_pos rfl, Option.bind_some, if_pos (by simp only [ByteArray.size_append, z123]; omega), if_pos (by simp only [ByteArray.size_append, z123, z125]; omega), tx_shut]
      simp
end Go.Proofs.YtbcjpdahdecehaaDoor.Pure
