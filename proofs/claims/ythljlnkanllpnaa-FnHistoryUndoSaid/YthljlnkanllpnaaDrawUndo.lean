/- What is drawn for undoing: small. Plain; no condition. -/
import Derived.Test.YthljlnkanllpnaaP0
import Derived.Test.YthljlnkanllpnaaP1
import Derived.Test.YthljlnkanllpnaaP2
import Derived.Test.YthljlnkanllpnaaHistD
namespace Go.Proofs.Ythljlnkanllpnaa.P
open Go.RowKit Go.Proofs.YthljlnkanllpnaaW.PrintWords Go.Proofs.YthljlnkanllpnaaW.PrintLast
set_option linter.unusedVariables false
set_option linter.unusedSimpArgs false
theorem drawUndo_ev {s : List Int} (hs : Src s) {l0 : List Int} (ho : spec_l6Open.f l0 = some (s, 0)) : ∃ th h i, SmallTh th ∧ h.length ≤ 20 ∧ Ev (fun k => spec_DrawHistoryUndo.f k l0) (th, h, i) := by
  obtain ⟨th, p, hth, p0, p1, ht⟩ := drawThreads_ev hs (show (0 : Int) ≤ 0 by omega) (by omega)
  obtain ⟨h, q, hh, q0, q1, hd⟩ := drawHistory_ev hs hth (show 0 ≤ p by omega) (by omega)
  have w2 : wrap64 ((h.length : Int) + 2) = (h.length : Int) + 2 := wrap_id (by omega) (by omega)
  obtain ⟨v, v0, v1, hv⟩ := pick_ev hs (show 0 ≤ q by omega) (by omega) (show (1 : Int) ≤ (h.length : Int) + 2 by omega)
  by_cases hz : (h.length : Int) > 0
  · obtain ⟨u, u0, u1, hu⟩ := pick_ev hs (show 0 ≤ q + 1 by omega) (by omega) (show (1 : Int) ≤ 2 by omega)
    by_cases hu0 : u = 0
    · obtain ⟨t, t0, t1, ht2⟩ := pick_ev hs (show 0 ≤ q + 1 + 1 by omega) (by omega) (show (1 : Int) ≤ mn (h.length : Int) 3 by unfold mn; split <;> omega)
      obtain ⟨K0, h0⟩ := ht
      have h0 : ∀ k, K0 ≤ k → spec_l92Threads.f k s 0 = some (th, p) := h0
      obtain ⟨K1, h1⟩ := hd
      have h1 : ∀ k, K1 ≤ k → spec_l92History.f k s p th = some (h, q) := h1
      obtain ⟨K2, h2⟩ := hv
      have h2 : ∀ k, K2 ≤ k → spec_l6Rd_pick.f k s q ((h.length : Int) + 2) = some (v, q + 1) := h2
      obtain ⟨K3, h3⟩ := hu
      have h3 : ∀ k, K3 ≤ k → spec_l6Rd_pick.f k s (q + 1) 2 = some (u, q + 1 + 1) := h3
      obtain ⟨K4, h4⟩ := ht2
      have h4 : ∀ k, K4 ≤ k → spec_l6Rd_pick.f k s (q + 1 + 1) (mn (h.length : Int) 3) = some (t, q + 1 + 1 + 1) := h4
      refine ⟨th, h, wrap64 ((wrap64 ((h.length : Int) - 1)) - t), hth, hh, K0 + K1 + K2 + K3 + K4, fun k hk => ?_⟩
      show spec_DrawHistoryUndo.f k l0 = _
      unfold spec_DrawHistoryUndo.f
      rw [ho, Option.bind_some, h0 k (by omega), Option.bind_some, h1 k (by omega), Option.bind_some, w2, h2 k (by omega), Option.bind_some, if_pos hz, h3 k (by omega), Option.bind_some, if_pos hu0, h4 k (by omega), Option.bind_some]
    · obtain ⟨K0, h0⟩ := ht
      have h0 : ∀ k, K0 ≤ k → spec_l92Threads.f k s 0 = some (th, p) := h0
      obtain ⟨K1, h1⟩ := hd
      have h1 : ∀ k, K1 ≤ k → spec_l92History.f k s p th = some (h, q) := h1
      obtain ⟨K2, h2⟩ := hv
      have h2 : ∀ k, K2 ≤ k → spec_l6Rd_pick.f k s q ((h.length : Int) + 2) = some (v, q + 1) := h2
      obtain ⟨K3, h3⟩ := hu
      have h3 : ∀ k, K3 ≤ k → spec_l6Rd_pick.f k s (q + 1) 2 = some (u, q + 1 + 1) := h3
      refine ⟨th, h, wrap64 (v - 1), hth, hh, K0 + K1 + K2 + K3, fun k hk => ?_⟩
      show spec_DrawHistoryUndo.f k l0 = _
      unfold spec_DrawHistoryUndo.f
      rw [ho, Option.bind_some, h0 k (by omega), Option.bind_some, h1 k (by omega), Option.bind_some, w2, h2 k (by omega), Option.bind_some, if_pos hz, h3 k (by omega), Option.bind_some, if_neg hu0]
  · obtain ⟨K0, h0⟩ := ht
    have h0 : ∀ k, K0 ≤ k → spec_l92Threads.f k s 0 = some (th, p) := h0
    obtain ⟨K1, h1⟩ := hd
    have h1 : ∀ k, K1 ≤ k → spec_l92History.f k s p th = some (h, q) := h1
    obtain ⟨K2, h2⟩ := hv
    have h2 : ∀ k, K2 ≤ k → spec_l6Rd_pick.f k s q ((h.length : Int) + 2) = some (v, q + 1) := h2
    refine ⟨th, h, wrap64 (v - 1), hth, hh, K0 + K1 + K2, fun k hk => ?_⟩
    show spec_DrawHistoryUndo.f k l0 = _
    unfold spec_DrawHistoryUndo.f
    rw [ho, Option.bind_some, h0 k (by omega), Option.bind_some, h1 k (by omega), Option.bind_some, w2, h2 k (by omega), Option.bind_some, if_neg hz]
end Go.Proofs.Ythljlnkanllpnaa.P
