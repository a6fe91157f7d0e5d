/- What is drawn for messages. Plain; no condition. -/
import Derived.Test.YtbcjpdahdecehaaDoorP5
import Derived.Test.YtbcjpdahdecehaaDoorP6
import Derived.Test.YtbcjpdahdecehaaDoorPick
namespace Go.Proofs.YtbcjpdahdecehaaDoor.P
open Go.RowKit Go.Proofs.YtbcjpdahdecehaaDoorW.PrintWords Go.Proofs.YtbcjpdahdecehaaDoorW.PrintLast
set_option linter.unusedVariables false
set_option linter.unusedSimpArgs false
theorem u8_wf {x : Int} (h : (Lit.int .u8 x).wf = true) : 0 ≤ x ∧ x < 256 := by
  simp [Lit.wf] at h
  have h1 : IntKind.u8.min = 0 := by decide
  have h2 : IntKind.u8.max = 255 := by decide
  omega
theorem open_ev {l : List Int} (hb : ∀ x, x ∈ l → (Lit.int .u8 x).wf = true) : ∃ s, Src s ∧ spec_l6Open.f l = some (s, 0) := by
  by_cases h : (l.length : Int) > 2000
  · refine ⟨l.take 2000, ⟨fun x hx => u8_wf (hb x (List.mem_of_mem_take hx)), by rw [List.length_take]; omega⟩, ?_⟩
    simp only [spec_l6Open.f]
    rw [if_pos h, if_pos (by omega)]
  · refine ⟨l, ⟨fun x hx => u8_wf (hb x hx), by omega⟩, ?_⟩
    simp only [spec_l6Open.f]
    rw [if_neg h]

theorem W25.two {a b : Int} {x y : S25} (hx : W25 x) (hy : W25 y) : W25 ⟨a, b, [⟨x.f0, x.f1, x.f2⟩, ⟨y.f0, y.f1, y.f2⟩]⟩ := .mk _ _ _ (by simp) (by
  rw [eta25, eta25]
  simpa using ⟨hx, hy⟩)
set_option linter.unusedSectionVars false
section
variable {s : List Int} (hs : Src s)
include hs
theorem leaf_ev {p : Int} (a1 : Int) (hp : 0 ≤ p) (hp2 : p ≤ 1000000) : ∃ (x : S25) (p' : Int), W25 x ∧ p ≤ p' ∧ p' ≤ p + 2 ∧ Ev (fun k => spec_l92Seal.j0 k a1 true s p) (x.f0, x.f1, x.f2, p') := by
  obtain ⟨v, v0, v1, K1, hv⟩ := pick_ev hs hp (by omega) (show (1 : Int) ≤ 40 by omega)
  by_cases c : v = 0
  · refine ⟨⟨0, 10, []⟩, p + 1, .mk _ _ _ (by simp) (by simp), by omega, by omega, K1 + 1, fun k hk => ?_⟩
    obtain ⟨k, rfl⟩ : ∃ m, k = m + 1 := ⟨k - 1, by omega⟩
    have h1 := hv k (by omega)
    dsimp only at h1
    simp only [spec_l92Seal.j0]
    rw [if_pos (by trivial), h1, Option.bind_some, if_pos c]
  · obtain ⟨u, u0, u1, K2, hu⟩ := pick_ev hs (p := p + 1) (by omega) (by omega) (show (1 : Int) ≤ 4 by omega)
    refine ⟨⟨0, u, []⟩, p + 1 + 1, .mk _ _ _ (by simp) (by simp), by omega, by omega, K1 + K2 + 1, fun k hk => ?_⟩
    obtain ⟨k, rfl⟩ : ∃ m, k = m + 1 := ⟨k - 1, by omega⟩
    have h1 := hv k (by omega)
    have h2 := hu k (by omega)
    dsimp only at h1 h2
    simp only [spec_l92Seal.j0]
    rw [if_pos (by trivial), h1, Option.bind_some, if_neg c, h2, Option.bind_some]
theorem seal_ev : ∀ (d : Nat), d ≤ 10 → ∀ p : Int, 0 ≤ p → p + 10 * 2 ^ d ≤ 100000 → ∃ (x : S25) (p' : Int), W25 x ∧ p ≤ p' ∧ p' + 5 ≤ p + 10 * 2 ^ d ∧ Ev (fun k => spec_l92Seal.f k s p d) (x.f0, x.f1, x.f2, p') := by
  intro d
  induction d with
  | zero =>
    intro _ p hp hp2
    obtain ⟨x, p', hx, a1, a2, K1, h1⟩ := leaf_ev hs (p := p) ((0 : Nat) : Int) hp (by simp at hp2; omega)
    refine ⟨x, p', hx, a1, by simp; omega, K1 + 1, fun k hk => ?_⟩
    obtain ⟨k, rfl⟩ : ∃ m, k = m + 1 := ⟨k - 1, by omega⟩
    have h2 := h1 k (by omega)
    dsimp only at h2
    simp only [spec_l92Seal.f]
    rw [if_pos (by omega), h2]
  | succ d ih =>
    intro hd p hp hp2
    have e2 : (2 : Int) ^ (d + 1) = 2 * 2 ^ d := by rw [Int.pow_succ]; omega
    have e3 : (1 : Int) ≤ 2 ^ d := by
      have := Nat.one_le_two_pow (n := d)
      have h2 : ((2 ^ d : Nat) : Int) = 2 ^ d := by simp
      omega
    rw [e2] at hp2
    have ew : wrap64 (((d + 1 : Nat) : Int) - 1) = (d : Int) := by rw [wrap_id (by omega) (by omega)]; omega
    have en : ¬ (((d + 1 : Nat) : Int) = 0) := by omega
    rw [e2]
    generalize hg : (2 : Int) ^ d = g at *
    obtain ⟨v, v0, v1, K1, hv⟩ := pick_ev hs hp (by omega) (show (1 : Int) ≤ 3 by omega)
    by_cases c : v = 0
    · obtain ⟨x, p', hx, a1, a2, K2, h2⟩ := leaf_ev hs (p := p + 1) ((d + 1 : Nat) : Int) (by omega) (by omega)
      refine ⟨x, p', hx, by omega, by omega, K1 + K2 + 1, fun k hk => ?_⟩
      obtain ⟨k, rfl⟩ : ∃ m, k = m + 1 := ⟨k - 1, by omega⟩
      have b1 := hv k (by omega)
      have b2 := h2 k (by omega)
      dsimp only at b1 b2
      simp only [spec_l92Seal.f]
      rw [if_neg en, b1, Option.bind_some, show (v == 0) = true by simpa using c, b2]
    · obtain ⟨x, p1, hx, a1, a2, K2, h2⟩ := ih (by omega) (p + 1) (by omega) (by omega)
      obtain ⟨u, u0, u1, K3, h3⟩ := pick_ev hs (p := p1) (by omega) (by omega) (show (1 : Int) ≤ 2 by omega)
      obtain ⟨y, p2, hy, b1, b2, K4, h4⟩ := ih (by omega) (p1 + 1) (by omega) (by omega)
      refine ⟨⟨wrap64 (1 + u), 0, [⟨x.f0, x.f1, x.f2⟩, ⟨y.f0, y.f1, y.f2⟩]⟩, p2, hx.two hy, by omega, by omega, K1 + K2 + K3 + K4 + 2, fun k hk => ?_⟩
      obtain ⟨k, rfl⟩ : ∃ m, k = m + 2 := ⟨k - 2, by omega⟩
      have d1 := hv (k + 1) (by omega)
      have d2 := h2 k (by omega)
      have d3 := h3 k (by omega)
      have d4 := h4 k (by omega)
      dsimp only at d1 d2 d3 d4
      show spec_l92Seal.f (k + 1 + 1) s p ((d + 1 : Nat) : Int) = _
      rw [spec_l92Seal.f, if_neg en, d1, Option.bind_some, show (v == 0) = false by simpa using c, spec_l92Seal.j0, if_neg (by simp), ew, d2, Option.bind_some, d3, Option.bind_some, d4, Option.bind_some]
end
end Go.Proofs.YtbcjpdahdecehaaDoor.P
