/- What is alike goes on in the same way (P92). No condition. -/
import Derived.Test.YtablnoddkllhmaaP0
import Derived.Test.YtablnoddkllhmaaP1
import Derived.Test.YtablnoddkllhmaaP2
import Derived.Test.YtablnoddkllhmaaP3
import Derived.Test.YtablnoddkllhmaaHDraw
import Derived.Test.YtablnoddkllhmaaDrawCh
import Derived.Test.YtablnoddkllhmaaMn
import Derived.Test.YtablnoddkllhmaaChLumpA
import Derived.Test.YtablnoddkllhmaaCls3
namespace Go.Proofs.Ytablnoddkllhmaa.P
open Go.RowKit Go.Proofs.YtablnoddkllhmaaW.PrintWords Go.Proofs.YtablnoddkllhmaaW.PrintLast
set_option linter.unusedVariables false
set_option linter.unusedSimpArgs false
section
variable {m : List Int} {ws : List (List Int)} {cl : List Int} {n : Nat} (hch : Chain m ws n) (hl : Lump m ws cl n)
include hch hl
theorem lawC_l2 {s q tw : Nat} (hs : s < n) (hq : q < n) (hsq : rd cl s = (q : Int)) (hqq : rd cl q = (q : Int)) (hto : tw < n)
    (hend : Ev (fun k => laws_FnChancesClasses.l1 k cl s q ((tw + 1 : Nat) : Int) m ws) true) (d : Nat) : ∀ (t : Nat) (a b : Int), t + d = n → intoA cl (rd_L1 ws s) tw d t a = intoP ws cl s tw → intoA cl (rd_L1 ws q) tw d t b = intoP ws cl q tw →
    Ev (fun k => laws_FnChancesClasses.l2 k cl s q tw a b t m ws) true := by
  have h1 := hch.rows.le
  have h2 := hch.rows.len
  have h3 := hch.rows.row s hs
  have h4 := hch.rows.row q hq
  have h5 := hl.len
  induction d with
  | zero =>
    intro t a b ht ha hb
    rw [intoA] at ha hb
    have he : a = b := by rw [ha, hb]; exact hl.into hch.rows hs hq (hsq.trans hqq.symm) (by omega)
    refine Ev.step (fun k => ?_) hend
    simp only [laws_FnChancesClasses.l2]
    rw [if_neg (by omega), if_pos he, wrap_succ (show tw < n by omega) (by omega)]
  | succ d ih =>
    intro t a b ht ha hb
    rw [intoA] at ha hb
    by_cases hc : rd cl t = (tw : Int)
    · rw [if_pos hc] at ha hb
      refine Ev.step (fun k => ?_) (ih (t + 1) _ _ (by omega) ha hb)
      simp only [laws_FnChancesClasses.l2]
      rw [if_pos (by omega), if_pos (by omega), if_pos hc, if_pos (by omega), if_pos (by omega), if_pos (by omega), if_pos (by omega), if_pos (by omega), if_pos (by omega), wrap_succ (show t < n by omega) (by omega)]
    · rw [if_neg hc] at ha hb
      refine Ev.step (fun k => ?_) (ih (t + 1) _ _ (by omega) ha hb)
      simp only [laws_FnChancesClasses.l2]
      rw [if_pos (by omega), if_pos (by omega), if_neg hc, wrap_succ (show t < n by omega) (by omega)]
theorem lawC_l1 {s q : Nat} (hs : s < n) (hq : q < n) (hsq : rd cl s = (q : Int)) (hqq : rd cl q = (q : Int)) (hend : Ev (fun k => laws_FnChancesClasses.l0 k cl ((s + 1 : Nat) : Int) m ws) true) (d : Nat) : ∀ tw : Nat, tw + d = n →
    Ev (fun k => laws_FnChancesClasses.l1 k cl s q tw m ws) true := by
  have h1 := hch.rows.le
  have h5 := hl.len
  induction d with
  | zero =>
    intro tw ht
    refine Ev.step (fun k => ?_) hend
    simp only [laws_FnChancesClasses.l1]
    rw [if_neg (by omega), wrap_succ (show s < n by omega) (by omega)]
  | succ d ih =>
    intro tw ht
    refine Ev.step (fun k => ?_) (lawC_l2 hch hl hs hq hsq hqq (show tw < n by omega) (ih (tw + 1) (by omega)) n 0 0 0 (by omega) (by rw [intoP, h5]) (by rw [intoP, h5]))
    simp only [laws_FnChancesClasses.l1]
    rw [if_pos (by omega)]
    rfl
theorem lawC_l0 (d : Nat) : ∀ s : Nat, s + d = n → Ev (fun k => laws_FnChancesClasses.l0 k cl s m ws) true := by
  have h1 := hch.rows.le
  have h5 := hl.len
  have h6 := hch.ml
  induction d with
  | zero =>
    intro s hs
    refine Ev.step (f := fun _ => some true) (fun k => ?_) (Ev.now _)
    simp only [laws_FnChancesClasses.l0]
    rw [if_neg (by omega)]
  | succ d ih =>
    intro s hs
    obtain ⟨q, hq, hsq, hqq⟩ := hl.rep (show s < n by omega)
    have hle := hl.low s (by omega)
    have hm := hl.mark s q (by omega) hq (hsq.trans hqq.symm)
    refine Ev.step (f := fun k => laws_FnChancesClasses.j1 k cl s q false m ws) (fun k => ?_) (Ev.step (fun k => ?_) (lawC_l1 hch hl (show s < n by omega) hq hsq hqq (ih (s + 1) (by omega)) n 0 (by omega)))
    · simp only [laws_FnChancesClasses.l0]
      rw [if_pos (by omega), if_pos (by omega), if_pos (by omega), hsq, if_pos (by omega), if_pos (by omega), if_pos hm, if_pos (by omega), if_pos hqq, show decide ((q : Int) > (s : Int)) = false from decide_eq_false (by omega)]
    · simp only [laws_FnChancesClasses.j1]
      rw [if_neg (by simp)]
      rfl
end
end Go.Proofs.Ytablnoddkllhmaa.P
namespace Go.Proofs.Ytablnoddkllhmaa.Pure
open Go.RowKit Go.Proofs.Ytablnoddkllhmaa.P Go.Proofs.YtablnoddkllhmaaW.PrintWords Go.Proofs.YtablnoddkllhmaaW.PrintLast
theorem FnChancesClasses : laws_FnChancesClasses.Pure := by
  intro l0 hlen hlen2 hwf
  by_cases hl : (l0.length : Int) > 1048576
  · exact ⟨0, by simp only [laws_FnChancesClasses.f]; rw [if_pos hl]⟩
  · obtain ⟨s, hs, ho⟩ := open_ev hwf
    obtain ⟨m, ws, p, hsm, _, _, K0, h0⟩ := drawCh_ev hs
    have h0 : ∀ k, K0 ≤ k → spec_l92Chances.f k s 0 = some (m, ws, p) := h0
    obtain ⟨K1, h1⟩ := implCls_ev m ws
    obtain ⟨K2, h2⟩ := specCls_ev m ws
    have h1 : ∀ k, K1 ≤ k → impl_ChancesClasses.f k m ws = some (clsP m ws) := h1
    have h2 : ∀ k, K2 ≤ k → spec_ChancesClasses.f k m ws = some (clsP m ws) := h2
    have hxl := clsP_length m ws
    obtain ⟨K3, h3⟩ := mnInts_ev (clsP m ws) (by omega)
    have h3 : ∀ k, K3 ≤ k → laws_mnInts.f k (clsP m ws) (clsP m ws) = some true := h3
    have h4 : Ev (fun k => laws_FnChancesClasses.l0 k (clsP m ws) 0 m ws) true := by
      cases hh : chOk m ws with
      | false =>
        refine Ev.step (f := fun _ => some true) (fun k => ?_) (Ev.now _)
        simp only [laws_FnChancesClasses.l0]
        rw [if_neg (by simp [clsP, hh])]
      | true =>
        have := lawC_l0 (chain_of hh) (classesP_lump m ws) m.length 0 (by omega)
        simpa [clsP, hh] using this
    obtain ⟨K4, h4⟩ := h4
    have h4 : ∀ k, K4 ≤ k → laws_FnChancesClasses.l0 k (clsP m ws) 0 m ws = some true := h4
    refine ⟨K0 + K1 + K2 + K3 + K4, ?_⟩
    have hd : spec_DrawChancesClasses.f (K0 + K1 + K2 + K3 + K4) l0 = some (m, ws) := by
      unfold spec_DrawChancesClasses.f
      rw [ho, Option.bind_some, h0 _ (by omega), Option.bind_some]
    unfold laws_FnChancesClasses.f
    rw [if_neg hl, hd, Option.bind_some, h1 _ (by omega), Option.bind_some, h2 _ (by omega), Option.bind_some, h3 _ (by omega), Option.bind_some, if_pos rfl]
    exact h4 _ (by omega)
end Go.Proofs.Ytablnoddkllhmaa.Pure
