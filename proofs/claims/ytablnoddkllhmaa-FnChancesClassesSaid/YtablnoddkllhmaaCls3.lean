/- ChancesClasses of the program and of the reference: one and the same. Plain; no condition. -/
import Derived.Test.YtablnoddkllhmaaP0
import Derived.Test.YtablnoddkllhmaaP2
import Derived.Test.YtablnoddkllhmaaHClasses
import Derived.Test.YtablnoddkllhmaaCls2
namespace Go.Proofs.Ytablnoddkllhmaa.P
open Go.RowKit Go.Proofs.YtablnoddkllhmaaW.PrintWords Go.Proofs.YtablnoddkllhmaaW.PrintLast
set_option linter.unusedVariables false
set_option linter.unusedSimpArgs false
def clsP (m : List Int) (ws : List (List Int)) : List Int := if chOk m ws = true then classesP m ws else []
theorem implCls_ev (m : List Int) (ws : List (List Int)) : Ev (fun k => impl_ChancesClasses.f k m ws) (clsP m ws) := by
  cases h : chOk m ws with
  | false =>
    refine Ev.cb (f := fun _ => some []) (impl_ok m ws) (fun k hk => ?_) (Ev.to (Ev.now _) (by simp [clsP, h]))
    simp only [impl_ChancesClasses.f]
    rw [hk, h]
    simp
  | true =>
    refine Ev.cb (f := fun k => (impl_chanceClasses.f k m ws).bind fun t => some t) (impl_ok m ws) (fun k hk => ?_) (Ev.to (Ev.bind (implClasses_ev (chOk_good h)) (Ev.now _)) (by simp [clsP, h]))
    simp only [impl_ChancesClasses.f]
    rw [hk, h]
    simp
theorem specCls_ev (m : List Int) (ws : List (List Int)) : Ev (fun k => spec_ChancesClasses.f k m ws) (clsP m ws) := by
  cases h : chOk m ws with
  | false =>
    refine Ev.cb (f := fun _ => some []) (spec_ok m ws) (fun k hk => ?_) (Ev.to (Ev.now _) (by simp [clsP, h]))
    simp only [spec_ChancesClasses.f]
    rw [hk, h]
    simp
  | true =>
    refine Ev.cb (f := fun k => (spec_l18Classes.f k m ws).bind fun t => some t) (spec_ok m ws) (fun k hk => ?_) (Ev.to (Ev.bind (specClasses_ev (chOk_rows h).1) (Ev.now _)) (by simp [clsP, h]))
    simp only [spec_ChancesClasses.f]
    rw [hk, h]
    simp
theorem clsP_length (m : List Int) (ws : List (List Int)) : (clsP m ws).length ≤ 60 := by
  unfold clsP
  by_cases h : chOk m ws = true
  · rw [if_pos h, (classesP_canon m ws).len]; exact (chOk_rows h).1.le
  · rw [if_neg h]; simp
end Go.Proofs.Ytablnoddkllhmaa.P
