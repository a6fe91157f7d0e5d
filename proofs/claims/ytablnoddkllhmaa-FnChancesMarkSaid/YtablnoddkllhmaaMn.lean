/- mnInts of equal lists. Plain; no condition. -/
import Derived.Test.YtablnoddkllhmaaP0
import Derived.Test.YtablnoddkllhmaaP1
import Derived.Test.YtablnoddkllhmaaChRows
namespace Go.Proofs.Ytablnoddkllhmaa.P
open Go.RowKit Go.Proofs.YtablnoddkllhmaaW.PrintWords Go.Proofs.YtablnoddkllhmaaW.PrintLast
set_option linter.unusedVariables false
set_option linter.unusedSimpArgs false
theorem mnInts_l0 (xs:List Int) (hn:xs.length ≤ 1048576) (d:Nat):∀ i:Nat,i + d = xs.length → Ev (fun k=>laws_mnInts.l0 k xs xs i) true:=by
 induction d with
 | zero =>
  intro i hi
  refine Ev.step (f:=fun _=>some true) (fun k=>?_) (Ev.now _)
  simp only [laws_mnInts.l0]
  rw [if_neg (by omega)]
 | succ d ih =>
  intro i hi
  refine Ev.step (fun k=>?_) (ih (i + 1) (by omega))
  simp only [laws_mnInts.l0]
  rw [if_pos (by omega),if_pos (by omega),if_pos trivial,wrap_succ (show i < xs.length by omega) (by omega)]
  rw [if_pos (by omega)]
theorem mnInts_ev (xs:List Int) (hn:xs.length ≤ 1048576):Ev (fun k=>laws_mnInts.f k xs xs) true:=by
 refine Ev.congr (fun k=>?_) (mnInts_l0 xs hn xs.length 0 (by omega))
 simp only [laws_mnInts.f]
 rw [if_pos trivial]
 rfl
end Go.Proofs.Ytablnoddkllhmaa.P
