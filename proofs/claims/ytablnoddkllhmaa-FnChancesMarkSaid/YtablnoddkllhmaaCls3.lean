/- ChancesClasses of the program and of the reference: one and the same. Plain; no condition. -/
import Derived.Test.YtablnoddkllhmaaP0
import Derived.Test.YtablnoddkllhmaaP2
import Derived.Test.YtablnoddkllhmaaHClasses
import Derived.Test.YtablnoddkllhmaaCls2
namespace Go.Proofs.Ytablnoddkllhmaa.P
open Go.RowKit Go.Proofs.YtablnoddkllhmaaW.PrintWords Go.Proofs.YtablnoddkllhmaaW.PrintLast
set_option linter.unusedVariables false
set_option linter.unusedSimpArgs false
def clsP (m:List Int) (ws:List (List Int)):List Int:=if chOk m ws = true then classesP m ws else []
theorem implCls_ev (m:List Int) (ws:List (List Int)):Ev (fun k=>impl_ChancesClasses.f k m ws) (clsP m ws):=by
 cases h:chOk m ws with
 | false =>
  refine Ev.cb (f:=fun _=>some []) (impl_ok m ws) (fun k hk=>?_) (Ev.to (Ev.now _) (by simp [clsP,h]))
  simp only [impl_ChancesClasses.f]
  rw [hk,h]
  simp
 | true =>
  refine Ev.cb (f:=fun k=>(impl_chanceClasses.f k m ws).bind fun t=>some t) (impl_ok m ws) (fun k hk=>?_) (Ev.to (Ev.bind (implClasses_ev (chOk_good h)) (Ev.now _)) (by simp [clsP,h]))
  simp only [impl_ChancesClasses.f]
  rw [hk,h]
  simp
end Go.Proofs.Ytablnoddkllhmaa.P
