/- Being a history: what the program and the reference compute: one and the same. Plain; no condition but sizes. -/
import Derived.Test.YthljlnkanllpnaaP0
import Derived.Test.YthljlnkanllpnaaP1
import Derived.Test.YthljlnkanllpnaaP3
import Derived.Test.YthljlnkanllpnaaHistB
namespace Go.Proofs.Ythljlnkanllpnaa.P
open Go.RowKit Go.Proofs.YthljlnkanllpnaaW.PrintWords Go.Proofs.YthljlnkanllpnaaW.PrintLast Go.Proofs.YthljlnkanllpnaaW.PrintMore Go.Proofs.Ythljlnkanllpnaa.Any
set_option linter.unusedVariables false
set_option linter.unusedSimpArgs false
variable {th:List (List Int)} {g h:List S32}
def okH (th:List (List Int)) (h:List S32):Bool:=(histAt th h).2
theorem specOkH_ev (hs:SmallTh th) (hh:h.length ≤ 1048576):Ev (fun k=>spec_HistoryOk.f k th h) (okH th h) :=
 Ev.cb (specAt_ev hs hh) (fun k hk=>by simp only [spec_HistoryOk.f,hk,Option.bind_some];rfl) (Ev.now _)
theorem implOkH_ev (hs:SmallTh th) (hh:h.length ≤ 1048576):Ev (fun k=>impl_HistoryOk.f k th h) (okH th h) :=
 Ev.cb (implAt_ev hs hh) (fun k hk=>by simp only [impl_HistoryOk.f,hk,Option.bind_some];rfl) (Ev.now _)
end Go.Proofs.Ythljlnkanllpnaa.P
