/- ClockSteps, ClockUrgent and the like of the program, in plain Lean. No condition. -/
import Derived.Test.YtnkgcjdlfenepaaP0
import Derived.Test.YtnkgcjdlfenepaaP2
import Derived.Test.YtnkgcjdlfenepaaHShape
import Derived.Test.YtnkgcjdlfenepaaClkEv
namespace Go.Proofs.Ytnkgcjdlfenepaa.P
open Go.RowKit Go.Proofs.YtnkgcjdlfenepaaW.PrintWords Go.Proofs.YtnkgcjdlfenepaaW.PrintLast Go.Proofs.YtnkgcjdlfenepaaW.PrintMore Go.Proofs.Ytnkgcjdlfenepaa.Any
set_option linter.unusedVariables false
set_option linter.unusedSimpArgs false
theorem okImpl_ev {x:S29} (h:W29 x):Ev (fun k=>impl_ClockOk.f k x.f0 x.f1 x.f2) (clockOk x):=by
 refine Ev.cb (implNodes_ev h 16 (by omega) (by omega)) (fun k hk=>by simp only [impl_ClockOk.f,hk,Option.bind_some]) (f:=fun k=>if min (x.nodes:Int) (16 + 1) ≤ 16 then ((impl_clockShape.f k x.f0 x.f1 x.f2).bind fun t=>some t) else some false) ?_
 by_cases hn:x.nodes ≤ 16
 ·refine Ev.cb (shape_ev h) (fun k hk=>?_) (Ev.to (Ev.now x.ok) (by simp [clockOk,hn]))
  simp only [hk,Option.bind_some]
  rw [if_pos (by omega)]
 ·refine Ev.cb (Ev.now ()) (fun k hk=>?_) (Ev.to (Ev.now false) (by simp [clockOk,hn]))
  rw [if_neg (by omega)]
theorem clockOk_t {x:S29} (h:W29 x) (hc:clockOk x = true):OkT x∧x.nodes ≤ 16:=by
 unfold clockOk at hc
 rw [Bool.and_eq_true,decide_eq_true_eq] at hc
 exact ⟨okT_of h hc.1,hc.2⟩
theorem W29.par {a b:Int} {x y:S29} (hx:W29 x) (hy:W29 y):W29 ⟨a,b,[x,y]⟩:=.mk _ _ _ (by simp) (by simpa using ⟨hx,hy⟩)
end Go.Proofs.Ytnkgcjdlfenepaa.P
