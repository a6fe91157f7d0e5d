/- A term with time is one just if time can be asked (P65). No condition. -/
import Derived.Test.YtnkgcjdlfenepaaP0
import Derived.Test.YtnkgcjdlfenepaaP1
import Derived.Test.YtnkgcjdlfenepaaP3
import Derived.Test.YtnkgcjdlfenepaaP4
import Derived.Test.YtnkgcjdlfenepaaClkOps
import Derived.Test.YtnkgcjdlfenepaaDrawClk
namespace Go.Proofs.Ytnkgcjdlfenepaa.Pure
open Go.RowKit Go.Proofs.Ytnkgcjdlfenepaa.P Go.Proofs.YtnkgcjdlfenepaaW.PrintWords Go.Proofs.YtnkgcjdlfenepaaW.PrintLast
theorem FnClockOk:laws_FnClockOk.Pure:=by
 intro l0 hlen hlen2 hwf
 by_cases hl:(l0.length:Int) > 1048576
 ·exact ⟨0,by simp only [laws_FnClockOk.f];rw [if_pos hl]⟩
 ·obtain ⟨s,hs,ho⟩:=open_ev hwf
  obtain ⟨x,p,hw,_,_,K0,h0⟩:=timed_ev hs (p:=0) (by omega) (by omega)
  have h0:∀ k,K0 ≤ k → spec_l92Timed.f k s 0 = some (x.f0,x.f1,x.f2,p):=h0
  obtain ⟨K1,h1⟩:=okImpl_ev hw
  obtain ⟨K2,h2⟩:=specOk_ev hw
  obtain ⟨K3,h3⟩:=steps_ev hw
  obtain ⟨K4,h4⟩:=urgent_ev hw
  have h1:∀ k,K1 ≤ k → impl_ClockOk.f k x.f0 x.f1 x.f2 = some (clockOk x):=h1
  have h2:∀ k,K2 ≤ k → spec_ClockOk.f k x.f0 x.f1 x.f2 = some (clockOk x):=h2
  have h3:∀ k,K3 ≤ k → impl_ClockSteps.f k x.f0 x.f1 x.f2 = some (if clockOk x = true then (x.tk,true) else ([],false)):=h3
  have h4:∀ k,K4 ≤ k → impl_ClockUrgent.f k x.f0 x.f1 x.f2 = some (if clockOk x = true then (urg 100 x:Int) else -1):=h4
  refine ⟨K0 + K1 + K2 + K3 + K4,?_⟩
  have hd:spec_DrawClockOk.f (K0 + K1 + K2 + K3 + K4) l0 = some (x.f0,x.f1,x.f2):=by
   unfold spec_DrawClockOk.f
   rw [ho,Option.bind_some,h0 _ (by omega),Option.bind_some]
  unfold laws_FnClockOk.f
  rw [if_neg hl,hd,Option.bind_some,h1 _ (by omega),Option.bind_some,h2 _ (by omega),Option.bind_some,if_neg (by simp),h3 _ (by omega),Option.bind_some,h4 _ (by omega),Option.bind_some]
  cases hc:clockOk x with
  | false=>rfl
  | true =>
   rw [if_pos rfl,if_pos rfl,if_pos (by simp)]
   rfl
end Go.Proofs.Ytnkgcjdlfenepaa.Pure
