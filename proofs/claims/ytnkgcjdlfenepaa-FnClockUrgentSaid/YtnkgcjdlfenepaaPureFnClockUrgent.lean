/- So much time can pass, and no more: the plain law. No condition. -/
import Derived.Test.YtnkgcjdlfenepaaP0
import Derived.Test.YtnkgcjdlfenepaaP2
import Derived.Test.YtnkgcjdlfenepaaP4
import Derived.Test.YtnkgcjdlfenepaaClkLat
import Derived.Test.YtnkgcjdlfenepaaDrawClk
namespace Go.Proofs.Ytnkgcjdlfenepaa.Pure
open Go.RowKit Go.Proofs.Ytnkgcjdlfenepaa.P Go.Proofs.YtnkgcjdlfenepaaW.PrintWords Go.Proofs.YtnkgcjdlfenepaaW.PrintLast
set_option linter.unusedVariables false
theorem FnClockUrgent:laws_FnClockUrgent.Pure:=by
 intro l0 hlen hlen2 hwf
 by_cases hl:(l0.length:Int) > 1048576
 ·exact ⟨0,by simp only [laws_FnClockUrgent.f];rw [if_pos hl]⟩
 ·obtain ⟨s,hs,ho⟩:=open_ev hwf
  obtain ⟨x,p,hw,_,_,K0,h0⟩:=timed_ev hs (p:=0) (by omega) (by omega)
  have h0:∀ k,K0 ≤ k → spec_l92Timed.f k s 0 = some (x.f0,x.f1,x.f2,p):=h0
  obtain ⟨K1,h1⟩:=urgent_ev hw
  obtain ⟨K2,h2⟩:=specUrgent_ev hw
  obtain ⟨K3,h3⟩:=okImpl_ev hw
  obtain ⟨K4,h4⟩:=implLater_ev hw (urg 100 x:Int)
  obtain ⟨K5,h5⟩:=implLater_ev hw ((urg 100 x:Int) + 1)
  have h1:∀ k,K1 ≤ k → impl_ClockUrgent.f k x.f0 x.f1 x.f2 = some (if clockOk x = true then (urg 100 x:Int) else -1):=h1
  have h2:∀ k,K2 ≤ k → spec_ClockUrgent.f k x.f0 x.f1 x.f2 = some (if clockOk x = true then (urg 100 x:Int) else -1):=h2
  have h3:∀ k,K3 ≤ k → impl_ClockOk.f k x.f0 x.f1 x.f2 = some (clockOk x):=h3
  have h4:∀ k,K4 ≤ k → impl_ClockLater.f k x.f0 x.f1 x.f2 (urg 100 x:Int) = some (quad (laterOf x (urg 100 x:Int))):=h4
  have h5:∀ k,K5 ≤ k → impl_ClockLater.f k x.f0 x.f1 x.f2 ((urg 100 x:Int) + 1) = some (quad (laterOf x ((urg 100 x:Int) + 1))):=h5
  have hd:∀ k,K0 ≤ k → spec_DrawClockUrgent.f k l0 = some (x.f0,x.f1,x.f2):=fun k hk=>by
   unfold spec_DrawClockUrgent.f
   rw [ho,Option.bind_some,h0 _ (by omega),Option.bind_some]
  refine ⟨K0 + K1 + K2 + K3 + K4 + K5,?_⟩
  unfold laws_FnClockUrgent.f
  rw [if_neg hl,hd _ (by omega),Option.bind_some]
  dsimp only
  rw [h1 _ (by omega),Option.bind_some,h2 _ (by omega),Option.bind_some,if_pos rfl]
  cases hc:clockOk x with
  | false =>
   rw [if_neg (show ¬ (false = true) by decide),if_pos (by decide),if_pos rfl,h3 _ (by omega),hc]
   rfl
  | true =>
   have hle:=urg_le 100 x
   have hu:=urg_lat 100 x
   rw [if_pos rfl,if_neg (by omega),wrap_id (by omega) (by omega),h4 _ (by omega),Option.bind_some,h5 _ (by omega),Option.bind_some]
   have e1:(quad (laterOf x (urg 100 x:Int))).2.2.2 = true:=by
    unfold laterOf quad
    rw [if_pos ⟨hc,by omega,by omega⟩]
    exact hu.1
   have e2:(quad (laterOf x ((urg 100 x:Int) + 1))).2.2.2 = false:=by
    unfold laterOf quad
    by_cases h:urg 100 x < 100
    ·rw [if_pos ⟨hc,by omega,by omega⟩,show ((urg 100 x:Int) + 1).toNat = urg 100 x + 1 by omega]
     exact hu.2 h
    ·rw [if_neg (by omega)]
   rw [if_pos e1,e2]
   rfl
end Go.Proofs.Ytnkgcjdlfenepaa.Pure
