/- Time passes in one way, behind waiting, too: the plain law. No condition. -/
import Derived.Test.YtnkgcjdlfenepaaP0
import Derived.Test.YtnkgcjdlfenepaaP2
import Derived.Test.YtnkgcjdlfenepaaP3
import Derived.Test.YtnkgcjdlfenepaaP4
import Derived.Test.YtnkgcjdlfenepaaHDrawP
import Derived.Test.YtnkgcjdlfenepaaClkLat
import Derived.Test.YtnkgcjdlfenepaaDrawClk
namespace Go.Proofs.Ytnkgcjdlfenepaa.Pure
open Go.RowKit Go.Proofs.Ytnkgcjdlfenepaa.P Go.Proofs.YtnkgcjdlfenepaaW.PrintWords Go.Proofs.YtnkgcjdlfenepaaW.PrintLast
set_option linter.unusedVariables false
theorem drawPass_ev {l0:List Int} (hwf:∀ x,x ∈ l0 → (Lit.int .u8 x).wf = true):∃ (x:S29),W29 x∧Ev (fun k=>spec_DrawClockPass.f k l0) (x.f0,x.f1,x.f2):=by
 obtain ⟨s,hs,ho⟩:=open_ev hwf
 obtain ⟨x,p,hw,p0,p1,K0,h0⟩:=timed_ev hs (p:=0) (by omega) (by omega)
 have h0:∀ k,K0 ≤ k → spec_l92Timed.f k s 0 = some (x.f0,x.f1,x.f2,p):=h0
 refine ⟨x,hw,K0,fun k hk=>?_⟩
 show spec_DrawClockPass.f k l0 = _
 unfold spec_DrawClockPass.f
 rw [ho,Option.bind_some]
 dsimp only
 rw [h0 _ (by omega),Option.bind_some]
theorem passWait_ev {x:S29} (hx:W29 x):∃ K,∀ k,K ≤ k → laws_FnClockPass.j0 k (passOf x).2 false x.f0 x.f1 x.f2 (passOf x).1.f0 (passOf x).1.f1 (passOf x).1.f2 = some true:=by
 have hw:W29 (⟨2,2,[x]⟩:S29):=.mk _ _ _ (by simp) (by simpa using hx)
 have hw1:W29 (⟨2,1,[x]⟩:S29):=.mk _ _ _ (by simp) (by simpa using hx)
 obtain ⟨K0,h0⟩:=okImpl_ev hw
 have h0:∀ k,K0 ≤ k → impl_ClockOk.f k 2 2 [x] = some (clockOk ⟨2,2,[x]⟩):=h0
 cases c:clockOk ⟨2,2,[x]⟩ with
 | false =>
  refine ⟨K0 + 1,fun k hk=>?_⟩
  obtain ⟨k,rfl⟩:∃ j,k = j + 1:=⟨k - 1,by omega⟩
  rw [laws_FnClockPass.j0,if_neg (by decide),Option.bind_some,eta29,h0 _ (by omega),Option.bind_some,c]
  rfl
 | true =>
  obtain ⟨ht,hn⟩:=clockOk_t hw c
  have s1:(⟨2,2,[x]⟩:S29).ps = (⟨2,1,[x]⟩,true):=ps_wait (by decide) x
  have p1:=ps_ok ht (by rw [s1])
  rw [s1] at p1
  have c1:=clockOk_of p1.1 (by have:=p1.2;dsimp only at this;omega)
  have s2:(⟨2,1,[x]⟩:S29).ps = (x,true):=ps_wait1 x
  have e0:passOf ⟨2,2,[x]⟩ = (⟨2,1,[x]⟩,true):=by rw [passOf,s1,if_pos ⟨c,rfl⟩]
  have e1:passOf ⟨2,1,[x]⟩ = (x,true):=by rw [passOf,s2,if_pos ⟨c1,rfl⟩]
  obtain ⟨K1,h1⟩:=implPass_ev hw
  obtain ⟨K2,h2⟩:=implPass_ev hw1
  obtain ⟨K3,h3⟩:=implPass_ev hx
  obtain ⟨K4,h4⟩:=mnClock_ev hw1
  obtain ⟨K5,h5⟩:=mnClock_ev hx
  rw [e0] at h1
  rw [e1] at h2
  have h1:∀ k,K1 ≤ k → impl_ClockPass.f k 2 2 [x] = some (2,1,[x],true):=h1
  have h2:∀ k,K2 ≤ k → impl_ClockPass.f k 2 1 [x] = some (x.f0,x.f1,x.f2,true):=h2
  have h3:∀ k,K3 ≤ k → impl_ClockPass.f k x.f0 x.f1 x.f2 = some ((passOf x).1.f0,(passOf x).1.f1,(passOf x).1.f2,(passOf x).2):=h3
  have h4:∀ k,K4 ≤ k → laws_mnClock.f k 2 1 [x] 2 1 [x] = some true:=h4
  have h5:∀ k,K5 ≤ k → laws_mnClock.f k x.f0 x.f1 x.f2 x.f0 x.f1 x.f2 = some true:=h5
  have hp:W29 (passOf x).1:=by
   unfold passOf
   split
   ·rename_i c
    obtain ⟨ht,hn⟩:=clockOk_t hx c.1
    exact (ps_ok ht c.2).1.w
   ·exact OkT.nil.w
  obtain ⟨K6,h6⟩:=mnClock_ev hp
  have h6:∀ k,K6 ≤ k → laws_mnClock.f k (passOf x).1.f0 (passOf x).1.f1 (passOf x).1.f2 (passOf x).1.f0 (passOf x).1.f1 (passOf x).1.f2 = some true:=h6
  refine ⟨K0 + K1 + K2 + K3 + K4 + K5 + K6 + 1,fun k hk=>?_⟩
  obtain ⟨k,rfl⟩:∃ j,k = j + 1:=⟨k - 1,by omega⟩
  rw [laws_FnClockPass.j0,if_neg (by decide),Option.bind_some,eta29,h0 _ (by omega),Option.bind_some,c,if_pos rfl,h1 _ (by omega),Option.bind_some]
  dsimp only
  rw [h2 _ (by omega),Option.bind_some]
  dsimp only
  rw [h3 _ (by omega),Option.bind_some]
  dsimp only
  rw [if_pos (by simp),h4 _ (by omega),Option.bind_some,if_pos rfl,h5 _ (by omega),Option.bind_some,if_pos rfl]
  rw [h6 _ (by omega),Option.bind_some]
  simp
theorem FnClockPass:laws_FnClockPass.Pure:=by
 intro l0 hlen hlen2 hwf
 by_cases hl:(l0.length:Int) > 1048576
 ·exact ⟨0,by simp only [laws_FnClockPass.f];rw [if_pos hl]⟩
 ·obtain ⟨x,hw,K0,h0⟩:=drawPass_ev hwf
  have h0:∀ k,K0 ≤ k → spec_DrawClockPass.f k l0 = some (x.f0,x.f1,x.f2):=h0
  obtain ⟨K1,h1⟩:=implPass_ev hw
  obtain ⟨K2,h2⟩:=specPass_ev hw
  have h1:∀ k,K1 ≤ k → impl_ClockPass.f k x.f0 x.f1 x.f2 = some (quad (passOf x)):=h1
  have h2:∀ k,K2 ≤ k → spec_ClockPass.f k x.f0 x.f1 x.f2 = some (quad (passOf x)):=h2
  have hp:W29 (passOf x).1:=by
   unfold passOf
   split
   ·rename_i c
    obtain ⟨ht,hn⟩:=clockOk_t hw c.1
    exact (ps_ok ht c.2).1.w
   ·exact OkT.nil.w
  obtain ⟨K3,h3⟩:=mnClock_ev hp
  have h3:∀ k,K3 ≤ k → laws_mnClock.f k (passOf x).1.f0 (passOf x).1.f1 (passOf x).1.f2 (passOf x).1.f0 (passOf x).1.f1 (passOf x).1.f2 = some true:=h3
  obtain ⟨K4,h4⟩:=passWait_ev hw
  refine ⟨K0 + K1 + K2 + K3 + K4,?_⟩
  unfold laws_FnClockPass.f
  rw [if_neg hl,h0 _ (by omega),Option.bind_some]
  dsimp only
  rw [h1 _ (by omega),Option.bind_some,h2 _ (by omega),Option.bind_some]
  dsimp only [quad]
  rw [h3 _ (by omega),Option.bind_some,if_pos rfl,show ((passOf x).2 != (passOf x).2) = false by simp]
  exact h4 _ (by omega)
end Go.Proofs.Ytnkgcjdlfenepaa.Pure
