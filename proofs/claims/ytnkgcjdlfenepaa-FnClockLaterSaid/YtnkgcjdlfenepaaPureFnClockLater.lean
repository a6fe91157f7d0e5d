/- Time adds up: the plain law. No condition. -/
import Derived.Test.YtnkgcjdlfenepaaP0
import Derived.Test.YtnkgcjdlfenepaaP2
import Derived.Test.YtnkgcjdlfenepaaP3
import Derived.Test.YtnkgcjdlfenepaaP4
import Derived.Test.YtnkgcjdlfenepaaClkLat
import Derived.Test.YtnkgcjdlfenepaaDrawClk
namespace Go.Proofs.Ytnkgcjdlfenepaa.Pure
open Go.RowKit Go.Proofs.Ytnkgcjdlfenepaa.P Go.Proofs.YtnkgcjdlfenepaaW.PrintWords Go.Proofs.YtnkgcjdlfenepaaW.PrintLast
set_option linter.unusedVariables false
theorem drawLater_ev {l0:List Int} (hwf:∀ x,x ∈ l0 → (Lit.int .u8 x).wf = true):∃ (x:S29) (n:Int),W29 x∧-1 ≤ n∧n ≤ 101∧Ev (fun k=>spec_DrawClockLater.f k l0) (x.f0,x.f1,x.f2,n):=by
 obtain ⟨s,hs,ho⟩:=open_ev hwf
 obtain ⟨x,p,hw,p0,p1,K0,h0⟩:=timed_ev hs (p:=0) (by omega) (by omega)
 obtain ⟨v,v0,v1,K1,hv⟩:=pick_ev hs (p:=p) (by omega) (by omega) (show (1:Int) ≤ 8 by omega)
 obtain ⟨u,u0,u1,K2,hu⟩:=pick_ev hs (p:=p + 1) (by omega) (by omega) (show (1:Int) ≤ 20 by omega)
 obtain ⟨t,t0,t1,K3,ht⟩:=pick_ev hs (p:=p + 1 + 1) (by omega) (by omega) (show (1:Int) ≤ 3 by omega)
 have h0:∀ k,K0 ≤ k → spec_l92Timed.f k s 0 = some (x.f0,x.f1,x.f2,p):=h0
 have hv:∀ k,K1 ≤ k → spec_l6Rd_pick.f k s p 8 = some (v,p + 1):=hv
 have hu:∀ k,K2 ≤ k → spec_l6Rd_pick.f k s (p + 1) 20 = some (u,p + 1 + 1):=hu
 have ht:∀ k,K3 ≤ k → spec_l6Rd_pick.f k s (p + 1 + 1) 3 = some (t,p + 1 + 1 + 1):=ht
 refine ⟨x,if u = 0 then rd [-1,100,101] t else v,hw,?_,?_,K0 + K1 + K2 + K3,fun k hk=>?_⟩
 ·split
  ·obtain h | h | h:t = 0 ∨ t = 1 ∨ t = 2:=by omega
   all_goals subst h;decide
  ·omega
 ·split
  ·obtain h | h | h:t = 0 ∨ t = 1 ∨ t = 2:=by omega
   all_goals subst h;decide
  ·omega
 ·show spec_DrawClockLater.f k l0 = _
  unfold spec_DrawClockLater.f
  rw [ho,Option.bind_some]
  dsimp only
  rw [h0 _ (by omega),Option.bind_some]
  dsimp only
  rw [hv _ (by omega),Option.bind_some]
  dsimp only
  rw [hu _ (by omega),Option.bind_some]
  dsimp only
  by_cases c:u = 0
  ·rw [if_pos c,if_pos c,Option.bind_some,ht _ (by omega),Option.bind_some,if_pos t0,if_pos (by simpa using t1)]
  ·rw [if_neg c,if_neg c]
theorem FnClockLater:laws_FnClockLater.Pure:=by
 intro l0 hlen hlen2 hwf
 by_cases hl:(l0.length:Int) > 1048576
 ·exact ⟨0,by simp only [laws_FnClockLater.f];rw [if_pos hl]⟩
 ·obtain ⟨x,n,hw,n0,n1,K0,h0⟩:=drawLater_ev hwf
  have h0:∀ k,K0 ≤ k → spec_DrawClockLater.f k l0 = some (x.f0,x.f1,x.f2,n):=h0
  obtain ⟨K1,h1⟩:=implLater_ev hw n
  obtain ⟨K2,h2⟩:=specLater_ev hw n
  have h1:∀ k,K1 ≤ k → impl_ClockLater.f k x.f0 x.f1 x.f2 n = some (quad (laterOf x n)):=h1
  have h2:∀ k,K2 ≤ k → spec_ClockLater.f k x.f0 x.f1 x.f2 n = some (quad (laterOf x n)):=h2
  have hW:∀ m:Int,W29 (laterOf x m).1:=fun m=>by
   unfold laterOf
   split
   ·rename_i c
    obtain ⟨ht,hn⟩:=clockOk_t hw c.1
    exact (lat_ok _ ht hn).1.w
   ·exact OkT.nil.w
  obtain ⟨K3,h3⟩:=mnClock_ev (hW n)
  have h3:∀ k,K3 ≤ k → laws_mnClock.f k (laterOf x n).1.f0 (laterOf x n).1.f1 (laterOf x n).1.f2 (laterOf x n).1.f0 (laterOf x n).1.f1 (laterOf x n).1.f2 = some true:=h3
  have hz:∀ (m:Int) (ok:Bool) (b:Bool),(ok = true → b = true → (laterOf x n).1 = x) → (b = true ∨ ok = false) → ∃ K,∀ k,K ≤ k → laws_FnClockLater.j1 k m ok true x.f0 x.f1 x.f2 (laterOf x n).1.f0 (laterOf x n).1.f1 (laterOf x n).1.f2 = some true:=by
   intro m ok b he hb
   cases ok with
   | false =>
    refine ⟨1,fun k hk=>?_⟩
    obtain ⟨k,rfl⟩:∃ j,k = j + 1:=⟨k - 1,by omega⟩
    simp only [laws_FnClockLater.j1]
    rfl
   | true =>
    obtain ⟨K,h⟩:=mnClock_ev hw
    have h:∀ k,K ≤ k → laws_mnClock.f k x.f0 x.f1 x.f2 x.f0 x.f1 x.f2 = some true:=h
    refine ⟨K + 1,fun k hk=>?_⟩
    obtain ⟨k,rfl⟩:∃ j,k = j + 1:=⟨k - 1,by omega⟩
    simp only [laws_FnClockLater.j1]
    have hb:b = true:=by
     rcases hb with h | h
     ·exact h
     ·cases h
    rw [he rfl hb,if_pos trivial,if_pos trivial,h _ (by omega),Option.bind_some]
  have hj:∃ K,∀ k,K ≤ k → laws_FnClockLater.j0 k n (laterOf x n).2 false x.f0 x.f1 x.f2 (laterOf x n).1.f0 (laterOf x n).1.f1 (laterOf x n).1.f2 = some true:=by
   cases h2c:(laterOf x n).2 with
   | false =>
    obtain ⟨K,h⟩:=hz n false true (fun h=>by cases h) (.inr rfl)
    refine ⟨K + 1,fun k hk=>?_⟩
    obtain ⟨k,rfl⟩:∃ j,k = j + 1:=⟨k - 1,by omega⟩
    simp only [laws_FnClockLater.j0]
    rw [if_neg (by decide),if_neg (by decide)]
    exact h _ (by omega)
   | true =>
    have hcn:clockOk x = true∧0 ≤ n∧n ≤ 100:=by
     by_cases c:clockOk x = true∧0 ≤ n∧n ≤ 100
     ·exact c
     ·unfold laterOf at h2c
      rw [if_neg c] at h2c
      cases h2c
    obtain ⟨ht,hnn⟩:=clockOk_t hw hcn.1
    by_cases hn:n = 0
    ·obtain ⟨K,h⟩:=hz n true true (fun _ _=>by rw [laterOf,if_pos hcn,hn];rfl) (.inl rfl)
     refine ⟨K + 1,fun k hk=>?_⟩
     obtain ⟨k,rfl⟩:∃ j,k = j + 1:=⟨k - 1,by omega⟩
     simp only [laws_FnClockLater.j0]
     rw [if_neg (by decide),if_pos trivial,show (n == 0) = true by simpa using hn]
     exact h _ (by omega)
    ·obtain ⟨m,rfl⟩:∃ m:Nat,n = (m:Int) + 1:=⟨n.toNat - 1,by omega⟩
     have e1:laterOf x ((m:Int) + 1) = lat (m + 1) x:=by
      rw [laterOf,if_pos hcn,show ((m:Int) + 1).toNat = m + 1 by omega]
     have e0:laterOf x (m:Int) = lat m x:=by
      rw [laterOf,if_pos ⟨hcn.1,by omega,by omega⟩,Int.toNat_natCast]
     have hs:=lat_succ m x
     rw [e1] at h2c
     have c1:(lat m x).2 = true:=by
      by_cases c:(lat m x).2 = true
      ·exact c
      ·rw [hs,if_neg c] at h2c
       cases h2c
     have c2:(lat m x).1.ps.2 = true:=by
      by_cases c:(lat m x).1.ps.2 = true
      ·exact c
      ·rw [hs,if_pos c1,if_neg c] at h2c
       cases h2c
     rw [if_pos c1,if_pos c2] at hs
     obtain ⟨ho,hno⟩:=lat_ok m ht hnn
     have hc1:=clockOk_of ho hno
     have hp:=ps_ok ho c2
     have hc2:=clockOk_of hp.1 (by omega)
     have hkeep:=(ps_keeps ho c2).2
     obtain ⟨K4,h4⟩:=implLater_ev hw (m:Int)
     rw [e0] at h4
     obtain ⟨K5,h5⟩:=implPass_ev ho.w
     rw [show passOf (lat m x).1 = ((lat m x).1.ps.1,true) by rw [passOf,if_pos ⟨hc1,c2⟩]] at h5
     obtain ⟨K6,h6⟩:=steps_ev ho.w
     rw [if_pos hc1] at h6
     obtain ⟨K7,h7⟩:=steps_ev hp.1.w
     rw [if_pos hc2] at h7
     obtain ⟨K8,h8⟩:=mnClock_ev hp.1.w
     have h4:∀ k,K4 ≤ k → impl_ClockLater.f k x.f0 x.f1 x.f2 (m:Int) = some (quad (lat m x)):=h4
     have h5:∀ k,K5 ≤ k → impl_ClockPass.f k (lat m x).1.f0 (lat m x).1.f1 (lat m x).1.f2 = some (quad ((lat m x).1.ps.1,true)):=h5
     have h6:∀ k,K6 ≤ k → impl_ClockSteps.f k (lat m x).1.f0 (lat m x).1.f1 (lat m x).1.f2 = some ((lat m x).1.tk,true):=h6
     have h7:∀ k,K7 ≤ k → impl_ClockSteps.f k (lat m x).1.ps.1.f0 (lat m x).1.ps.1.f1 (lat m x).1.ps.1.f2 = some ((lat m x).1.ps.1.tk,true):=h7
     have h8:∀ k,K8 ≤ k → laws_mnClock.f k (lat m x).1.ps.1.f0 (lat m x).1.ps.1.f1 (lat m x).1.ps.1.f2 (lat m x).1.ps.1.f0 (lat m x).1.ps.1.f1 (lat m x).1.ps.1.f2 = some true:=h8
     refine ⟨K4 + K5 + K6 + K7 + K8 + 2,fun k hk=>?_⟩
     obtain ⟨k,rfl⟩:∃ j,k = j + 2:=⟨k - 2,by omega⟩
     show laws_FnClockLater.j0 (k + 1 + 1) _ _ _ _ _ _ _ _ _ = _
     rw [laws_FnClockLater.j0,if_neg (by decide),if_pos rfl,show (((m:Int) + 1) == 0) = false by simpa using hn,laws_FnClockLater.j1,if_neg (by decide),wrap_id (by omega) (by omega),show (m:Int) + 1 - 1 = m by omega,h4 _ (by omega),Option.bind_some,e1,hs]
     dsimp only [quad]
     rw [h5 _ (by omega),Option.bind_some]
     dsimp only [quad]
     rw [h6 _ (by omega),Option.bind_some,h7 _ (by omega),Option.bind_some]
     simp only [c1,if_true]
     rw [h8 _ (by omega),Option.bind_some,if_pos rfl,decide_eq_true (by omega)]
  obtain ⟨K4,h4⟩:=hj
  refine ⟨K0 + K1 + K2 + K3 + K4,?_⟩
  unfold laws_FnClockLater.f
  rw [if_neg hl,h0 _ (by omega),Option.bind_some]
  dsimp only
  rw [h1 _ (by omega),Option.bind_some,h2 _ (by omega),Option.bind_some]
  dsimp only [quad]
  rw [h3 _ (by omega),Option.bind_some,if_pos rfl,show ((laterOf x n).2 != (laterOf x n).2) = false by simp]
  exact h4 _ (by omega)
end Go.Proofs.Ytnkgcjdlfenepaa.Pure
