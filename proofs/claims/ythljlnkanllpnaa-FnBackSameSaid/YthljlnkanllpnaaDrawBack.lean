/- What is drawn for going back: small. Plain; no condition. -/
import Derived.Test.YthljlnkanllpnaaP0
import Derived.Test.YthljlnkanllpnaaP1
import Derived.Test.YthljlnkanllpnaaP2
import Derived.Test.YthljlnkanllpnaaP3
import Derived.Test.YthljlnkanllpnaaHistD
namespace Go.Proofs.Ythljlnkanllpnaa.P
open Go.RowKit Go.Proofs.YthljlnkanllpnaaW.PrintWords Go.Proofs.YthljlnkanllpnaaW.PrintLast
set_option linter.unusedVariables false
set_option linter.unusedSimpArgs false
theorem drawBack_ev {s:List Int} (hs:Src s) {l0:List Int} (ho:spec_l6Open.f l0 = some (s,0)):∃ th h q n,SmallTh th∧h.length ≤ 20∧Ev (fun k=>spec_DrawHistoryBack.f k l0) (th,h,q,n):=by
 obtain ⟨th,p,hth,p0,p1,K0,h0⟩:=drawThreads_ev hs (show (0:Int) ≤ 0 by omega) (by omega)
 obtain ⟨h,q,hh,q0,q1,K1,h1⟩:=drawHistory_ev hs hth (show 0 ≤ p by omega) (by omega)
 have hn:=hth.len
 have w2:wrap64 ((th.length:Int) + 1) = (th.length:Int) + 1:=wrap_id (by omega) (by omega)
 obtain ⟨v,v0,v1,K2,h2⟩:=pick_ev hs (show 0 ≤ q by omega) (by omega) (show (1:Int) ≤ (th.length:Int) + 1 by omega)
 obtain ⟨u,u0,u1,K3,h3⟩:=pick_ev hs (show 0 ≤ q + 1 by omega) (by omega) (show (1:Int) ≤ 6 by omega)
 obtain ⟨t,t0,t1,K4,h4⟩:=pick_ev hs (show 0 ≤ q + 1 + 1 by omega) (by omega) (show (1:Int) ≤ 20 by omega)
 have h0:∀ k,K0 ≤ k → spec_l92Threads.f k s 0 = some (th,p):=h0
 have h1:∀ k,K1 ≤ k → spec_l92History.f k s p th = some (h,q):=h1
 have h2:∀ k,K2 ≤ k → spec_l6Rd_pick.f k s q ((th.length:Int) + 1) = some (v,q + 1):=h2
 have h3:∀ k,K3 ≤ k → spec_l6Rd_pick.f k s (q + 1) 6 = some (u,q + 1 + 1):=h3
 have h4:∀ k,K4 ≤ k → spec_l6Rd_pick.f k s (q + 1 + 1) 20 = some (t,q + 1 + 1 + 1):=h4
 refine ⟨th,h,v,wrap64 (u - (wrap64 (Int.tdiv t 19))),hth,hh,K0 + K1 + K2 + K3 + K4,fun k hk=>?_⟩
 show spec_DrawHistoryBack.f k l0 = _
 unfold spec_DrawHistoryBack.f
 rw [ho,Option.bind_some,h0 k (by omega),Option.bind_some,h1 k (by omega),Option.bind_some,w2,h2 k (by omega),Option.bind_some,h3 k (by omega),Option.bind_some,h4 k (by omega),Option.bind_some]
end Go.Proofs.Ythljlnkanllpnaa.P
