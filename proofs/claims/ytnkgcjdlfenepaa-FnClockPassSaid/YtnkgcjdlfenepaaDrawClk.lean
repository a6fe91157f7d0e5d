/- What is drawn for terms with time. Plain; no condition. -/
import Derived.Test.YtnkgcjdlfenepaaP0
import Derived.Test.YtnkgcjdlfenepaaP1
import Derived.Test.YtnkgcjdlfenepaaP2
import Derived.Test.YtnkgcjdlfenepaaP3
import Derived.Test.YtnkgcjdlfenepaaPick
import Derived.Test.YtnkgcjdlfenepaaClk
namespace Go.Proofs.Ytnkgcjdlfenepaa.P
open Go.RowKit Go.Proofs.YtnkgcjdlfenepaaW.PrintWords Go.Proofs.YtnkgcjdlfenepaaW.PrintLast
set_option linter.unusedVariables false
set_option linter.unusedSimpArgs false
theorem u8_wf {x:Int} (h:(Lit.int .u8 x).wf = true):0 ≤ x∧x < 256:=by
 simp [Lit.wf] at h
 have h1:IntKind.u8.min = 0:=by decide
 have h2:IntKind.u8.max = 255:=by decide
 omega
theorem W29.one {a b:Int} {x:S29} (hx:W29 x):W29 ⟨a,b,[⟨x.f0,x.f1,x.f2⟩]⟩:=.mk _ _ _ (by simp) (by
 have e:(⟨x.f0,x.f1,x.f2⟩:S29) = x:=by cases x;rfl
 rw [e]
 simpa using hx)
theorem W29.two {a b:Int} {x y:S29} (hx:W29 x) (hy:W29 y):W29 ⟨a,b,[⟨x.f0,x.f1,x.f2⟩,⟨y.f0,y.f1,y.f2⟩]⟩:=.mk _ _ _ (by simp) (by
 have e:(⟨x.f0,x.f1,x.f2⟩:S29) = x:=by cases x;rfl
 have e2:(⟨y.f0,y.f1,y.f2⟩:S29) = y:=by cases y;rfl
 rw [e,e2]
 simpa using ⟨hx,hy⟩)
theorem open_ev {l:List Int} (hb:∀ x,x ∈ l → (Lit.int .u8 x).wf = true):∃ s,Src s∧spec_l6Open.f l = some (s,0):=by
 by_cases h:(l.length:Int) > 2000
 ·refine ⟨l.take 2000,⟨fun x hx=>u8_wf (hb x (List.mem_of_mem_take hx)),by rw [List.length_take];omega⟩,?_⟩
  simp only [spec_l6Open.f]
  rw [if_pos h,if_pos (by omega)]
 ·refine ⟨l,⟨fun x hx=>u8_wf (hb x hx),by omega⟩,?_⟩
  simp only [spec_l6Open.f]
  rw [if_neg h]
set_option linter.unusedSectionVars false
section
variable {s:List Int} (hs:Src s)
include hs
theorem do_ev {p:Int} (hp:0 ≤ p) (hp2:p ≤ 1000000):∃ n p',p ≤ p'∧p' ≤ p + 2∧Ev (fun k=>spec_l91Do.f k s p) (n,p'):=by
 obtain ⟨v,v0,v1,hv⟩:=pick_ev hs hp (by omega) (show (1:Int) ≤ 3 by omega)
 by_cases c:v > 0
 ·obtain ⟨u,u0,u1,hu⟩:=pick_ev hs (p:=p + 1) (by omega) (by omega) (show (1:Int) ≤ 5 by omega)
  refine ⟨wrap64 (u - 2),p + 1 + 1,by omega,by omega,Ev.cb hv (f:=fun k=>(spec_l6Rd_pick.f k s (p + 1) 5).bind fun bt=>some (wrap64 (bt.1 - 2),bt.2)) (fun k hk=>?_) (Ev.cb hu (f:=fun _=>some (wrap64 (u - 2),p + 1 + 1)) (fun k hk=>?_) (Ev.now _))⟩
  ·simp only [spec_l91Do.f,hk,Option.bind_some]
   rw [if_pos c]
  ·simp only [hk,Option.bind_some]
 ·obtain ⟨u,u0,u1,hu⟩:=pick_ev hs (p:=p + 1) (by omega) (by omega) (show (1:Int) ≤ 9 by omega)
  refine ⟨wrap64 (u - 4),p + 1 + 1,by omega,by omega,Ev.cb hv (f:=fun k=>(spec_l6Rd_pick.f k s (p + 1) 9).bind fun bt=>some (wrap64 (bt.1 - 4),bt.2)) (fun k hk=>?_) (Ev.cb hu (f:=fun _=>some (wrap64 (u - 4),p + 1 + 1)) (fun k hk=>?_) (Ev.now _))⟩
  ·simp only [spec_l91Do.f,hk,Option.bind_some]
   rw [if_neg c]
  ·simp only [hk,Option.bind_some]
theorem act_ev {p:Int} (hp:0 ≤ p) (hp2:p ≤ 100000):∃ n p',p ≤ p'∧p' ≤ p + 3∧Ev (fun k=>spec_l91Act.f k s p) (n,p'):=by
 obtain ⟨v,v0,v1,hv⟩:=pick_ev hs hp (by omega) (show (1:Int) ≤ 30 by omega)
 by_cases c:v = 0
 ·obtain ⟨u,u0,u1,hu⟩:=pick_ev hs (p:=p + 1) (by omega) (by omega) (show (1:Int) ≤ 3 by omega)
  refine ⟨rd [5,(-5),4611686018427387904] u,p + 1 + 1,by omega,by omega,Ev.cb hv (f:=fun k=>(spec_l6Rd_pick.f k s (p + 1) 3).bind fun bt=>(if 0 ≤ bt.1 then (if bt.1 < ((3:Nat):Int) then (some (rd [5,(-5),4611686018427387904] bt.1,bt.2)) else none) else none)) (fun k hk=>?_) (Ev.cb hu (f:=fun _=>some (rd [5,(-5),4611686018427387904] u,p + 1 + 1)) (fun k hk=>?_) (Ev.now _))⟩
  ·simp only [spec_l91Act.f,hk,Option.bind_some]
   rw [if_pos c]
   rfl
  ·simp only [hk,Option.bind_some]
   rw [if_pos u0,if_pos (by omega)]
 ·obtain ⟨n,p',h1,h2,hd⟩:=do_ev hs (p:=p + 1) (by omega) (by omega)
  refine ⟨n,p',by omega,by omega,Ev.cb hv (f:=fun k=>(spec_l91Do.f k s (p + 1)).bind fun bt=>some (bt.1,bt.2)) (fun k hk=>?_) (Ev.cb hd (f:=fun _=>some (n,p')) (fun k hk=>?_) (Ev.now _))⟩
  ·simp only [spec_l91Act.f,hk,Option.bind_some]
   rw [if_neg c]
  ·simp only [hk,Option.bind_some]
theorem clock_ev:∀ (d:Nat),d ≤ 10 → ∀ p:Int,0 ≤ p → p + 5 * 2 ^ d ≤ 100000 → ∃ (x:S29) (p':Int),W29 x∧p ≤ p'∧p' + 5 ≤ p + 5 * 2 ^ d∧Ev (fun k=>spec_l92Clock.f k s p d) (x.f0,x.f1,x.f2,p'):=by
 intro d
 induction d with
 | zero =>
  intro _ p hp hp2
  refine ⟨⟨0,0,[]⟩,p,.mk _ _ _ (by simp) (by simp),by omega,by simp,Ev.step (f:=fun _=>some (0,0,[],p)) (fun k=>?_) (Ev.now _)⟩
  simp only [spec_l92Clock.f]
  rw [if_pos (by omega)]
 | succ d ih =>
  intro hd p hp hp2
  have e2:(2:Int) ^ (d + 1) = 2 * 2 ^ d:=by rw [Int.pow_succ];omega
  have e3:(1:Int) ≤ 2 ^ d:=by
   have:=Nat.one_le_two_pow (n:=d)
   have h2:((2 ^ d:Nat):Int) = 2 ^ d:=by simp
   omega
  rw [e2] at hp2
  have ew:wrap64 (((d + 1:Nat):Int) - 1) = (d:Int):=by rw [wrap_id (by omega) (by omega)];omega
  have en:¬ (((d + 1:Nat):Int) = 0):=by omega
  rw [e2]
  generalize hg:(2:Int) ^ d = g at *
  obtain ⟨v,v0,v1,hv⟩:=pick_ev hs hp (by omega) (show (1:Int) ≤ 9 by omega)
  by_cases c3:v < 3
  ·obtain ⟨n,p1,a1,a2,ha⟩:=act_ev hs (p:=p + 1) (by omega) (by omega)
   obtain ⟨x,p2,hx,b1,b2,hb⟩:=ih (by omega) p1 (by omega) (by omega)
   refine ⟨⟨1,n,[⟨x.f0,x.f1,x.f2⟩]⟩,p2,hx.one,by omega,by omega,Ev.sb hv (f:=fun k=>(spec_l91Act.f k s (p + 1)).bind fun bt=>(spec_l92Clock.f k s bt.2 d).bind fun bu=>some (1,bt.1,[⟨bu.1,bu.2.1,bu.2.2.1⟩],bu.2.2.2)) (fun k hk=>?_) (Ev.cb ha (f:=fun k=>(spec_l92Clock.f k s p1 d).bind fun bu=>some (1,n,[⟨bu.1,bu.2.1,bu.2.2.1⟩],bu.2.2.2)) (fun k hk=>?_) (Ev.cb hb (f:=fun _=>some (1,n,[⟨x.f0,x.f1,x.f2⟩],p2)) (fun k hk=>?_) (Ev.now _)))⟩
   ·simp only [spec_l92Clock.f]
    rw [if_neg en,hk,Option.bind_some,if_pos c3,ew]
   ·simp only [hk,Option.bind_some]
   ·simp only [hk,Option.bind_some]
  ·by_cases c6:v < 6
   ·obtain ⟨u,u0,u1,hu⟩:=pick_ev hs (p:=p + 1) (by omega) (by omega) (show (1:Int) ≤ 4 by omega)
    obtain ⟨t,t0,t1,ht⟩:=pick_ev hs (p:=p + 1 + 1) (by omega) (by omega) (show (1:Int) ≤ 30 by omega)
    by_cases c0:t = 0
    ·obtain ⟨r,r0,r1,hr⟩:=pick_ev hs (p:=p + 1 + 1 + 1) (by omega) (by omega) (show (1:Int) ≤ 3 by omega)
     obtain ⟨x,p2,hx,b1,b2,hb⟩:=ih (by omega) (p + 1 + 1 + 1 + 1) (by omega) (by omega)
     refine ⟨⟨2,rd [0,10,9] r,[⟨x.f0,x.f1,x.f2⟩]⟩,p2,hx.one,by omega,by omega,Ev.sb hv (f:=fun k=>(spec_l6Rd_pick.f k s (p + 1) 4).bind fun bt226=>((spec_l6Rd_pick.f k s bt226.2 30).bind fun bt228=>(if bt228.1 = 0 then ((spec_l6Rd_pick.f k s bt228.2 3).bind fun bt233=>(if 0 ≤ bt233.1 then (if bt233.1 < ((3:Nat):Int) then ((spec_l92Clock.f k s bt233.2 d).bind fun bt236=>(some (2,rd [0,10,9] bt233.1,[⟨bt236.1,bt236.2.1,bt236.2.2.1⟩],bt236.2.2.2))) else none) else none)) else ((spec_l92Clock.f k s bt228.2 d).bind fun bt245=>(some (2,wrap64 (1 + bt226.1),[⟨bt245.1,bt245.2.1,bt245.2.2.1⟩],bt245.2.2.2)))))) (fun k hk=>?_) (Ev.cb hu (f:=fun k=>(spec_l6Rd_pick.f k s (p + 1 + 1) 30).bind fun bt228=>(if bt228.1 = 0 then ((spec_l6Rd_pick.f k s bt228.2 3).bind fun bt233=>(if 0 ≤ bt233.1 then (if bt233.1 < ((3:Nat):Int) then ((spec_l92Clock.f k s bt233.2 d).bind fun bt236=>(some (2,rd [0,10,9] bt233.1,[⟨bt236.1,bt236.2.1,bt236.2.2.1⟩],bt236.2.2.2))) else none) else none)) else ((spec_l92Clock.f k s bt228.2 d).bind fun bt245=>(some (2,wrap64 (1 + u),[⟨bt245.1,bt245.2.1,bt245.2.2.1⟩],bt245.2.2.2))))) (fun k hk=>?_) (Ev.cb ht (f:=fun k=>(spec_l6Rd_pick.f k s (p + 1 + 1 + 1) 3).bind fun bt233=>(if 0 ≤ bt233.1 then (if bt233.1 < ((3:Nat):Int) then ((spec_l92Clock.f k s bt233.2 d).bind fun bt236=>(some (2,rd [0,10,9] bt233.1,[⟨bt236.1,bt236.2.1,bt236.2.2.1⟩],bt236.2.2.2))) else none) else none)) (fun k hk=>?_) (Ev.cb hr (f:=fun k=>(spec_l92Clock.f k s (p + 1 + 1 + 1 + 1) d).bind fun bt236=>(some (2,rd [0,10,9] r,[⟨bt236.1,bt236.2.1,bt236.2.2.1⟩],bt236.2.2.2))) (fun k hk=>?_) (Ev.cb hb (f:=fun _=>some (2,rd [0,10,9] r,[⟨x.f0,x.f1,x.f2⟩],p2)) (fun k hk=>?_) (Ev.now _)))))⟩
     ·simp only [spec_l92Clock.f]
      rw [if_neg en,hk,Option.bind_some,if_neg c3,if_pos c6,ew]
      rfl
     ·simp only [hk,Option.bind_some]
     ·simp only [hk,Option.bind_some]
      rw [if_pos c0]
     ·simp only [hk,Option.bind_some]
      rw [if_pos r0,if_pos (by omega)]
     ·simp only [hk,Option.bind_some]
    ·obtain ⟨x,p2,hx,b1,b2,hb⟩:=ih (by omega) (p + 1 + 1 + 1) (by omega) (by omega)
     refine ⟨⟨2,wrap64 (1 + u),[⟨x.f0,x.f1,x.f2⟩]⟩,p2,hx.one,by omega,by omega,?_⟩
     obtain ⟨K1,hv⟩:=hv
     obtain ⟨K2,hu⟩:=hu
     obtain ⟨K3,ht⟩:=ht
     obtain ⟨K4,hb⟩:=hb
     refine ⟨K1 + K2 + K3 + K4 + 1,fun k hk=>?_⟩
     obtain ⟨k,rfl⟩:∃ m,k = m + 1:=⟨k - 1,by omega⟩
     have h1:=hv k (by omega)
     have h2:=hu k (by omega)
     have h3:=ht k (by omega)
     have h4:=hb k (by omega)
     simp only [spec_l92Clock.f] at *
     rw [if_neg en,h1,Option.bind_some,if_neg c3,if_pos c6,h2,Option.bind_some,h3,Option.bind_some,if_neg c0,ew,h4,Option.bind_some]
   ·by_cases c7:v = 6
    ·refine ⟨⟨0,0,[]⟩,p + 1,.mk _ _ _ (by simp) (by simp),by omega,by omega,Ev.sb hv (f:=fun _=>some (0,0,[],p + 1)) (fun k hk=>?_) (Ev.now _)⟩
     simp only [spec_l92Clock.f]
     rw [if_neg en,hk,Option.bind_some,if_neg c3,if_neg c6,if_pos c7]
    ·obtain ⟨x,p1,hx,a1,a2,ha⟩:=ih (by omega) (p + 1) (by omega) (by omega)
     obtain ⟨y,p2,hy,b1,b2,hb⟩:=ih (by omega) p1 (by omega) (by omega)
     obtain ⟨K1,hv⟩:=hv
     obtain ⟨K2,ha⟩:=ha
     obtain ⟨K3,hb⟩:=hb
     by_cases c8:v = 8
     ·refine ⟨⟨4,0,[⟨x.f0,x.f1,x.f2⟩,⟨y.f0,y.f1,y.f2⟩]⟩,p2,hx.two hy,by omega,by omega,K1 + K2 + K3 + 1,fun k hk=>?_⟩
      obtain ⟨k,rfl⟩:∃ m,k = m + 1:=⟨k - 1,by omega⟩
      have h1:=hv k (by omega)
      have h2:=ha k (by omega)
      have h3:=hb k (by omega)
      simp only [spec_l92Clock.f] at *
      rw [if_neg en,h1,Option.bind_some,if_neg c3,if_neg c6,if_neg c7,if_pos c8,ew,h2,Option.bind_some,h3,Option.bind_some]
     ·refine ⟨⟨3,0,[⟨x.f0,x.f1,x.f2⟩,⟨y.f0,y.f1,y.f2⟩]⟩,p2,hx.two hy,by omega,by omega,K1 + K2 + K3 + 1,fun k hk=>?_⟩
      obtain ⟨k,rfl⟩:∃ m,k = m + 1:=⟨k - 1,by omega⟩
      have h1:=hv k (by omega)
      have h2:=ha k (by omega)
      have h3:=hb k (by omega)
      simp only [spec_l92Clock.f] at *
      rw [if_neg en,h1,Option.bind_some,if_neg c3,if_neg c6,if_neg c7,if_neg c8,ew,h2,Option.bind_some,h3,Option.bind_some]
theorem timed_ev {p:Int} (hp:0 ≤ p) (hp2:p ≤ 1000):∃ (x:S29) (p':Int),W29 x∧p ≤ p'∧p' ≤ p + 1000∧Ev (fun k=>spec_l92Timed.f k s p) (x.f0,x.f1,x.f2,p'):=by
 obtain ⟨v,v0,v1,K1,hv⟩:=pick_ev hs hp (by omega) (show (1:Int) ≤ 4 by omega)
 obtain ⟨d,hd⟩:∃ d:Nat,1 + v = (d:Int):=⟨(1 + v).toNat,by omega⟩
 have hd4:d ≤ 4:=by omega
 have e3:(2:Int) ^ d ≤ 16:=by
  have:=Nat.pow_le_pow_right (n:=2) (by omega) hd4
  have h2:((2 ^ d:Nat):Int) = 2 ^ d:=by simp
  omega
 obtain ⟨x,p1,hx,a1,a2,K2,ha⟩:=clock_ev hs d (by omega) (p + 1) (by omega) (by omega)
 obtain ⟨u,u0,u1,K3,hu⟩:=pick_ev hs (p:=p1) (by omega) (by omega) (show (1:Int) ≤ 30 by omega)
 obtain ⟨t,t0,t1,K4,ht⟩:=pick_ev hs (p:=p1 + 1) (by omega) (by omega) (show (1:Int) ≤ 7 by omega)
 have ew:wrap64 (1 + v) = (d:Int):=by rw [wrap_id (by omega) (by omega)];exact hd
 by_cases c0:u = 0
 ·refine ⟨⟨t,x.f1,x.f2⟩,p1 + 1 + 1,.mk _ _ _ hx.len hx.part,by omega,by omega,K1 + K2 + K3 + K4,fun k hk=>?_⟩
  have h1:=hv k (by omega)
  have h2:=ha k (by omega)
  have h3:=hu k (by omega)
  have h4:=ht k (by omega)
  simp only [spec_l92Timed.f] at *
  rw [h1,Option.bind_some,ew,h2,Option.bind_some,h3,Option.bind_some,if_pos c0,h4,Option.bind_some]
 ·by_cases c1:u = 1
  ·refine ⟨⟨x.f0,-1,x.f2⟩,p1 + 1,.mk _ _ _ hx.len hx.part,by omega,by omega,K1 + K2 + K3 + K4,fun k hk=>?_⟩
   have h1:=hv k (by omega)
   have h2:=ha k (by omega)
   have h3:=hu k (by omega)
   simp only [spec_l92Timed.f] at *
   rw [h1,Option.bind_some,ew,h2,Option.bind_some,h3,Option.bind_some,if_neg c0,if_pos c1]
  ·refine ⟨x,p1 + 1,hx,by omega,by omega,K1 + K2 + K3 + K4,fun k hk=>?_⟩
   have h1:=hv k (by omega)
   have h2:=ha k (by omega)
   have h3:=hu k (by omega)
   simp only [spec_l92Timed.f] at *
   rw [h1,Option.bind_some,ew,h2,Option.bind_some,h3,Option.bind_some,if_neg c0,if_neg c1]
end
end Go.Proofs.Ytnkgcjdlfenepaa.P
