/- What is drawn for the questions on messages: messages that are known, and one that is asked of them. Plain; no condition. -/
import Derived.Test.YtbcjpdahdecehaaDoorP0
import Derived.Test.YtbcjpdahdecehaaDoorP1
import Derived.Test.YtbcjpdahdecehaaDoorP2
import Derived.Test.YtbcjpdahdecehaaDoorDrawSl
namespace Go.Proofs.YtbcjpdahdecehaaDoor.P
open Go.RowKit Go.Proofs.YtbcjpdahdecehaaDoorW.PrintWords Go.Proofs.YtbcjpdahdecehaaDoorW.PrintLast
set_option linter.unusedVariables false
set_option linter.unusedSimpArgs false
inductive Hg:Nat → S25 → Prop where
 | leaf (n:Nat) (a b:Int):Hg n ⟨a,b,[]⟩
 | node (n:Nat) (a b:Int) (l:List S25) (h:∀ y,y ∈ l → Hg n y):Hg (n + 1) ⟨a,b,l⟩
theorem Hg.part {n:Nat} {x:S25} (h:Hg n x):∀ y,y ∈ x.f2 → ∃ m,n = m + 1∧Hg m y:=by
 cases h with
 | leaf _ a b=>intro y hy;cases hy
 | node m a b l h=>exact fun y hy=>⟨m,rfl,h y hy⟩
theorem Hg.up {n:Nat} {x:S25} (h:Hg n x):Hg (n + 1) x:=by
 induction h with
 | leaf n a b=>exact .leaf _ _ _
 | node n a b l h ih=>exact .node _ _ _ _ ih
theorem Hg.le {n m:Nat} {x:S25} (h:Hg n x) (hm:n ≤ m):Hg m x:=by
 obtain ⟨d,rfl⟩:∃ d,m = n + d:=⟨m - n,by omega⟩
 clear hm
 induction d with
 | zero=>exact h
 | succ d ih=>exact ih.up
set_option linter.unusedSectionVars false
section
variable {s:List Int} (hs:Src s)
include hs
theorem leafH_ev {p:Int} (a1:Int) (hp:0 ≤ p) (hp2:p ≤ 1000000):∃ (x:S25) (p':Int),W25 x∧Hg 0 x∧p ≤ p'∧p' ≤ p + 2∧Ev (fun k=>spec_l92Seal.j0 k a1 true s p) (x.f0,x.f1,x.f2,p'):=by
 obtain ⟨v,v0,v1,K1,hv⟩:=pick_ev hs hp (by omega) (show (1:Int) ≤ 40 by omega)
 by_cases c:v = 0
 ·refine ⟨⟨0,10,[]⟩,p + 1,.mk _ _ _ (by simp) (by simp),.leaf _ _ _,by omega,by omega,K1 + 1,fun k hk=>?_⟩
  obtain ⟨k,rfl⟩:∃ m,k = m + 1:=⟨k - 1,by omega⟩
  have h1:=hv k (by omega)
  dsimp only at h1
  simp only [spec_l92Seal.j0]
  rw [if_pos (by trivial),h1,Option.bind_some,if_pos c]
 ·obtain ⟨u,u0,u1,K2,hu⟩:=pick_ev hs (p:=p + 1) (by omega) (by omega) (show (1:Int) ≤ 4 by omega)
  refine ⟨⟨0,u,[]⟩,p + 1 + 1,.mk _ _ _ (by simp) (by simp),.leaf _ _ _,by omega,by omega,K1 + K2 + 1,fun k hk=>?_⟩
  obtain ⟨k,rfl⟩:∃ m,k = m + 1:=⟨k - 1,by omega⟩
  have h1:=hv k (by omega)
  have h2:=hu k (by omega)
  dsimp only at h1 h2
  simp only [spec_l92Seal.j0]
  rw [if_pos (by trivial),h1,Option.bind_some,if_neg c,h2,Option.bind_some]
theorem sealH_ev:∀ (d:Nat),d ≤ 10 → ∀ p:Int,0 ≤ p → p + 10 * 2 ^ d ≤ 100000 → ∃ (x:S25) (p':Int),W25 x∧Hg d x∧p ≤ p'∧p' + 5 ≤ p + 10 * 2 ^ d∧Ev (fun k=>spec_l92Seal.f k s p d) (x.f0,x.f1,x.f2,p'):=by
 intro d
 induction d with
 | zero =>
  intro _ p hp hp2
  obtain ⟨x,p',hx,hg,a1,a2,K1,h1⟩:=leafH_ev hs (p:=p) ((0:Nat):Int) hp (by simp at hp2;omega)
  refine ⟨x,p',hx,hg,a1,by simp;omega,K1 + 1,fun k hk=>?_⟩
  obtain ⟨k,rfl⟩:∃ m,k = m + 1:=⟨k - 1,by omega⟩
  have h2:=h1 k (by omega)
  dsimp only at h2
  simp only [spec_l92Seal.f]
  rw [if_pos (by omega),h2]
 | succ d ih =>
  intro hd p hp hp2
  have e2:(2:Int) ^ (d + 1) = 2 * 2 ^ d:=by rw [Int.pow_succ];omega
  have e3:(1:Int) ≤ 2 ^ d:=by
   have:=Nat.one_le_two_pow (n:=d)
   have h2:((2 ^ d:Nat):Int) = 2 ^ d:=by simp
   omega
  rw [e2] at hp2
  have ew:wrap64 (((d + 1:Nat):Int) - 1) = (d:Int):=by rw [wrap_id (by omega) (by omega)];omega
  have en:¬ (((d + 1:Nat):Int) = 0):=by omega
  rw [e2]
  generalize hg:(2:Int) ^ d = g at *
  obtain ⟨v,v0,v1,K1,hv⟩:=pick_ev hs hp (by omega) (show (1:Int) ≤ 3 by omega)
  by_cases c:v = 0
  ·obtain ⟨x,p',hx,hgx,a1,a2,K2,h2⟩:=leafH_ev hs (p:=p + 1) ((d + 1:Nat):Int) (by omega) (by omega)
   refine ⟨x,p',hx,hgx.le (by omega),by omega,by omega,K1 + K2 + 1,fun k hk=>?_⟩
   obtain ⟨k,rfl⟩:∃ m,k = m + 1:=⟨k - 1,by omega⟩
   have b1:=hv k (by omega)
   have b2:=h2 k (by omega)
   dsimp only at b1 b2
   simp only [spec_l92Seal.f]
   rw [if_neg en,b1,Option.bind_some,show (v == 0) = true by simpa using c,b2]
  ·obtain ⟨x,p1,hx,gx,a1,a2,K2,h2⟩:=ih (by omega) (p + 1) (by omega) (by omega)
   obtain ⟨u,u0,u1,K3,h3⟩:=pick_ev hs (p:=p1) (by omega) (by omega) (show (1:Int) ≤ 2 by omega)
   obtain ⟨y,p2,hy,gy,b1,b2,K4,h4⟩:=ih (by omega) (p1 + 1) (by omega) (by omega)
   refine ⟨⟨wrap64 (1 + u),0,[⟨x.f0,x.f1,x.f2⟩,⟨y.f0,y.f1,y.f2⟩]⟩,p2,hx.two hy,.node _ _ _ _ (fun z hz=>by
    rcases List.mem_cons.1 hz with rfl | hz
    ·rw [eta25]
     exact gx
    ·rw [List.mem_singleton] at hz
     rw [hz,eta25]
     exact gy),by omega,by omega,K1 + K2 + K3 + K4 + 2,fun k hk=>?_⟩
   obtain ⟨k,rfl⟩:∃ m,k = m + 2:=⟨k - 2,by omega⟩
   have d1:=hv (k + 1) (by omega)
   have d2:=h2 k (by omega)
   have d3:=h3 k (by omega)
   have d4:=h4 k (by omega)
   dsimp only at d1 d2 d3 d4
   show spec_l92Seal.f (k + 1 + 1) s p ((d + 1:Nat):Int) = _
   rw [spec_l92Seal.f,if_neg en,d1,Option.bind_some,show (v == 0) = false by simpa using c,spec_l92Seal.j0,if_neg (by simp),ew,d2,Option.bind_some,d3,Option.bind_some,d4,Option.bind_some]
theorem sealH2_ev {v:Int} (v0:0 ≤ v) (v1:v ≤ 2) {p:Int} (hp:0 ≤ p) (hp2:p ≤ 50000):∃ (x:S25) (p':Int),W25 x∧Hg 2 x∧p ≤ p'∧p' ≤ p + 40∧Ev (fun k=>spec_l92Seal.f k s p v) (x.f0,x.f1,x.f2,p'):=by
 obtain ⟨d,rfl⟩:∃ d:Nat,v = (d:Int):=⟨v.toNat,by omega⟩
 have hd:d ≤ 2:=by omega
 have e3:(2:Int) ^ d ≤ 4:=by
  have:=Nat.pow_le_pow_right (n:=2) (by omega) hd
  have h2:((2 ^ d:Nat):Int) = 2 ^ d:=by simp
  omega
 obtain ⟨x,p',hx,hg,a1,a2,h⟩:=sealH_ev hs d (by omega) p hp (by omega)
 exact ⟨x,p',hx,hg.le hd,a1,by omega,h⟩
theorem know_l0 {n:Int} (hn:n ≤ 7):∀ (d i:Nat) (l:List S25) (p:Int),(i:Int) + d = n → l.length = i → (∀ y,y ∈ l → W25 y∧Hg 2 y) → 0 ≤ p → p + 50 * d ≤ 50000 →
  ∃ (r:List S25) (p':Int),(r.length:Int) = n∧(∀ y,y ∈ r → W25 y∧Hg 2 y)∧0 ≤ p'∧p' ≤ p + 50 * d∧Ev (fun k=>spec_l92Know.l0 k l n i s p) (r,p'):=by
 intro d
 induction d with
 | zero =>
  intro i l p hi hl hw hp hp2
  refine ⟨l,p,by omega,hw,hp,by omega,Ev.step (f:=fun _=>some (l,p)) (fun k=>?_) (Ev.now _)⟩
  simp only [spec_l92Know.l0]
  rw [if_neg (by omega)]
 | succ d ih =>
  intro i l p hi hl hw hp hp2
  obtain ⟨v,v0,v1,hv⟩:=pick_ev hs hp (by omega) (show (1:Int) ≤ 2 by omega)
  obtain ⟨x,p1,hx,hg,a1,a2,h1⟩:=sealH2_ev hs (v:=1 + v) (by omega) (by omega) (p:=p + 1) (by omega) (by omega)
  obtain ⟨r,p',r1,r2,r3,r4,h2⟩:=ih (i + 1) (l ++ [x]) p1 (by omega) (by simp [hl]) (fun y hy=>by
   rcases List.mem_append.1 hy with h | h
   ·exact hw y h
   ·rw [List.mem_singleton] at h
    rw [h]
    exact ⟨hx,hg⟩) (by omega) (by omega)
  refine ⟨r,p',r1,r2,r3,by omega,Ev.sb hv (f:=fun k=>(spec_l92Seal.f k s (p + 1) (1 + v)).bind fun bt=>if l.length < 3518437208883 then spec_l92Know.l0 k (l ++ [⟨bt.1,bt.2.1,bt.2.2.1⟩]) n (wrap64 ((i:Int) + 1)) s bt.2.2.2 else none) (fun k hk=>?_) (Ev.cb h1 (fun k hk=>?_) h2)⟩
  ·simp only [spec_l92Know.l0]
   rw [if_pos (by omega),hk,Option.bind_some,wrap_id (x:=1 + v) (by omega) (by omega)]
  ·rw [hk,Option.bind_some,if_pos (by omega),wrap_id (by omega) (by omega),eta25]
   rfl
theorem know_ev {p:Int} (hp:0 ≤ p) (hp2:p ≤ 1000):∃ (r:List S25) (p':Int),r.length ≤ 7∧(∀ y,y ∈ r → W25 y∧Hg 2 y)∧0 ≤ p'∧p' ≤ p + 400∧Ev (fun k=>spec_l92Know.f k s p) (r,p'):=by
 obtain ⟨v,v0,v1,K1,hv⟩:=pick_ev hs hp (by omega) (show (1:Int) ≤ 5 by omega)
 obtain ⟨u,u0,u1,K2,hu⟩:=pick_ev hs (p:=p + 1) (by omega) (by omega) (show (1:Int) ≤ 20 by omega)
 obtain ⟨n,hn0,hn,hn2⟩:∃ n:Int,0 ≤ n∧n ≤ 7∧n = if u = 0 then 7 else v:=⟨_,by split <;> omega,by split <;> omega,rfl⟩
 obtain ⟨r,p',r1,r2,r3,r4,K3,h3⟩:=know_l0 hs hn n.toNat 0 [] (p + 1 + 1) (by omega) rfl (by simp) (by omega) (by omega)
 have hv:∀ k,K1 ≤ k → spec_l6Rd_pick.f k s p 5 = some (v,p + 1):=hv
 have hu:∀ k,K2 ≤ k → spec_l6Rd_pick.f k s (p + 1) 20 = some (u,p + 1 + 1):=hu
 have h3:∀ k,K3 ≤ k → spec_l92Know.l0 k [] n 0 s (p + 1 + 1) = some (r,p'):=h3
 refine ⟨r,p',by omega,r2,r3,by omega,K1 + K2 + K3 + 1,fun k hk=>?_⟩
 obtain ⟨k,rfl⟩:∃ m,k = m + 1:=⟨k - 1,by omega⟩
 have hj:spec_l92Know.j0 (k + 1) [] n s (p + 1 + 1) = some (r,p'):=by
  simp only [spec_l92Know.j0]
  exact h3 k (by omega)
 show spec_l92Know.f (k + 1) s p = _
 unfold spec_l92Know.f
 rw [Option.bind_some,hv _ (by omega),Option.bind_some,hu _ (by omega),Option.bind_some]
 by_cases c:u = 0
 ·rw [if_pos c]
  rw [if_pos c] at hn2
  subst hn2
  exact hj
 ·rw [if_neg c]
  rw [if_neg c] at hn2
  subst hn2
  exact hj
end
end Go.Proofs.YtbcjpdahdecehaaDoor.P
