import Derived.Test.YtbcjpdahdecehaaDoorP0
import Derived.Test.YtbcjpdahdecehaaDoorP1
import Derived.Test.YtbcjpdahdecehaaDoorP2
import Derived.Test.YtbcjpdahdecehaaDoorP3
import Derived.Test.YtbcjpdahdecehaaDoorP4
import Derived.Test.YtbcjpdahdecehaaDoorDrawAsk
import Derived.Test.YtbcjpdahdecehaaDoorExTx
namespace Go.Proofs.YtbcjpdahdecehaaDoor.Pure
open Go.RowKit Go.Proofs.YtbcjpdahdecehaaDoor.P Go.Proofs.YtbcjpdahdecehaaDoorW.PrintWords Go.Proofs.YtbcjpdahdecehaaDoorW.PrintLast
theorem drawUnder_ev {l0:List Int} (hwf:∀ x,x ∈ l0 → (Lit.int .u8 x).wf = true):∃ m x:S25,W25 m∧W25 x∧Ev (fun k=>spec_DrawSealUnder.f k l0) (m.f0,m.f1,m.f2,x.f0,x.f1,x.f2):=by
 obtain ⟨s,hs,ho⟩:=open_ev hwf
 obtain ⟨l,m,p1,hl,hw,hm,q1,q2,h1⟩:=asked_ev hs (p:=0) (by omega) (by omega)
 obtain ⟨x,p2,hx,_,q3,q4,h2⟩:=sealH2_ev hs (v:=2) (by omega) (by omega) (p:=p1) (by omega) (by omega)
 by_cases h0:(l.length:Int) > 0
 ·obtain ⟨u,u0,u1,hu⟩:=pick_ev hs (p:=p2) (by omega) (by omega) (show (1:Int) ≤ (l.length:Int) by omega)
  obtain ⟨i,rfl⟩:∃ i:Nat,u = (i:Int):=⟨u.toNat,by omega⟩
  have hi:i < l.length:=by omega
  refine ⟨m,l[i],hm,(hw _ (List.getElem_mem hi)).1,Ev.cb h1 (f:=fun k=>(spec_l92Seal.f k s p1 2).bind fun b=>(spec_l6Rd_pick.f k s b.2.2.2 (l.length:Int)).bind fun c=>if 0 ≤ c.1 then (if c.1 < (l.length:Int) then some (m.f0,m.f1,m.f2,(rd_T25 l c.1).f0,(rd_T25 l c.1).f1,(rd_T25 l c.1).f2) else none) else none) (fun k hk=>?_) (Ev.cb h2 (f:=fun k=>(spec_l6Rd_pick.f k s p2 (l.length:Int)).bind fun c=>if 0 ≤ c.1 then (if c.1 < (l.length:Int) then some (m.f0,m.f1,m.f2,(rd_T25 l c.1).f0,(rd_T25 l c.1).f1,(rd_T25 l c.1).f2) else none) else none) (fun k hk=>?_) (Ev.cb hu (f:=fun _=>some (m.f0,m.f1,m.f2,l[i].f0,l[i].f1,l[i].f2)) (fun k hk=>?_) (Ev.now _)))⟩
  ·simp only [spec_DrawSealUnder.f]
   rw [ho,Option.bind_some]
   dsimp only
   rw [hk,Option.bind_some]
   dsimp only
   simp only [if_pos h0]
  ·rw [hk,Option.bind_some]
  ·rw [hk,Option.bind_some,if_pos u0,if_pos u1,rd25_nat _ _ hi]
 ·refine ⟨m,x,hm,hx,Ev.cb h1 (f:=fun k=>(spec_l92Seal.f k s p1 2).bind fun b=>some (m.f0,m.f1,m.f2,b.1,b.2.1,b.2.2.1)) (fun k hk=>?_) (Ev.cb h2 (f:=fun _=>some (m.f0,m.f1,m.f2,x.f0,x.f1,x.f2)) (fun k hk=>?_) (Ev.now _))⟩
  ·simp only [spec_DrawSealUnder.f]
   rw [ho,Option.bind_some]
   dsimp only
   rw [hk,Option.bind_some]
   dsimp only
   simp only [if_neg h0]
  ·rw [hk,Option.bind_some]
theorem okT_ok {x:S25} (h:OkT x):x.ok = true:=by
 induction h with
 | name b h0 h1=>simp [S25.ok,okL,okHead,h0,h1]
 | pair p q hp hq i1 i2=>simp [S25.ok,okL,okHead,i1,i2]
 | shut p q hp hq i1 i2=>simp [S25.ok,okL,okHead,i1,i2]
theorem sealOk_part {x:S25} (hc:sealOk x = true) (hw:W25 x):∀ y,y ∈ x.f2 → sealOk y = true:=by
 obtain ⟨ht,hn⟩:=sealOk_t hw hc
 intro y hy
 have h1:=okT_ok (ht.part y hy)
 have h2:=nodes_part hy
 unfold sealOk
 rw [h1,decide_eq_true (by omega)]
 rfl
theorem law_l0 {m x:S25} {x0:Bool} (hm:W25 m) (hx:W25 x) (cm:sealOk m = true) (cx:sealOk x = true):∀ (d i:Nat) (b:Bool),i + d = x.f2.length → Ev (fun k=>laws_FnSealUnder.l0 k x0 b i m.f0 m.f1 m.f2 x.f0 x.f1 x.f2) (x0 == (b || (x.f2.drop i).any m.un)):=by
 have hlen:=hx.len
 intro d
 induction d with
 | zero =>
  intro i b hi
  rw [List.drop_eq_nil_of_le (by omega)]
  refine Ev.step (f:=fun _=>some (x0 == b)) (fun k=>?_) (Ev.to (Ev.now _) (by simp))
  simp only [laws_FnSealUnder.l0]
  rw [if_neg (by omega)]
 | succ d ih =>
  intro i b hi
  have hil:i < x.f2.length:=by omega
  rw [List.drop_eq_getElem_cons hil,List.any_cons]
  cases b with
  | true =>
   refine Ev.step (fun k=>?_) (Ev.to (ih (i + 1) true (by omega)) (by simp))
   simp only [laws_FnSealUnder.l0]
   rw [if_pos (by omega),if_pos (by trivial),wrap_succ hil (by omega)]
  | false =>
   have hmem:x.f2[i] ∈ x.f2:=List.getElem_mem hil
   have hp:=implUnder_ev hm (hx.part _ hmem)
   rw [cm,sealOk_part cx hx _ hmem,Bool.true_and,Bool.true_and] at hp
   refine Ev.sb hp (fun k hk=>?_) (Ev.to (ih (i + 1) (m.un x.f2[i]) (by omega)) (by simp))
   simp only [laws_FnSealUnder.l0]
   rw [if_pos (by omega),if_neg (by decide),if_pos (by omega),rd25_nat _ _ hil,hk,Option.bind_some,wrap_succ hil (by omega)]
theorem FnSealUnder:laws_FnSealUnder.Pure:=by
 intro l0 hlen hlen2 hwf
 by_cases hl:(l0.length:Int) > 1048576
 ·exact ⟨0,by simp only [laws_FnSealUnder.f];rw [if_pos hl]⟩
 ·obtain ⟨m,x,hm,hx,K0,h0⟩:=drawUnder_ev hwf
  obtain ⟨K1,h1⟩:=implUnder_ev hm hx
  obtain ⟨K2,h2⟩:=specUnder_ev hm hx
  obtain ⟨K3,h3⟩:=okImpl_ev hm
  obtain ⟨K4,h4⟩:=okImpl_ev hx
  have h0:∀ k,K0 ≤ k → spec_DrawSealUnder.f k l0 = some (m.f0,m.f1,m.f2,x.f0,x.f1,x.f2):=h0
  have h1:∀ k,K1 ≤ k → impl_SealUnder.f k m.f0 m.f1 m.f2 x.f0 x.f1 x.f2 = some (sealOk m && (sealOk x && m.un x)):=h1
  have h2:∀ k,K2 ≤ k → spec_SealUnder.f k m.f0 m.f1 m.f2 x.f0 x.f1 x.f2 = some (sealOk m && (sealOk x && m.un x)):=h2
  have h3:∀ k,K3 ≤ k → impl_SealOk.f k m.f0 m.f1 m.f2 = some (sealOk m):=h3
  have h4:∀ k,K4 ≤ k → impl_SealOk.f k x.f0 x.f1 x.f2 = some (sealOk x):=h4
  have hj:∃ K,∀ k,K ≤ k → laws_FnSealUnder.j0 k (sealOk m && (sealOk x && m.un x)) (!(sealOk m && sealOk x)) m.f0 m.f1 m.f2 x.f0 x.f1 x.f2 = some true:=by
   cases cm:sealOk m with
   | false =>
    refine ⟨1,fun k hk=>?_⟩
    obtain ⟨k,rfl⟩:∃ j,k = j + 1:=⟨k - 1,by omega⟩
    simp only [laws_FnSealUnder.j0]
    rfl
   | true =>
    cases cx:sealOk x with
    | false =>
     refine ⟨1,fun k hk=>?_⟩
     obtain ⟨k,rfl⟩:∃ j,k = j + 1:=⟨k - 1,by omega⟩
     simp only [laws_FnSealUnder.j0]
     rfl
    | true =>
     have hu:m.un x = (decide (m.tx.toList = x.tx.toList) || x.f2.any m.un):=by
      obtain ⟨a,b,l⟩:=x
      rw [S25.un,unL_any]
     have t1:=implText_ev hm
     have t2:=implText_ev hx
     rw [cm,if_pos rfl] at t1
     rw [cx,if_pos rfl] at t2
     have h:=law_l0 (x0:=m.un x) hm hx cm cx x.f2.length 0 (m.tx.toList == x.tx.toList) (by omega)
     have h5:Ev (fun k=>laws_FnSealUnder.j0 k (m.un x) false m.f0 m.f1 m.f2 x.f0 x.f1 x.f2) true:=by
      refine Ev.sb t1 (f:=fun k=>(impl_SealText.f k x.f0 x.f1 x.f2).bind fun t=>laws_FnSealUnder.l0 k (m.un x) (m.tx.toList == t.toList) 0 m.f0 m.f1 m.f2 x.f0 x.f1 x.f2) (fun k hk=>?_) (Ev.cb t2 (fun k hk=>?_) (Ev.to h ?_))
      ·simp only [laws_FnSealUnder.j0]
       rw [if_neg (by decide),hk,Option.bind_some]
      ·rw [hk,Option.bind_some]
       rfl
      ·have e:decide (m.tx.toList = x.tx.toList) = (m.tx.toList == x.tx.toList):=by
        by_cases h:m.tx.toList = x.tx.toList <;> simp [h]
       rw [List.drop_zero,hu,e]
       simp
     exact h5
  obtain ⟨K5,h5⟩:=hj
  refine ⟨K0 + K1 + K2 + K3 + K4 + K5,?_⟩
  unfold laws_FnSealUnder.f
  rw [if_neg hl,h0 _ (by omega),Option.bind_some]
  dsimp only
  rw [h1 _ (by omega),Option.bind_some,h2 _ (by omega),Option.bind_some,if_neg (by simp),h3 _ (by omega),Option.bind_some]
  have h6:=h5 (K0 + K1 + K2 + K3 + K4 + K5) (by omega)
  cases cm:sealOk m with
  | false =>
   rw [cm] at h6
   rw [if_neg (by decide)]
   exact h6
  | true =>
   rw [cm] at h6
   rw [if_pos rfl,h4 _ (by omega),Option.bind_some]
   exact h6
end Go.Proofs.YtbcjpdahdecehaaDoor.Pure
