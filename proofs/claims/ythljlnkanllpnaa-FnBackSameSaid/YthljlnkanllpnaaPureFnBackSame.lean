/- Going back is the same, in whatever order it was done: plain. No condition. -/
import Derived.Test.YthljlnkanllpnaaP0
import Derived.Test.YthljlnkanllpnaaP2
import Derived.Test.YthljlnkanllpnaaP3
import Derived.Test.YthljlnkanllpnaaP4
import Derived.Test.YthljlnkanllpnaaHistQ
import Derived.Test.YthljlnkanllpnaaHistMax
import Derived.Test.YthljlnkanllpnaaDrawBack
namespace Go.Proofs.Ythljlnkanllpnaa.P
open Go.RowKit Go.Proofs.YthljlnkanllpnaaW.PrintWords Go.Proofs.YthljlnkanllpnaaW.PrintLast
set_option linter.unusedVariables false
set_option linter.unusedSimpArgs false
theorem sameP_refl {th:List (List Int)} {h:List S32} (ho:okH th h = true):sameP th h h = true:=by
 unfold sameP
 rw [ho,(sameB_iff _ _ _).2 (fun _ _=>rfl)]
 rfl
theorem backSame_ev {th:List (List Int)} {h:List S32} {q n:Int} {r:List S32 × Bool} (hs:SmallTh th) (hh:h.length ≤ 1000000) (b:BackIs th h q n r):∀ (d i:Nat) (o:List S32),i + d + 1 = h.length + 1 → o.length = h.length → (r.2 = true → sameP th h o = true) → Ev (fun k=>laws_FnBackSame.l0 k th h q n r.1 r.2 o i) true:=by
 have hrl:r.1.length ≤ 1000000:=by
  rcases b with ⟨_,_,_,_,_,b⟩ | ⟨_,rfl⟩
  ·have:=b.sub.length_le
   omega
  ·simp
 have fin:∀ (i:Nat) (o:List S32),¬ wrap64 ((i:Int) + 1) < (o.length:Int) → o.length = h.length → (r.2 = true → sameP th h o = true) → Ev (fun k=>laws_FnBackSame.l0 k th h q n r.1 r.2 o i) true:=by
  intro i o hi hol hso
  obtain ⟨r',hr'⟩:=backIs_ex th o q n
  have hrl':r'.1.length ≤ 1000000:=by
   rcases hr' with ⟨_,_,_,_,_,b⟩ | ⟨_,rfl⟩
   ·have:=b.sub.length_le
    omega
   ·simp
  cases hb:r.2 with
  | false =>
   refine Ev.sb (hr'.impl hs (by omega)) (fun k hk=>?_) (f:=fun _=>some true) (Ev.now true)
   rw [laws_FnBackSame.l0,if_neg hi,hk,Option.bind_some,if_neg (by simp)]
  | true =>
   have hsame:=hso hb
   have b1:okH th h = true∧0 ≤ q∧q < (th.length:Int)∧0 ≤ n∧BackTo q n h r.1:=by
    rcases b with ⟨x1,x2,x3,x4,_,x5⟩ | ⟨_,rfl⟩
    ·exact ⟨x1,x2,x3,x4,x5⟩
    ·cases hb
   obtain ⟨ok,q0,q1,n0,bt⟩:=b1
   have oo:okH th o = true:=by
    unfold sameP at hsame
    simp only [Bool.and_eq_true] at hsame
    exact hsame.2.1
   have b2:r'.2 = true∧BackTo q n o r'.1:=by
    rcases hr' with ⟨_,_,_,_,x4,x5⟩ | ⟨hc,_⟩
    ·exact ⟨x4,x5⟩
    ·exact absurd ⟨oo,q0,q1,n0⟩ hc
   obtain ⟨q,rfl⟩:∃ q':Nat,q = q':=⟨q.toNat,by omega⟩
   have hsm:=implSame_ev (g:=r.1) (h:=r'.1) hs (by omega) (by omega)
   rw [back_same hsame bt b2.2] at hsm
   refine Ev.sb (hr'.impl hs (by omega)) (fun k hk=>?_) (f:=fun k=>(impl_HistorySame.f k th r.1 r'.1).bind fun t=>some t) (Ev.cb hsm (fun k hk=>by rw [hk,Option.bind_some]) (Ev.now true))
   rw [laws_FnBackSame.l0,if_neg hi,hk,Option.bind_some,if_pos rfl,if_pos b2.1]
 intro d
 induction d with
 | zero =>
  intro i o hi hol hso
  exact fin i o (by rw [wrap_id (by omega) (by omega)];omega) hol hso
 | succ d ih =>
  intro i o hi hol hso
  have e0:wrap64 ((i:Int) + 1) = ((i + 1:Nat):Int):=by rw [wrap_id (by omega) (by omega)];omega
  by_cases hc:wrap64 ((i:Int) + 1) < (o.length:Int)
  ·rw [e0] at hc
   have l1:([]:List S32).length + o.length < 8796093022208:=by rw [List.length_nil];omega
   have hsw:∃ sw:List S32,sw = (o.set i ⟨(rd_T32 o ((i + 1:Nat):Int)).f0,(rd_T32 o ((i + 1:Nat):Int)).f1⟩).set (i + 1) ⟨(rd_T32 o (i:Int)).f0,(rd_T32 o (i:Int)).f1⟩:=⟨_,rfl⟩
   obtain ⟨sw,hsw⟩:=hsw
   have hswl:sw.length = h.length:=by rw [hsw,List.length_set,List.length_set];exact hol
   have hsm:=implSame_ev (g:=h) (h:=sw) hs (by omega) (by omega)
   have head:∀ k,impl_HistorySame.f k th h sw = some (sameP th h sw) → laws_FnBackSame.l0 (k + 1) th h q n r.1 r.2 o i = if sameP th h sw = true then laws_FnBackSame.l0 k th h q n r.1 r.2 sw ((i + 1:Nat):Int) else laws_FnBackSame.l0 k th h q n r.1 r.2 o ((i + 1:Nat):Int):=by
    intro k hk
    rw [laws_FnBackSame.l0,e0,if_pos hc,Option.bind_some,if_pos l1,Option.bind_some,List.nil_append,if_pos (by omega),if_pos hc,if_pos (by omega),if_pos (by omega),Option.bind_some,Int.toNat_natCast,Int.toNat_natCast,← hsw,hk,Option.bind_some]
   cases hb:sameP th h sw with
   | true =>
    refine Ev.sb hsm (fun k hk=>?_) (ih (i + 1) sw (by omega) hswl (fun _=>hb))
    rw [head k hk,hb,if_pos rfl]
   | false =>
    refine Ev.sb hsm (fun k hk=>?_) (ih (i + 1) o (by omega) hol hso)
    rw [head k hk,hb,if_neg (by simp)]
  ·exact fin i o hc hol hso
end Go.Proofs.Ythljlnkanllpnaa.P
namespace Go.Proofs.Ythljlnkanllpnaa.Pure
open Go.RowKit Go.Proofs.Ythljlnkanllpnaa.P Go.Proofs.YthljlnkanllpnaaW.PrintWords Go.Proofs.YthljlnkanllpnaaW.PrintLast
theorem FnBackSame:laws_FnBackSame.Pure:=by
 intro l0 hlen hlen2 hwf
 by_cases hl:(l0.length:Int) > 1048576
 ·exact ⟨0,by simp only [laws_FnBackSame.f];rw [if_pos hl]⟩
 ·obtain ⟨s,hs,ho⟩:=open_ev hwf
  obtain ⟨th,h,q,n,hth,hh,K0,h0⟩:=drawBack_ev hs ho
  obtain ⟨r,hr⟩:=backIs_ex th h q n
  obtain ⟨K1,h1⟩:=hr.impl hth (by omega)
  obtain ⟨K2,h2⟩:=hr.spec hth (by omega)
  have hle:r.1.length ≤ 1048576:=by
   rcases hr with ⟨_,_,_,_,_,b⟩ | ⟨_,rfl⟩
   ·have:=b.sub.length_le
    omega
   ·simp
  obtain ⟨K3,h3⟩:=mnEvents_ev r.1 hle
  have fin:Ev (fun k=>laws_FnBackSame.j0 k th h q n r.1 r.2 false) true:=by
   have l1:([]:List S32).length + h.length < 8796093022208:=by rw [List.length_nil];omega
   refine Ev.step (fun k=>?_) (backSame_ev hth (by omega) hr h.length 0 h (by omega) rfl (fun hb=>?_))
   ·rw [laws_FnBackSame.j0,if_neg (by simp),Option.bind_some,if_pos l1,List.nil_append]
    rfl
   ·rcases hr with ⟨ok,_⟩ | ⟨_,rfl⟩
    ·exact sameP_refl ok
    ·cases hb
  obtain ⟨K4,h4⟩:=fin
  have h0:∀ k,K0 ≤ k → spec_DrawHistoryBack.f k l0 = some (th,h,q,n):=h0
  have h1:∀ k,K1 ≤ k → impl_HistoryBack.f k th h q n = some r:=h1
  have h2:∀ k,K2 ≤ k → spec_HistoryBack.f k th h q n = some r:=h2
  have h3:∀ k,K3 ≤ k → laws_mnEvents.f k r.1 r.1 = some true:=h3
  have h4:∀ k,K4 ≤ k → laws_FnBackSame.j0 k th h q n r.1 r.2 false = some true:=h4
  have e1:(r.2 != r.2) = false:=by simp
  refine ⟨K0 + K1 + K2 + K3 + K4,?_⟩
  unfold laws_FnBackSame.f
  rw [if_neg hl,h0 _ (by omega),Option.bind_some,h1 _ (by omega),Option.bind_some,h2 _ (by omega),Option.bind_some,h3 _ (by omega),Option.bind_some,if_pos rfl,e1]
  exact h4 _ (by omega)
end Go.Proofs.Ythljlnkanllpnaa.Pure
