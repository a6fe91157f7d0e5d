/- Folded, a chain comes to each mark as likely (P94). No condition. -/
import Derived.Test.YtablnoddkllhmaaP0
import Derived.Test.YtablnoddkllhmaaP1
import Derived.Test.YtablnoddkllhmaaP2
import Derived.Test.YtablnoddkllhmaaP3
import Derived.Test.YtablnoddkllhmaaHDraw
import Derived.Test.YtablnoddkllhmaaDrawCh
import Derived.Test.YtablnoddkllhmaaMn
import Derived.Test.YtablnoddkllhmaaChMark
import Derived.Test.YtablnoddkllhmaaCls3
namespace Go.Proofs.Ytablnoddkllhmaa.P
open Go.RowKit Go.Proofs.YtablnoddkllhmaaW.PrintWords Go.Proofs.YtablnoddkllhmaaW.PrintLast
set_option linter.unusedVariables false
set_option linter.unusedSimpArgs false
theorem askP_true {m:List Int} {ws:List (List Int)} {n:Nat} (hch:Chain m ws n) {a b:Nat} (ha:a < n) (hb:b ≤ 12):askP m ws a b = true:=by
 have h1:=hch.ml
 simp only [askP,Bool.and_eq_true,decide_eq_true_eq]
 exact ⟨hch.ok,⟨by omega,by omega⟩,by omega,by omega⟩
theorem markP_true {m:List Int} {ws:List (List Int)} {n:Nat} (hch:Chain m ws n) {a b:Nat} (ha:a < n) (hb:b ≤ 12) {mark:Int} (h0:0 ≤ mark) (h9:mark ≤ 9):markP m ws a b mark = (mkL m ws mark (beginP n a) (b + 1) 0 [],true):=by
 have h1:=hch.ml
 rw [markP,if_pos (by rw [askP_true hch ha hb];simp [h0,h9]),h1]
 rfl
section
variable {m:List Int} {ws:List (List Int)} {cl:List Int} {n:Nat} {b:Nat} {mark:Int} {x:List Int} (hch:Chain m ws n) (hl:Lump m ws cl n) (hb:b ≤ 12) (h0:0 ≤ mark) (h9:mark ≤ 9)
include hch hl hb h0 h9
theorem lawM_l1 {s q:Nat} (hs:s < n) (hsq:rd cl s = (q:Int)) (hx:x.length ≤ 60) (hall:∀ t:Nat,t < n → rd cl t = (q:Int) → (markP m ws t b mark).1 = x) (d:Nat):∀ t:Nat,t + d = n →
  Ev (fun k=>laws_FnChancesMark.l1 k s b mark x true cl x true t m ws) true:=by
 have h60:=hch.rows.le
 have hcl:=hl.len
 induction d with
 | zero =>
  intro t ht
  refine Ev.step (f:=fun k=>(laws_mnInts.f k x x).bind fun t578=>(some t578)) (fun k=>?_) (Ev.bind (f:=fun _ t=>some t) (a:=true) (mnInts_ev x (by omega)) (Ev.now _))
  simp only [laws_FnChancesMark.l1]
  rw [if_neg (by omega),if_pos trivial,if_pos trivial]
 | succ d ih =>
  intro t ht
  by_cases hc:rd cl t = rd cl s
  ·have h1:=markP_true hch (show t < n by omega) hb h0 h9
   have h2:=hall t (by omega) (hc.trans hsq)
   refine Ev.sb (implMark_ev m ws t b mark) (fun k hk=>?_) (Ev.cb (g:=fun k=>(laws_mnInts.f k x x).bind fun t585=>(if t585 = true then (laws_FnChancesMark.l1 k s b mark x true cl x true ((t + 1:Nat):Int) m ws) else (some false))) (mnInts_ev x (by omega)) (fun k hk=>?_) (ih (t + 1) (by omega)))
   ·simp only [laws_FnChancesMark.l1]
    rw [if_pos (by omega),hk]
    simp only [Option.bind_some]
    rw [if_pos (by omega),if_pos (by omega),if_pos (by omega),if_pos hc,h2,if_pos (by rw [h1]),wrap_succ (show t < n by omega) (by omega)]
   ·rw [hk]
    simp only [Option.bind_some]
    rw [if_pos trivial]
  ·refine Ev.sb (implMark_ev m ws t b mark) (fun k hk=>?_) (ih (t + 1) (by omega))
   simp only [laws_FnChancesMark.l1]
   rw [if_pos (by omega),hk]
   simp only [Option.bind_some]
   rw [if_pos (by omega),if_pos (by omega),if_pos (by omega),if_neg hc,wrap_succ (show t < n by omega) (by omega)]
theorem lawM_l0 {M:List Int} {W:List (List Int)} {s q:Nat} (hs:s < n) (hq:q < n) (hsq:rd cl s = (q:Int)) (hx:x.length ≤ 60) (hall:∀ t:Nat,t < n → rd cl t = (q:Int) → (markP m ws t b mark).1 = x) (hf:markP M W (cnt cl q) b mark = (x,true)) (d:Nat):∀ t:Nat,t + d = q →
  Ev (fun k=>laws_FnChancesMark.l0 k s b mark x true cl (cnt cl t) t m ws M W) true:=by
 have h60:=hch.rows.le
 have hcl:=hl.len
 induction d with
 | zero =>
  intro t ht
  have ht':t = q:=by omega
  subst ht'
  refine Ev.sb (implMark_ev M W (cnt cl t) b mark) (fun k hk=>?_) (lawM_l1 hch hl hb h0 h9 hs hsq hx hall n 0 (by omega))
  simp only [laws_FnChancesMark.l0]
  rw [if_pos (by omega),if_pos (by omega),if_neg (by omega),hk,hf]
  simp only [Option.bind_some]
  rfl
 | succ d ih =>
  intro t ht
  have hle:=cnt_le cl t
  refine Ev.step (fun k=>?_) (ih (t + 1) (by omega))
  simp only [laws_FnChancesMark.l0]
  rw [if_pos (by omega),if_pos (by omega),if_pos (by omega),if_pos (by omega),if_pos (by omega),wrap_succ (show t < n by omega) (by omega),cnt]
  by_cases hc:rd cl t = (t:Int)
  ·rw [if_pos hc,if_pos hc,wrap_succ (show cnt cl t < 100 by omega) (by omega)]
  ·rw [if_neg hc,if_neg hc]
   rfl
end
end Go.Proofs.Ytablnoddkllhmaa.P
namespace Go.Proofs.Ytablnoddkllhmaa.Pure
open Go.RowKit Go.Proofs.Ytablnoddkllhmaa.P Go.Proofs.YtablnoddkllhmaaW.PrintWords Go.Proofs.YtablnoddkllhmaaW.PrintLast
theorem markJ0 (m:List Int) (ws:List (List Int)) (s n mark:Int):Ev (fun k=>laws_FnChancesMark.j0 k s n mark (markP m ws s n mark).1 (markP m ws s n mark).2 false m ws) true:=by
 by_cases hq:(askP m ws s n && (decide (0 ≤ mark) && decide (mark ≤ 9))) = true
 ·have hq0:=hq
  simp only [Bool.and_eq_true,decide_eq_true_eq] at hq
  obtain ⟨hr,a,b,rfl,rfl,ha,hb⟩:=ask_of hq.1
  have hok:chOk m ws = true:=by have:=hq.1;simp only [askP,Bool.and_eq_true] at this;exact this.1
  have hch:=chain_of hok
  have hl:=classesP_lump m ws
  have hfd:=foldOf_folded hch
  have hfc:=hfd.chain hch hl
  have e1:foldP m ws = ((foldOf m ws).1,(foldOf m ws).2,true):=by simp [foldP,hok]
  have e2:clsP m ws = classesP m ws:=by simp [clsP,hok]
  obtain ⟨q,hqn,hsq,hqq⟩:=hl.rep ha
  have e3:=markP_true hch ha hb hq.2.1 hq.2.2
  have hlen:(mkL m ws mark (beginP m.length a) (b + 1) 0 []).length ≤ 60:=by rw [mkL_length];simp;omega
  have hM:∀ t:Nat,t < m.length → rd (classesP m ws) t = (q:Int) → mkL m ws mark (beginP m.length t) (b + 1) 0 [] = mkL (foldOf m ws).1 (foldOf m ws).2 mark (beginP (cnt (classesP m ws) m.length) (cnt (classesP m ws) q)) (b + 1) 0 []:=fun t ht htq =>
   mkL_congr (b + 1) (fun k hk=>(lump_mark hch hl hfd hfc ht hqn htq hqq (show k ≤ 12 by omega) mark).symm) (b + 1) 0 [] (by omega)
  rw [e3]
  refine Ev.sb (implFold_ev m ws) (fun k hk=>?_) (Ev.cb (g:=fun k=>(impl_ChancesClasses.f k m ws).bind fun t569=>(laws_FnChancesMark.l0 k a b mark (mkL m ws mark (beginP m.length a) (b + 1) 0 []) true t569 0 0 m ws (foldOf m ws).1 (foldOf m ws).2)) (implCls_ev m ws) (fun k hk=>?_) (lawM_l0 (M:=(foldOf m ws).1) (W:=(foldOf m ws).2) hch hl hb hq.2.1 hq.2.2 (x:=mkL m ws mark (beginP m.length a) (b + 1) 0 []) ha hqn hsq hlen (fun t ht htq=>?_) ?_ q 0 (by omega)))
  ·simp only [laws_FnChancesMark.j0]
   rw [if_neg (by simp),if_pos trivial,hk,e1]
   simp only [Option.bind_some]
  ·rw [hk,e2]
   simp only [Option.bind_some]
   rfl
  ·rw [markP_true hch ht hb hq.2.1 hq.2.2]
   exact (hM t ht htq).trans (hM a ha hsq).symm
  ·rw [markP_true hfc (cnt_lt hqq hqn) hb hq.2.1 hq.2.2,hM a ha hsq]
 ·have e:markP m ws s n mark = ([],false):=by rw [markP,if_neg hq]
  rw [e]
  refine Ev.step (f:=fun _=>some true) (fun k=>?_) (Ev.now _)
  simp only [laws_FnChancesMark.j0]
  rw [if_neg (by simp),if_neg (by simp)]
theorem FnChancesMark:laws_FnChancesMark.Pure:=by
 intro l0 hlen hlen2 hwf
 by_cases hl:(l0.length:Int) > 1048576
 ·exact ⟨0,by simp only [laws_FnChancesMark.f];rw [if_pos hl]⟩
 ·obtain ⟨s,hs,ho⟩:=open_ev hwf
  obtain ⟨m,ws,p,hsm,p0,p1,K0,h0⟩:=drawCh_ev hs
  have h0:∀ k,K0 ≤ k → spec_l92Chances.f k s 0 = some (m,ws,p):=h0
  have hml:=hsm.len
  have w1:wrap64 ((m.length:Int) + 1) = (m.length:Int) + 1:=wrap_id (by omega) (by omega)
  obtain ⟨v,v0,v1,K1,h1⟩:=pick_ev hs p0 (by omega) (show (1:Int) ≤ (m.length:Int) + 1 by omega)
  have h1:∀ k,K1 ≤ k → spec_l6Rd_pick.f k s p ((m.length:Int) + 1) = some (v,p + 1):=h1
  obtain ⟨n,q,hn,q0,q1,K2,h2⟩:=drawSteps_ev hs (show 0 ≤ p + 1 by omega) (by omega)
  have h2:∀ k,K2 ≤ k → spec_l92Steps.f k s (p + 1) = some (n,q):=h2
  obtain ⟨u,u0,u1,K7,h7⟩:=pick_ev hs q0 (by omega) (show (1:Int) ≤ 6 by omega)
  have h7:∀ k,K7 ≤ k → spec_l6Rd_pick.f k s q 6 = some (u,q + 1):=h7
  have hd:∀ k,K0 + K1 + K2 + K7 ≤ k → spec_DrawChancesMark.f k l0 = some (m,ws,v,n,rd [0,1,0,1,9,10] u):=by
   intro k hk
   unfold spec_DrawChancesMark.f
   rw [ho,Option.bind_some,h0 k (by omega),Option.bind_some,w1,h1 k (by omega),Option.bind_some,h2 k (by omega),Option.bind_some,Option.bind_some,h7 k (by omega),Option.bind_some,if_pos u0,if_pos (by simp;omega)]
  generalize rd [0,1,0,1,9,10] u = mark at hd
  obtain ⟨K3,h3⟩:=implMark_ev m ws v n mark
  obtain ⟨K4,h4⟩:=specMark_ev m ws v n mark
  have h3:∀ k,K3 ≤ k → impl_ChancesMark.f k m ws v n mark = some (markP m ws v n mark):=h3
  have h4:∀ k,K4 ≤ k → spec_ChancesMark.f k m ws v n mark = some (markP m ws v n mark):=h4
  have hxl:=markP_length m ws v n mark
  obtain ⟨K5,h5⟩:=mnInts_ev (markP m ws v n mark).1 (by omega)
  have h5:∀ k,K5 ≤ k → laws_mnInts.f k (markP m ws v n mark).1 (markP m ws v n mark).1 = some true:=h5
  obtain ⟨K6,h6⟩:=markJ0 m ws v n mark
  have h6:∀ k,K6 ≤ k → laws_FnChancesMark.j0 k v n mark (markP m ws v n mark).1 (markP m ws v n mark).2 false m ws = some true:=h6
  refine ⟨K0 + K1 + K2 + K7 + K3 + K4 + K5 + K6,?_⟩
  unfold laws_FnChancesMark.f
  rw [if_neg hl,hd _ (by omega),Option.bind_some,h3 _ (by omega),Option.bind_some,h4 _ (by omega),Option.bind_some,h5 _ (by omega),Option.bind_some,if_pos rfl,show ((markP m ws v n mark).2 != (markP m ws v n mark).2) = false by simp]
  exact h6 _ (by omega)
end Go.Proofs.Ytablnoddkllhmaa.Pure
