/- What is folded cannot be folded (P93). No condition. -/
import Derived.Test.YtablnoddkllhmaaP0
import Derived.Test.YtablnoddkllhmaaP1
import Derived.Test.YtablnoddkllhmaaP2
import Derived.Test.YtablnoddkllhmaaP3
import Derived.Test.YtablnoddkllhmaaHDraw
import Derived.Test.YtablnoddkllhmaaDrawCh
import Derived.Test.YtablnoddkllhmaaMn
import Derived.Test.YtablnoddkllhmaaChLump
import Derived.Test.YtablnoddkllhmaaCls3
namespace Go.Proofs.Ytablnoddkllhmaa.P
open Go.RowKit Go.Proofs.YtablnoddkllhmaaW.PrintWords Go.Proofs.YtablnoddkllhmaaW.PrintLast
set_option linter.unusedVariables false
set_option linter.unusedSimpArgs false
theorem mnRows_l0 (xs:List (List Int)) (hn:xs.length ≤ 1048576) (hx:∀ i:Nat,(rd_L1 xs i).length ≤ 1048576) (d:Nat):∀ i:Nat,i + d = xs.length → Ev (fun k=>laws_mnRows.l0 k xs xs i) true:=by
 induction d with
 | zero =>
  intro i hi
  refine Ev.step (f:=fun _=>some true) (fun k=>?_) (Ev.now _)
  simp only [laws_mnRows.l0]
  rw [if_neg (by omega)]
 | succ d ih =>
  intro i hi
  refine Ev.sb (mnInts_ev (rd_L1 xs i) (hx i)) (fun k hk=>?_) (ih (i + 1) (by omega))
  simp only [laws_mnRows.l0]
  rw [if_pos (by omega),if_pos (by omega),if_pos (by omega),hk]
  simp only [Option.bind_some]
  rw [if_pos trivial,wrap_succ (show i < xs.length by omega) (by omega)]
theorem mnChances_ev (m:List Int) (ws:List (List Int)) (hm:m.length ≤ 1048576) (hn:ws.length ≤ 1048576) (hx:∀ i:Nat,(rd_L1 ws i).length ≤ 1048576):Ev (fun k=>laws_mnChances.f k m ws m ws) true:=by
 refine Ev.cb (mnInts_ev m hm) (fun k hk=>?_) (f:=fun k=>(laws_mnRows.f k ws ws).bind fun t=>some t) (Ev.bind (f:=fun _ t=>some t) (a:=true) ?_ (Ev.now _))
 ·simp only [laws_mnChances.f]
  rw [hk]
  simp only [Option.bind_some]
  rw [if_pos trivial]
 ·refine Ev.congr (fun k=>?_) (mnRows_l0 ws hn hx ws.length 0 (by omega))
  simp only [laws_mnRows.f]
  rw [if_pos trivial]
  rfl
theorem rdL_ext {xs ys:List (List Int)} (hl:xs.length = ys.length) (h:∀ i:Nat,i < xs.length → rd_L1 xs i = rd_L1 ys i):xs = ys:=by
 refine List.ext_getElem hl (fun i h1 h2=>?_)
 have:=h i h1
 rwa [rdL_nat _ _ h1,rdL_nat _ _ h2] at this
theorem cnt_all {cl:List Int} {n:Nat} (h:∀ i:Nat,i < n → rd cl i = (i:Int)):∀ s:Nat,s ≤ n → cnt cl s = s
 | 0,_=>rfl
 | s + 1,hs=>by rw [cnt,if_pos (h s (by omega)),cnt_all h s (by omega)]
theorem sg_self (f:Nat → Int) (t n:Nat) (ht:t < n):sg (fun i=>if (i:Int) = (t:Int) then f i else 0) n = f t:=by
 have h1:=sg_single (f t) t n
 rw [if_pos ht] at h1
 refine Eq.trans (sg_congr (fun i hi=>?_)) h1
 by_cases h:i = t
 ·rw [if_pos (by omega),if_pos h,h]
 ·rw [if_neg (by omega),if_neg h]
theorem fold_self {m:List Int} {ws:List (List Int)} {n:Nat} (hch:Chain m ws n) (h:∀ i:Nat,i < n → rd (classesP m ws) i = (i:Int)):(foldOf m ws).1 = m∧(foldOf m ws).2 = ws:=by
 have hf:=foldOf_folded hch
 have hc:=cnt_all h
 have hl:(classesP m ws).length = n:=by rw [(classesP_canon m ws).len];exact hch.ml
 have e1:=hf.ml
 have e2:=hf.wl
 rw [hc n (Nat.le_refl _)] at e1 e2
 have hrl:=hch.rows.len
 have hml:=hch.ml
 constructor
 ·refine rd_ext (by omega) (fun i hi=>?_)
  have:=hf.mark i (by omega) (h i (by omega))
  rwa [hc i (by omega)] at this
 ·refine rdL_ext (by omega) (fun i hi=>?_)
  have h3:=hf.row i (by omega) (h i (by omega))
  rw [hc i (by omega),hc n (Nat.le_refl _)] at h3
  have h4:=hch.rows.row i (by omega)
  refine rd_ext (by omega) (fun t ht=>?_)
  have h5:=hf.into i t (by omega) (by omega) (h i (by omega)) (h t (by omega))
  rw [hc i (by omega),hc t (by omega),intoP_sg hch hl (by omega)] at h5
  rw [show rd (rd_L1 (foldOf m ws).2 (i:Int)) (t:Int) = wt (foldOf m ws).2 i t from rfl,h5]
  refine Eq.trans (sg_congr (fun u hu=>?_)) (sg_self (fun u=>wt ws i u) t n (by omega))
  rw [h u hu]
theorem lawF_l0 {M:List Int} {W:List (List Int)} {n:Nat} (hch:Chain M W n) (h:∀ i:Nat,i < n → rd (classesP M W) i = (i:Int)) (d:Nat):∀ i:Nat,i + d = n → Ev (fun k=>laws_FnChancesFold.l0 k true (classesP M W) i M W M W) true:=by
 have hl:(classesP M W).length = n:=by rw [(classesP_canon M W).len];exact hch.ml
 have h60:=hch.rows.le
 have hrl:=hch.rows.len
 have hml:=hch.ml
 induction d with
 | zero =>
  intro i hi
  have hok:=hch.ok
  refine Ev.sb (impl_ok M W) (fun k hk=>?_) (f:=fun k=>(laws_mnChances.f k M W M W).bind fun t=>some t) (Ev.bind (f:=fun _ t=>some t) (a:=true) (mnChances_ev M W (by omega) (by omega) (fun i=>?_)) (Ev.now _))
  ·simp only [laws_FnChancesFold.l0]
   rw [if_neg (by omega),hk,hok]
   simp only [Option.bind_some]
   rw [if_pos trivial,if_pos trivial]
  ·rcases Nat.lt_or_ge i W.length with hi | hi
   ·rw [hch.rows.row i (by omega)];omega
   ·unfold rd_L1
    rw [List.getD_eq_getElem?_getD,List.getElem?_eq_none (by simpa using hi)]
    simp
 | succ d ih =>
  intro i hi
  refine Ev.step (fun k=>?_) (ih (i + 1) (by omega))
  simp only [laws_FnChancesFold.l0]
  rw [if_pos (by omega),if_pos (by omega),if_pos (h i (by omega)),wrap_succ (show i < n by omega) (by omega)]
end Go.Proofs.Ytablnoddkllhmaa.P
namespace Go.Proofs.Ytablnoddkllhmaa.Pure
open Go.RowKit Go.Proofs.Ytablnoddkllhmaa.P Go.Proofs.YtablnoddkllhmaaW.PrintWords Go.Proofs.YtablnoddkllhmaaW.PrintLast
theorem FnChancesFold:laws_FnChancesFold.Pure:=by
 intro l0 hlen hlen2 hwf
 by_cases hl:(l0.length:Int) > 1048576
 ·exact ⟨0,by simp only [laws_FnChancesFold.f];rw [if_pos hl]⟩
 ·obtain ⟨s,hs,ho⟩:=open_ev hwf
  obtain ⟨m,ws,p,hsm,_,_,K0,h0⟩:=drawCh_ev hs
  have h0:∀ k,K0 ≤ k → spec_l92Chances.f k s 0 = some (m,ws,p):=h0
  obtain ⟨K1,h1⟩:=implFold_ev m ws
  obtain ⟨K2,h2⟩:=specFold_ev m ws
  have h1:∀ k,K1 ≤ k → impl_ChancesFold.f k m ws = some (foldP m ws):=h1
  have h2:∀ k,K2 ≤ k → spec_ChancesFold.f k m ws = some (foldP m ws):=h2
  have hsmall:=foldP_small m ws
  obtain ⟨K3,h3⟩:=mnChances_ev (foldP m ws).1 (foldP m ws).2.1 hsmall.1 hsmall.2.1 (fun i=>by
   unfold rd_L1
   rw [List.getD_eq_getElem?_getD]
   cases hc:(foldP m ws).2.1[(i:Int).toNat]? with
   | none=>simp
   | some v=>exact hsmall.2.2 v (List.mem_of_getElem? hc))
  have h3:∀ k,K3 ≤ k → laws_mnChances.f k (foldP m ws).1 (foldP m ws).2.1 (foldP m ws).1 (foldP m ws).2.1 = some true:=h3
  have h4:Ev (fun k=>laws_FnChancesFold.j0 k (foldP m ws).2.2 false (foldP m ws).1 (foldP m ws).2.1) true:=by
   cases hh:chOk m ws with
   | false =>
    refine Ev.step (f:=fun _=>some true) (fun k=>?_) (Ev.now _)
    simp only [laws_FnChancesFold.j0]
    rw [if_neg (by simp),if_neg (by simp [foldP,hh])]
   | true =>
    have hch:=chain_of hh
    have hfd:=foldOf_folded hch
    have hfc:=hfd.chain hch (classesP_lump m ws)
    have hdis:=fold_discrete hch hfd
    have hself:=fold_self hfc hdis
    have hok:=hfc.ok
    have e:foldP m ws = ((foldOf m ws).1,(foldOf m ws).2,true):=by simp [foldP,hh]
    rw [e]
    have e2:foldP (foldOf m ws).1 (foldOf m ws).2 = ((foldOf m ws).1,(foldOf m ws).2,true):=by simp [foldP,hok,hself.1,hself.2]
    have e3:clsP (foldOf m ws).1 (foldOf m ws).2 = classesP (foldOf m ws).1 (foldOf m ws).2:=by simp [clsP,hok]
    refine Ev.sb (implFold_ev (foldOf m ws).1 (foldOf m ws).2) (fun k hk=>?_) (Ev.cb (g:=fun k=>(impl_ChancesClasses.f k (foldOf m ws).1 (foldOf m ws).2).bind fun t689=>(laws_FnChancesFold.l0 k true t689 0 (foldOf m ws).1 (foldOf m ws).2 (foldOf m ws).1 (foldOf m ws).2)) (implCls_ev (foldOf m ws).1 (foldOf m ws).2) (fun k hk=>?_) (lawF_l0 hfc hdis _ 0 (Nat.zero_add _)))
    ·simp only [laws_FnChancesFold.j0]
     rw [if_neg (by simp),if_pos trivial,hk,e2]
     simp only [Option.bind_some]
    ·rw [hk,e3]
     simp only [Option.bind_some]
     rfl
  obtain ⟨K4,h4⟩:=h4
  have h4:∀ k,K4 ≤ k → laws_FnChancesFold.j0 k (foldP m ws).2.2 false (foldP m ws).1 (foldP m ws).2.1 = some true:=h4
  refine ⟨K0 + K1 + K2 + K3 + K4,?_⟩
  have hd:spec_DrawChancesFold.f (K0 + K1 + K2 + K3 + K4) l0 = some (m,ws):=by
   unfold spec_DrawChancesFold.f
   rw [ho,Option.bind_some,h0 _ (by omega),Option.bind_some]
  unfold laws_FnChancesFold.f
  rw [if_neg hl,hd,Option.bind_some,h1 _ (by omega),Option.bind_some,h2 _ (by omega),Option.bind_some,h3 _ (by omega),Option.bind_some,if_pos rfl,show ((foldP m ws).2.2 != (foldP m ws).2.2) = false by simp]
  exact h4 _ (by omega)
end Go.Proofs.Ytablnoddkllhmaa.Pure
