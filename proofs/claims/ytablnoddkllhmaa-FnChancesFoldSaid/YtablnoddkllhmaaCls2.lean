/- Classes of states: the rounds of the program and of the reference come to the same classes. Plain; no condition. -/
import Derived.Test.YtablnoddkllhmaaP0
import Derived.Test.YtablnoddkllhmaaP1
import Derived.Test.YtablnoddkllhmaaP2
import Derived.Test.YtablnoddkllhmaaHClasses
import Derived.Test.YtablnoddkllhmaaCls
namespace Go.Proofs.Ytablnoddkllhmaa.P
open Go.RowKit Go.Proofs.YtablnoddkllhmaaW.PrintWords Go.Proofs.YtablnoddkllhmaaW.PrintLast
set_option linter.unusedVariables false
set_option linter.unusedSimpArgs false
def nextP (ws:List (List Int)) (cl:List Int):List Int:=partP cl (sumsP ws cl)
def ccF (ws:List (List Int)):Nat → List Int → List Int
 | 0,cl=>cl
 | d + 1,cl=>if nextP ws cl = cl then cl else ccF ws d (nextP ws cl)
def classesP (m:List Int) (ws:List (List Int)):List Int:=ccF ws (m.length + 1) (ccStart m)
theorem next_canon {cl:List Int} {n:Nat} (ws:List (List Int)) (h:Canon cl n):Canon (nextP ws cl) n:=by
 have:=partP_canon cl (sumsP ws cl)
 rwa [h.len] at this
theorem start_canon (m:List Int):Canon (ccStart m) m.length:=by
 have:=partP_canon (List.replicate m.length 0) (marks1 m)
 rwa [List.length_replicate] at this
theorem countP_lt {α:Type} (p q:α → Bool):∀ l:List α,(∀ x ∈ l,p x = true → q x = true) → (∃ x ∈ l,q x = true∧p x = false) → l.countP p < l.countP q
 | [],_,h=>by obtain ⟨x,hx,_⟩:=h;cases hx
 | y :: l,h,hx=>by
  have hle:l.countP p ≤ l.countP q:=List.countP_mono_left (fun x hx hp=>h x (List.mem_cons_of_mem _ hx) hp)
  simp only [List.countP_cons]
  obtain ⟨x,hm,hq,hp⟩:=hx
  rcases List.mem_cons.1 hm with rfl | hm
  ·rw [hq,hp];simp;omega
  ·have:=countP_lt p q l (fun x hx hp=>h x (List.mem_cons_of_mem _ hx) hp) ⟨x,hm,hq,hp⟩
   have hy:=h y (List.mem_cons_self ..)
   cases hpy:p y with
   | false=>simp;omega
   | true=>rw [hy hpy];simp;omega
def repN (cl:List Int) (n:Nat):Nat:=(List.range n).countP fun s:Nat=>decide (rd cl s = (s:Int))
theorem repN_le (cl:List Int) (n:Nat):repN cl n ≤ n:=by
 have:=List.countP_le_length (p:=fun s:Nat=>decide (rd cl s = (s:Int))) (l:=List.range n)
 rwa [List.length_range] at this
theorem repN_lt {cl:List Int} {n:Nat} (ws:List (List Int)) (h:Canon cl n) (hne:nextP ws cl ≠ cl):repN cl n < repN (nextP ws cl) n:=by
 have hl:=h.len
 refine countP_lt _ _ _ (fun s hs hp=>?_) ?_
 ·have hs:=List.mem_range.1 hs
  have hp:=of_decide_eq_true hp
  have h1:=least_spec cl (sumsP ws cl) s
  have h2:=least_le cl (sumsP ws cl) s
  have h3:=h.low (least cl (sumsP ws cl) s) (by omega)
  refine decide_eq_true ?_
  rw [nextP,partP_rd _ _ _ (by omega)]
  rw [h1.1,hp] at h3
  omega
 ·have:∃ s:Nat,s < n∧rd (nextP ws cl) s ≠ rd cl s:=by
   refine Classical.byContradiction fun hno=>hne (rd_ext ?_ (fun i hi=>?_))
   ·rw [nextP,partP_length]
   ·rw [nextP,partP_length,hl] at hi
    exact Classical.byContradiction fun hc=>hno ⟨i,hi,hc⟩
  obtain ⟨s,hs,hc⟩:=this
  have h1:=least_spec cl (sumsP ws cl) s
  have h2:=least_le cl (sumsP ws cl) s
  have h3:rd (nextP ws cl) s = (least cl (sumsP ws cl) s:Int):=partP_rd _ _ _ (by omega)
  refine ⟨least cl (sumsP ws cl) s,List.mem_range.2 (by omega),decide_eq_true ?_,decide_eq_false fun hr=>hc ?_⟩
  ·rw [nextP,partP_rd _ _ _ (by omega),least_idem]
  ·rw [h3,← hr,h1.1]
theorem ccL_ev {ws:List (List Int)} {n:Nat} (d:Nat):∀ cl,Canon cl n → n + 1 ≤ d + repN cl n → Ev (fun k=>ccL ws k cl) (ccF ws d cl):=by
 induction d with
 | zero=>intro cl hc hd;have:=repN_le cl n;omega
 | succ d ih =>
  intro cl hc hd
  by_cases e:nextP ws cl = cl
  ·refine Ev.step (f:=fun _=>some cl) (fun k=>?_) (Ev.to (Ev.now cl) (by rw [ccF,if_pos e]))
   rw [ccL]
   show (if nextP ws cl = cl then some (nextP ws cl) else _) = _
   rw [if_pos e,e]
  ·have:=repN_lt ws hc e
   refine Ev.step (fun k=>?_) (Ev.to (ih _ (next_canon ws hc) (by omega)) (by rw [ccF,if_neg e]))
   rw [ccL]
   show (if nextP ws cl = cl then some (nextP ws cl) else ccL ws k (nextP ws cl)) = _
   rw [if_neg e]
theorem implClasses_ev {m:List Int} {ws:List (List Int)} (h:goodCh m ws):Ev (fun k=>impl_chanceClasses.f k m ws) (classesP m ws):=by
 refine Ev.congr (fun k=>?_) (ccL_ev (ws:=ws) (m.length + 1) (ccStart m) (start_canon m) (by omega))
 rw [impl_chanceClasses.f,if_pos h]
theorem same_ev (xs ys:List Int) (hl:xs.length = ys.length) (hm:xs.length ≤ 1048576):Ev (fun k=>spec_l4Same.f k xs ys) (decide (xs = ys)):=by
 have loop:∀ (d i:Nat),i + d = xs.length → Ev (fun k=>spec_l4Same.l0 k xs ys i) (decide (xs.drop i = ys.drop i)):=by
  intro d
  induction d with
  | zero =>
   intro i hi
   rw [List.drop_eq_nil_of_le (by omega),List.drop_eq_nil_of_le (by omega)]
   refine Ev.step (f:=fun _=>some true) (fun k=>?_) (Ev.to (Ev.now true) (by simp))
   simp only [spec_l4Same.l0]
   rw [if_neg (by omega)]
  | succ d ih =>
   intro i hi
   have h1:i < xs.length:=by omega
   have h2:i < ys.length:=by omega
   rw [List.drop_eq_getElem_cons h1,List.drop_eq_getElem_cons h2]
   by_cases e:xs[i] = ys[i]
   ·refine Ev.step (fun k=>?_) (Ev.to (ih (i + 1) (by omega)) (by rw [decide_eq_decide,List.cons.injEq];simp only [e,true_and]))
    simp only [spec_l4Same.l0]
    rw [if_pos (by omega),if_pos (by omega),if_pos (by omega),if_pos (by rw [rd_nat _ _ h1,rd_nat _ _ h2];exact e),wrap_succ h1 (by omega)]
   ·refine Ev.step (f:=fun _=>some false) (fun k=>?_) (Ev.to (Ev.now false) (decide_eq_false (fun h=>e (List.cons.inj h).1)).symm)
    simp only [spec_l4Same.l0]
    rw [if_pos (by omega),if_pos (by omega),if_pos (by omega),if_neg (by rw [rd_nat _ _ h1,rd_nat _ _ h2];exact e)]
 refine Ev.congr (fun k=>?_) (loop xs.length 0 (by omega))
 simp only [spec_l4Same.f]
 rw [if_pos (by omega)]
 rfl
def lows (cl:List Int) (f:Nat → List Int) (s:Nat):List Int:=(List.range s).map fun s=>(least cl f s:Int)
theorem lows_succ (cl:List Int) (f:Nat → List Int) (s:Nat):lows cl f (s + 1) = lows cl f s ++ [(least cl f s:Int)]:=by simp [lows,List.range_succ]
theorem lows_length (cl:List Int) (f:Nat → List Int) (s:Nat):(lows cl f s).length = s:=by simp [lows]
theorem cls_l1 {m:List Int} {ws:List (List Int)} {x3 r:List Int} {s:Nat} (hs:s < m.length) (hm:m.length ≤ 60) (h3:x3.length ≤ 100) (d:Nat):∀ acc:Nat,d ≤ s →
  Ev (fun k=>spec_l18Classes.l0 k (x3 ++ [(dnD (fun i=>rd m i = rd m s) d acc:Int)]) ((s + 1:Nat):Int) m ws) r → Ev (fun k=>spec_l18Classes.l1 k x3 s acc ((d:Int) - 1) m ws) r:=by
 induction d with
 | zero =>
  intro acc hd h
  refine Ev.step (fun k=>?_) h
  simp only [spec_l18Classes.l1]
  rw [if_neg (by omega),if_pos (by omega),wrap_succ hs (by omega)]
  rfl
 | succ d ih =>
  intro acc hd h
  rw [dnD] at h
  by_cases e:rd m d = rd m s
  ·rw [if_pos e] at h
   refine Ev.step (fun k=>?_) (ih d (by omega) h)
   simp only [spec_l18Classes.l1]
   rw [show ((d + 1:Nat):Int) - 1 = (d:Int) by omega,if_pos (by omega),if_pos (by omega),if_pos (by omega),if_pos (by omega),if_pos (by omega),if_pos e,wrap_id (by omega) (by omega)]
  ·rw [if_neg e] at h
   refine Ev.step (fun k=>?_) (ih acc (by omega) h)
   simp only [spec_l18Classes.l1]
   rw [show ((d + 1:Nat):Int) - 1 = (d:Int) by omega,if_pos (by omega),if_pos (by omega),if_pos (by omega),if_pos (by omega),if_pos (by omega),if_neg e,wrap_id (by omega) (by omega)]
theorem cls_l4 {m:List Int} {ws:List (List Int)} {cl nx r:List Int} {s n:Nat} (hr:Rows ws n) (hc:Canon cl n) (hs:s < n) (h7:nx.length ≤ 100) (d:Nat):∀ acc:Nat,d ≤ s →
  Ev (fun k=>spec_l18Classes.l3 k cl (nx ++ [(dnD (fun i=>rd cl i = rd cl s∧sumsP ws cl i = sumsP ws cl s) d acc:Int)]) ((s + 1:Nat):Int) m ws) r → Ev (fun k=>spec_l18Classes.l4 k cl nx s acc ((d:Int) - 1) m ws) r:=by
 have hn:=hr.le
 have hl:=hc.len
 induction d with
 | zero =>
  intro acc hd h
  refine Ev.step (fun k=>?_) h
  simp only [spec_l18Classes.l4]
  rw [if_neg (by omega),if_pos (by omega),wrap_succ hs (by omega)]
  rfl
 | succ d ih =>
  intro acc hd h
  rw [dnD] at h
  by_cases e:rd cl d = rd cl s
  ·by_cases e2:sumsP ws cl d = sumsP ws cl s
   ·rw [if_pos ⟨e,e2⟩] at h
    refine Ev.sb (alike_ev (m:=m) hr hc hs (show d < n by omega)) (fun k hk=>?_) (ih d (by omega) h)
    simp only [spec_l18Classes.l4]
    rw [show ((d + 1:Nat):Int) - 1 = (d:Int) by omega,if_pos (by omega),if_pos (by omega),if_pos (by omega),if_pos (by omega),if_pos (by omega),if_pos e,hk,decide_eq_true e2]
    simp only [Option.bind_some]
    rw [if_pos trivial,wrap_id (by omega) (by omega)]
   ·rw [if_neg (fun h=>e2 h.2)] at h
    refine Ev.sb (alike_ev (m:=m) hr hc hs (show d < n by omega)) (fun k hk=>?_) (ih acc (by omega) h)
    simp only [spec_l18Classes.l4]
    rw [show ((d + 1:Nat):Int) - 1 = (d:Int) by omega,if_pos (by omega),if_pos (by omega),if_pos (by omega),if_pos (by omega),if_pos (by omega),if_pos e,hk,decide_eq_false e2]
    simp only [Option.bind_some]
    rw [if_neg (by simp),wrap_id (by omega) (by omega)]
  ·rw [if_neg (fun h=>e h.1)] at h
   refine Ev.step (fun k=>?_) (ih acc (by omega) h)
   simp only [spec_l18Classes.l4]
   rw [show ((d + 1:Nat):Int) - 1 = (d:Int) by omega,if_pos (by omega),if_pos (by omega),if_pos (by omega),if_pos (by omega),if_pos (by omega),if_neg e,wrap_id (by omega) (by omega)]
theorem cls_l3 {m:List Int} {ws:List (List Int)} {cl r:List Int} {n:Nat} (hr:Rows ws n) (hc:Canon cl n) (hend:Ev (fun k=>spec_l18Classes.l3 k cl (nextP ws cl) n m ws) r) (d:Nat):∀ s:Nat,s + d = n →
  Ev (fun k=>spec_l18Classes.l3 k cl (lows cl (sumsP ws cl) s) s m ws) r:=by
 have hn:=hr.le
 have hl:=hc.len
 induction d with
 | zero =>
  intro s hs
  obtain rfl:s = n:=by omega
  have:lows cl (sumsP ws cl) s = nextP ws cl:=by rw [nextP,partP,lows,hl]
  rw [this]
  exact hend
 | succ d ih =>
  intro s hs
  have h:=ih (s + 1) (by omega)
  rw [lows_succ,least_dnD] at h
  refine Ev.step (fun k=>?_) (cls_l4 (m:=m) hr hc (show s < n by omega) (by rw [lows_length];omega) s s (Nat.le_refl _) h)
  simp only [spec_l18Classes.l3]
  rw [if_pos (by omega),wrap_id (by omega) (by omega)]
theorem cls_l2 {m:List Int} {ws:List (List Int)} {n:Nat} (hr:Rows ws n) (d:Nat):∀ cl,Canon cl n → n + 1 ≤ d + repN cl n → Ev (fun k=>spec_l18Classes.l2 k cl m ws) (ccF ws d cl):=by
 have hn:=hr.le
 induction d with
 | zero=>intro cl hc hd;have:=repN_le cl n;omega
 | succ d ih =>
  intro cl hc hd
  have hl:=hc.len
  have hnl:(nextP ws cl).length = cl.length:=by rw [nextP,partP_length]
  refine Ev.step (fun k=>by simp only [spec_l18Classes.l2];rfl) (cls_l3 (m:=m) hr hc ?_ n 0 (by omega))
  by_cases e:nextP ws cl = cl
  ·refine Ev.sb (f:=fun _=>some cl) (same_ev (nextP ws cl) cl hnl (by omega)) (fun k hk=>?_) (Ev.to (Ev.now cl) (by rw [ccF,if_pos e]))
   simp only [spec_l18Classes.l3]
   rw [if_neg (by omega),hk,decide_eq_true e]
   simp
  ·have:=repN_lt ws hc e
   refine Ev.sb (same_ev (nextP ws cl) cl hnl (by omega)) (fun k hk=>?_) (Ev.to (ih _ (next_canon ws hc) (by omega)) (by rw [ccF,if_neg e]))
   simp only [spec_l18Classes.l3]
   rw [if_neg (by omega),hk,decide_eq_false e]
   simp
theorem start_dn (m:List Int) (s:Nat):least (List.replicate m.length 0) (marks1 m) s = dnD (fun i=>rd m i = rd m s) s s:=by
 rw [dnD_eq,least,leastP_upD]
 refine upD_congr s s 0 (fun i _ _=>?_)
 rw [rd_zeros,rd_zeros]
 simp [marks1]
theorem specClasses_ev {m:List Int} {ws:List (List Int)} (hr:Rows ws m.length):Ev (fun k=>spec_l18Classes.f k m ws) (classesP m ws):=by
 have hn:=hr.le
 have loop:∀ (d s:Nat),s + d = m.length → Ev (fun k=>spec_l18Classes.l0 k (lows (List.replicate m.length 0) (marks1 m) s) s m ws) (classesP m ws):=by
  intro d
  induction d with
  | zero =>
   intro s hs
   have:lows (List.replicate m.length 0) (marks1 m) s = ccStart m:=by rw [ccStart,partP,lows,List.length_replicate,show s = m.length by omega]
   rw [this]
   refine Ev.step (fun k=>?_) (cls_l2 (m:=m) hr (m.length + 1) (ccStart m) (start_canon m) (by omega))
   simp only [spec_l18Classes.l0]
   rw [if_neg (by omega)]
  | succ d ih =>
   intro s hs
   have h:=ih (s + 1) (by omega)
   rw [lows_succ,start_dn] at h
   refine Ev.step (fun k=>?_) (cls_l1 (show s < m.length by omega) hn (by rw [lows_length];omega) s s (Nat.le_refl _) h)
   simp only [spec_l18Classes.l0]
   rw [if_pos (by omega),wrap_id (by omega) (by omega)]
 refine Ev.congr (fun k=>?_) (loop m.length 0 (by omega))
 simp only [spec_l18Classes.f]
 rfl
theorem ccF_canon (ws:List (List Int)) {n:Nat}:∀ d cl,Canon cl n → Canon (ccF ws d cl) n
 | 0,cl,h=>h
 | d + 1,cl,h=>by
  rw [ccF]
  by_cases e:nextP ws cl = cl
  ·rw [if_pos e];exact h
  ·rw [if_neg e];exact ccF_canon ws d _ (next_canon ws h)
theorem classesP_canon (m:List Int) (ws:List (List Int)):Canon (classesP m ws) m.length:=ccF_canon ws _ _ (start_canon m)
theorem chOk_good {m:List Int} {ws:List (List Int)} (h:chOk m ws = true):goodCh m ws:=by
 obtain ⟨hr,_⟩:=chOk_rows h
 refine ⟨hr.le,hr.len,fun x hx=>?_⟩
 obtain ⟨i,hi,rfl⟩:=List.mem_iff_getElem.1 hx
 have:=hr.row i (by rw [← hr.len];exact hi)
 rwa [rdL_nat _ _ hi] at this
end Go.Proofs.Ytablnoddkllhmaa.P
