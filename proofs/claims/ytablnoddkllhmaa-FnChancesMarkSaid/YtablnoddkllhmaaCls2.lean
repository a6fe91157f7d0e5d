/- Classes of states: the rounds of the program and of the reference come to the same classes. Plain; no condition. -/
import Derived.Test.YtablnoddkllhmaaP0
import Derived.Test.YtablnoddkllhmaaHClasses
import Derived.Test.YtablnoddkllhmaaCls
namespace Go.Proofs.Ytablnoddkllhmaa.P
open Go.RowKit Go.Proofs.YtablnoddkllhmaaW.PrintWords Go.Proofs.YtablnoddkllhmaaW.PrintLast
set_option linter.unusedVariables false
set_option linter.unusedSimpArgs false
def nextP (ws:List (List Int)) (cl:List Int):List Int:=partP cl (sumsP ws cl)
def ccF (ws:List (List Int)):Nat → List Int → List Int
 | 0,cl=>cl
 | d + 1,cl=>if nextP ws cl = cl then cl else ccF ws d (nextP ws cl)
def classesP (m:List Int) (ws:List (List Int)):List Int:=ccF ws (m.length + 1) (ccStart m)
theorem next_canon {cl:List Int} {n:Nat} (ws:List (List Int)) (h:Canon cl n):Canon (nextP ws cl) n:=by
 have:=partP_canon cl (sumsP ws cl)
 rwa [h.len] at this
theorem start_canon (m:List Int):Canon (ccStart m) m.length:=by
 have:=partP_canon (List.replicate m.length 0) (marks1 m)
 rwa [List.length_replicate] at this
theorem countP_lt {α:Type} (p q:α → Bool):∀ l:List α,(∀ x ∈ l,p x = true → q x = true) → (∃ x ∈ l,q x = true∧p x = false) → l.countP p < l.countP q
 | [],_,h=>by obtain ⟨x,hx,_⟩:=h;cases hx
 | y :: l,h,hx=>by
  have hle:l.countP p ≤ l.countP q:=List.countP_mono_left (fun x hx hp=>h x (List.mem_cons_of_mem _ hx) hp)
  simp only [List.countP_cons]
  obtain ⟨x,hm,hq,hp⟩:=hx
  rcases List.mem_cons.1 hm with rfl | hm
  ·rw [hq,hp];simp;omega
  ·have:=countP_lt p q l (fun x hx hp=>h x (List.mem_cons_of_mem _ hx) hp) ⟨x,hm,hq,hp⟩
   have hy:=h y (List.mem_cons_self ..)
   cases hpy:p y with
   | false=>simp;omega
   | true=>rw [hy hpy];simp;omega
def repN (cl:List Int) (n:Nat):Nat:=(List.range n).countP fun s:Nat=>decide (rd cl s = (s:Int))
theorem repN_le (cl:List Int) (n:Nat):repN cl n ≤ n:=by
 have:=List.countP_le_length (p:=fun s:Nat=>decide (rd cl s = (s:Int))) (l:=List.range n)
 rwa [List.length_range] at this
theorem repN_lt {cl:List Int} {n:Nat} (ws:List (List Int)) (h:Canon cl n) (hne:nextP ws cl ≠ cl):repN cl n < repN (nextP ws cl) n:=by
 have hl:=h.len
 refine countP_lt _ _ _ (fun s hs hp=>?_) ?_
 ·have hs:=List.mem_range.1 hs
  have hp:=of_decide_eq_true hp
  have h1:=least_spec cl (sumsP ws cl) s
  have h2:=least_le cl (sumsP ws cl) s
  have h3:=h.low (least cl (sumsP ws cl) s) (by omega)
  refine decide_eq_true ?_
  rw [nextP,partP_rd _ _ _ (by omega)]
  rw [h1.1,hp] at h3
  omega
 ·have:∃ s:Nat,s < n∧rd (nextP ws cl) s ≠ rd cl s:=by
   refine Classical.byContradiction fun hno=>hne (rd_ext ?_ (fun i hi=>?_))
   ·rw [nextP,partP_length]
   ·rw [nextP,partP_length,hl] at hi
    exact Classical.byContradiction fun hc=>hno ⟨i,hi,hc⟩
  obtain ⟨s,hs,hc⟩:=this
  have h1:=least_spec cl (sumsP ws cl) s
  have h2:=least_le cl (sumsP ws cl) s
  have h3:rd (nextP ws cl) s = (least cl (sumsP ws cl) s:Int):=partP_rd _ _ _ (by omega)
  refine ⟨least cl (sumsP ws cl) s,List.mem_range.2 (by omega),decide_eq_true ?_,decide_eq_false fun hr=>hc ?_⟩
  ·rw [nextP,partP_rd _ _ _ (by omega),least_idem]
  ·rw [h3,← hr,h1.1]
theorem ccL_ev {ws:List (List Int)} {n:Nat} (d:Nat):∀ cl,Canon cl n → n + 1 ≤ d + repN cl n → Ev (fun k=>ccL ws k cl) (ccF ws d cl):=by
 induction d with
 | zero=>intro cl hc hd;have:=repN_le cl n;omega
 | succ d ih =>
  intro cl hc hd
  by_cases e:nextP ws cl = cl
  ·refine Ev.step (f:=fun _=>some cl) (fun k=>?_) (Ev.to (Ev.now cl) (by rw [ccF,if_pos e]))
   rw [ccL]
   show (if nextP ws cl = cl then some (nextP ws cl) else _) = _
   rw [if_pos e,e]
  ·have:=repN_lt ws hc e
   refine Ev.step (fun k=>?_) (Ev.to (ih _ (next_canon ws hc) (by omega)) (by rw [ccF,if_neg e]))
   rw [ccL]
   show (if nextP ws cl = cl then some (nextP ws cl) else ccL ws k (nextP ws cl)) = _
   rw [if_neg e]
theorem implClasses_ev {m:List Int} {ws:List (List Int)} (h:goodCh m ws):Ev (fun k=>impl_chanceClasses.f k m ws) (classesP m ws):=by
 refine Ev.congr (fun k=>?_) (ccL_ev (ws:=ws) (m.length + 1) (ccStart m) (start_canon m) (by omega))
 rw [impl_chanceClasses.f,if_pos h]
theorem ccF_canon (ws:List (List Int)) {n:Nat}:∀ d cl,Canon cl n → Canon (ccF ws d cl) n
 | 0,cl,h=>h
 | d + 1,cl,h=>by
  rw [ccF]
  by_cases e:nextP ws cl = cl
  ·rw [if_pos e];exact h
  ·rw [if_neg e];exact ccF_canon ws d _ (next_canon ws h)
theorem classesP_canon (m:List Int) (ws:List (List Int)):Canon (classesP m ws) m.length:=ccF_canon ws _ _ (start_canon m)
theorem chOk_good {m:List Int} {ws:List (List Int)} (h:chOk m ws = true):goodCh m ws:=by
 obtain ⟨hr,_⟩:=chOk_rows h
 refine ⟨hr.le,hr.len,fun x hx=>?_⟩
 obtain ⟨i,hi,rfl⟩:=List.mem_iff_getElem.1 hx
 have:=hr.row i (by rw [← hr.len];exact hi)
 rwa [rdL_nat _ _ hi] at this
end Go.Proofs.Ytablnoddkllhmaa.P
