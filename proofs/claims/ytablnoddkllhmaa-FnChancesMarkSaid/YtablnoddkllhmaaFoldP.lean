/- Folding: what the program and the reference compute: one and the same. Plain; no condition. -/
import Derived.Test.YtablnoddkllhmaaP0
import Derived.Test.YtablnoddkllhmaaP2
import Derived.Test.YtablnoddkllhmaaHClasses
import Derived.Test.YtablnoddkllhmaaCls2
namespace Go.Proofs.Ytablnoddkllhmaa.P
open Go.RowKit Go.Proofs.YtablnoddkllhmaaW.PrintWords Go.Proofs.YtablnoddkllhmaaW.PrintLast
set_option linter.unusedVariables false
set_option linter.unusedSimpArgs false
def rowF (ws:List (List Int)) (cl:List Int) (s:Nat):Nat → Nat → List Int → List Int
 | 0,_,out=>out
 | d + 1,t,out=>rowF ws cl s d (t + 1) (if rd cl t = (t:Int) then out ++ [intoP ws cl s t] else out)
def foldL (m:List Int) (ws:List (List Int)) (cl:List Int):Nat → Nat → List Int → List (List Int) → List Int × List (List Int)
 | 0,_,om,ow=>(om,ow)
 | d + 1,s,om,ow=>if rd cl s = (s:Int) then foldL m ws cl d (s + 1) (om ++ [rd m s]) (ow ++ [rowF ws cl s cl.length 0 []]) else foldL m ws cl d (s + 1) om ow
theorem implF_l1 {m cl:List Int} {ws ow:List (List Int)} {om:List Int} {r:List Int × List (List Int) × Bool} {n s:Nat} (hr:Rows ws n) (hi:Canon cl n) (hs:s < n) (hm:m.length = n) (h1:om.length ≤ s) (h2:ow.length ≤ s) (d:Nat):∀ (t:Nat) (out:List Int),t + d = n → out.length ≤ t →
  Ev (fun k=>impl_ChancesFold.l0 k cl cl n ((s + 1:Nat):Int) m ws (om ++ [rd m s]) (ow ++ [rowF ws cl s d t out])) r → Ev (fun k=>impl_ChancesFold.l1 k cl s out (sumsP ws cl s) cl n s cl n t m ws om ow) r:=by
 have hn:=hr.le
 have hl:=hi.len
 have hsl:=sumsP_length ws cl s
 induction d with
 | zero =>
  intro t out ht ho h
  refine Ev.step (fun k=>?_) h
  simp only [impl_ChancesFold.l1]
  rw [if_neg (by omega),if_pos (by omega),if_pos (by omega),if_pos (by omega),if_pos (by omega),wrap_succ hs (by omega)]
  rfl
 | succ d ih =>
  intro t out ht ho h
  rw [rowF] at h
  by_cases e:rd cl t = (t:Int)
  ·rw [if_pos e] at h
   refine Ev.step (fun k=>?_) (ih (t + 1) _ (by omega) (by simp;omega) h)
   simp only [impl_ChancesFold.l1]
   rw [if_pos (by omega),if_pos (by omega),if_pos (by omega),if_pos e,if_pos (by omega),if_pos (by omega),wrap_succ (show t < n by omega) (by omega),sumsP_rd hr hi.toInR hs _ (by omega)]
  ·rw [if_neg e] at h
   refine Ev.step (fun k=>?_) (ih (t + 1) _ (by omega) (by omega) h)
   simp only [impl_ChancesFold.l1]
   rw [if_pos (by omega),if_pos (by omega),if_pos (by omega),if_neg e,wrap_succ (show t < n by omega) (by omega)]
theorem implF_l0 {m cl:List Int} {ws:List (List Int)} {n:Nat} (hr:Rows ws n) (hi:Canon cl n) (hm:m.length = n) (d:Nat):∀ (s:Nat) (om:List Int) (ow:List (List Int)),s + d = n → om.length ≤ s → ow.length ≤ s →
  Ev (fun k=>impl_ChancesFold.l0 k cl cl n s m ws om ow) ((foldL m ws cl d s om ow).1,(foldL m ws cl d s om ow).2,true):=by
 have hn:=hr.le
 have hl:=hi.len
 induction d with
 | zero =>
  intro s om ow hs h1 h2
  refine Ev.step (f:=fun _=>some (om,ow,true)) (fun k=>?_) (Ev.now _)
  simp only [impl_ChancesFold.l0]
  rw [if_neg (by omega)]
 | succ d ih =>
  intro s om ow hs h1 h2
  rw [foldL]
  by_cases e:rd cl s = (s:Int)
  ·rw [if_pos e,hl]
   have h:=ih (s + 1) (om ++ [rd m s]) (ow ++ [rowF ws cl s n 0 []]) (by omega) (by simp;omega) (by simp;omega)
   refine Ev.sb (sums_ev (m:=m) hr hi.toInR (show s < n by omega)) (fun k hk=>?_) (implF_l1 (m:=m) hr hi (show s < n by omega) hm h1 h2 n 0 [] (by omega) (by simp) h)
   simp only [impl_ChancesFold.l0]
   rw [if_pos (by omega),if_pos (by omega),if_pos (by omega),if_pos e,hk,hl]
   rfl
  ·rw [if_neg e]
   refine Ev.step (fun k=>?_) (ih (s + 1) om ow (by omega) (by omega) (by omega))
   simp only [impl_ChancesFold.l0]
   rw [if_pos (by omega),if_pos (by omega),if_pos (by omega),if_neg e,wrap_succ (show s < n by omega) (by omega)]
def foldOf (m:List Int) (ws:List (List Int)):List Int × List (List Int):=foldL m ws (classesP m ws) m.length 0 [] []
def foldP (m:List Int) (ws:List (List Int)):List Int × List (List Int) × Bool:=if chOk m ws = true then ((foldOf m ws).1,(foldOf m ws).2,true) else ([],[],false)
theorem implFold_ev (m:List Int) (ws:List (List Int)):Ev (fun k=>impl_ChancesFold.f k m ws) (foldP m ws):=by
 cases h:chOk m ws with
 | false =>
  refine Ev.cb (f:=fun _=>some ([],[],false)) (impl_ok m ws) (fun k hk=>?_) (Ev.to (Ev.now _) (by simp [foldP,h]))
  simp only [impl_ChancesFold.f]
  rw [hk,h]
  simp
 | true =>
  have hr:=(chOk_rows h).1
  have hc:=classesP_canon m ws
  refine Ev.cb (f:=fun k=>(impl_chanceClasses.f k m ws).bind fun t=>impl_ChancesFold.l0 k t t t.length 0 m ws [] []) (impl_ok m ws) (fun k hk=>?_) (Ev.bind (implClasses_ev (chOk_good h)) (Ev.to (Ev.congr (fun k=>by rw [hc.len];rfl) (implF_l0 (m:=m) hr hc rfl m.length 0 [] [] (by omega) (by simp) (by simp))) (by simp only [foldP,h];rfl)))
  simp only [impl_ChancesFold.f]
  rw [hk,h]
  simp
end Go.Proofs.Ytablnoddkllhmaa.P
