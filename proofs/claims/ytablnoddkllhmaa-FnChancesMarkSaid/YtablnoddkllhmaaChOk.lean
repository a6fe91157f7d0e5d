/- What a chain is, and that the program and the reference tell it. Plain; no condition. -/
import Derived.Test.YtablnoddkllhmaaP0
import Derived.Test.YtablnoddkllhmaaP1
namespace Go.Proofs.Ytablnoddkllhmaa.P
open Go.RowKit Go.Proofs.YtablnoddkllhmaaW.PrintWords Go.Proofs.YtablnoddkllhmaaW.PrintLast
set_option linter.unusedVariables false
theorem Ev.to {α:Type} {g:Nat → Option α} {r r':α} (h:Ev g r) (e:r = r'):Ev g r':=e ▸ h
theorem wrap_id {x:Int} (h0:-9223372036854775808 ≤ x) (h1:x ≤ 9223372036854775807):wrap64 x = x:=by
 unfold wrap64
 omega
theorem wrap_succ {i n:Nat} (h:i < n) (hn:n ≤ 9223372036854775807):wrap64 ((i:Int) + 1) = ((i + 1:Nat):Int):=by
 rw [wrap_id (by omega) (by omega)]
 rfl
theorem rd_nat (xs:List Int) (i:Nat) (h:i < xs.length):rd xs (i:Int) = xs[i]:=by
 simp [rd,List.getD_eq_getElem?_getD,List.getElem?_eq_getElem h]
theorem rdL_nat (xs:List (List Int)) (i:Nat) (h:i < xs.length):rd_L1 xs (i:Int) = xs[i]:=by
 simp [rd_L1,List.getD_eq_getElem?_getD,List.getElem?_eq_getElem h]
def rowFrom (row:List Int):Nat → Nat → Int → Bool
 | 0,_,s=>decide (s = 6)
 | d + 1,t,s=>(decide (0 ≤ rd row t) && decide (rd row t ≤ 6)) && rowFrom row d (t + 1) (s + rd row t)
def chFrom (m:List Int) (ws:List (List Int)):Nat → Nat → Bool
 | 0,_=>true
 | d + 1,s=>(decide (0 ≤ rd m s) && decide (rd m s ≤ 9)) && (decide ((rd_L1 ws s).length = m.length) && (rowFrom (rd_L1 ws s) m.length 0 0 && chFrom m ws d (s + 1)))
def chOk (m:List Int) (ws:List (List Int)):Bool:=(decide (1 ≤ m.length) && decide (m.length ≤ 60)) && (decide (ws.length = m.length) && chFrom m ws m.length 0)
theorem l6In_f (a b c:Int):spec_l6In.f a b c = some (decide (b ≤ a) && decide (a ≤ c)):=by
 unfold spec_l6In.f
 by_cases h:a ≥ b
 ·rw [if_pos h]
  simp [show b ≤ a from h]
 ·rw [if_neg h]
  simp [show ¬ b ≤ a from h]
theorem spec_l1 (m:List Int) (ws:List (List Int)) (hm:m.length ≤ 60) (s:Nat) (hs:s < ws.length) (hsm:s < m.length) (hl:(rd_L1 ws s).length = m.length) (r:Bool) (hr:Ev (fun k=>spec_ChancesOk.l0 k m.length ((s + 1:Nat):Int) m ws) r) (d:Nat) :
  ∀ (t:Nat) (x:Int),t + d = m.length → 0 ≤ x → x ≤ 6 * t → Ev (fun k=>spec_ChancesOk.l1 k m.length s x t m ws) (rowFrom (rd_L1 ws s) d t x && r):=by
 induction d with
 | zero =>
  intro t x ht h0 h1
  by_cases h:x = 6
  ·refine Ev.step (fun k=>?_) (Ev.to (hr) (by simp [rowFrom,h]))
   simp only [spec_ChancesOk.l1]
   rw [if_neg (by omega),if_pos h,wrap_succ hsm (by omega)]
  ·refine Ev.step (fun k=>?_) (Ev.to (Ev.now false) (by simp [rowFrom,h]))
   simp only [spec_ChancesOk.l1]
   rw [if_neg (by omega),if_neg h]
 | succ d ih =>
  intro t x ht h0 h1
  have hw:=l6In_f (rd (rd_L1 ws s) t) 0 6
  by_cases h:0 ≤ rd (rd_L1 ws s) t∧rd (rd_L1 ws s) t ≤ 6
  ·refine Ev.step (fun k=>?_) (Ev.to (ih (t + 1) (x + rd (rd_L1 ws s) t) (by omega) (by omega) (by omega)) (by simp [rowFrom,h.1,h.2]))
   simp only [spec_ChancesOk.l1]
   rw [if_pos (by omega),if_pos (by omega),if_pos (by omega),if_pos (by omega),if_pos (by omega),hw]
   simp only [Option.bind_some,h.1,h.2,decide_true,Bool.and_self]
   rw [if_pos (by trivial),wrap_succ (show t < m.length by omega) (by omega),wrap_id (by omega) (by omega)]
  ·have hb:(decide (0 ≤ rd (rd_L1 ws s) t) && decide (rd (rd_L1 ws s) t ≤ 6)) = false:=by simpa using h
   refine Ev.step (fun k=>?_) (Ev.to (Ev.now false) (by simp only [rowFrom,hb,Bool.false_and]))
   simp only [spec_ChancesOk.l1]
   rw [if_pos (by omega),if_pos (by omega),if_pos (by omega),if_pos (by omega),if_pos (by omega),hw,hb]
   rfl
theorem spec_l0 (m:List Int) (ws:List (List Int)) (hm:m.length ≤ 60) (hl:ws.length = m.length) (d:Nat):∀ s:Nat,s + d = m.length → Ev (fun k=>spec_ChancesOk.l0 k m.length s m ws) (chFrom m ws d s):=by
 induction d with
 | zero=>intro s hs;exact Ev.step (fun k=>by simp only [spec_ChancesOk.l0];rw [if_neg (by omega)];rfl) (Ev.now _)
 | succ d ih =>
  intro s hs
  have hw:=l6In_f (rd m s) 0 9
  by_cases h:(decide (0 ≤ rd m s) && decide (rd m s ≤ 9)) = true
  ·have hj:Ev (fun k=>spec_ChancesOk.j2 k m.length s (((rd_L1 ws s).length:Int) != (m.length:Int)) m ws) (decide ((rd_L1 ws s).length = m.length) && (rowFrom (rd_L1 ws s) m.length 0 0 && chFrom m ws d (s + 1))):=by
    by_cases hr:(rd_L1 ws s).length = m.length
    ·refine Ev.step (fun k=>?_) (Ev.to (spec_l1 m ws hm s (by omega) (by omega) hr _ (ih (s + 1) (by omega)) m.length 0 0 (by omega) (by omega) (by omega)) (by simp [hr]))
     simp only [spec_ChancesOk.j2]
     rw [if_neg (by simp [hr])]
     rfl
    ·refine Ev.step (fun k=>?_) (Ev.to (Ev.now false) (by simp [hr]))
     simp only [spec_ChancesOk.j2]
     rw [if_pos (by simpa using fun h=>hr (by omega))]
   refine Ev.step (fun k=>?_) (Ev.to (hj) (by simp only [chFrom,h,Bool.true_and]))
   simp only [spec_ChancesOk.l0]
   rw [if_pos (by omega),if_pos (by omega),if_pos (by omega),hw,h]
   simp only [Option.bind_some]
   rw [if_pos (by trivial),if_pos (by omega)]
  ·have hb:(decide (0 ≤ rd m s) && decide (rd m s ≤ 9)) = false:=by simpa using h
   have hj:Ev (fun k=>spec_ChancesOk.j2 k m.length s true m ws) false:=Ev.step (fun k=>by simp only [spec_ChancesOk.j2];rw [if_pos (by trivial)]) (Ev.now _)
   refine Ev.step (fun k=>?_) (Ev.to (hj) (by simp only [chFrom,hb,Bool.false_and]))
   simp only [spec_ChancesOk.l0]
   rw [if_pos (by omega),if_pos (by omega),if_pos (by omega),hw,hb]
   simp only [Option.bind_some]
   rw [if_neg (by simp)]
theorem spec_ok (m:List Int) (ws:List (List Int)):Ev (fun k=>spec_ChancesOk.f k m ws) (chOk m ws):=by
 have hw:=l6In_f (m.length:Int) 1 60
 have jt:Ev (fun k=>spec_ChancesOk.j0 k m.length true m ws) false:=Ev.step (fun k=>by simp only [spec_ChancesOk.j0];rw [if_pos (by trivial)]) (Ev.now _)
 by_cases h:1 ≤ m.length∧m.length ≤ 60
 ·have e1:(decide ((1:Int) ≤ (m.length:Int)) && decide ((m.length:Int) ≤ 60)) = true:=by simp;omega
  by_cases hl:ws.length = m.length
  ·have hj:Ev (fun k=>spec_ChancesOk.j0 k m.length ((ws.length:Int) != (m.length:Int)) m ws) (chFrom m ws m.length 0):=by
    refine Ev.step (fun k=>?_) (spec_l0 m ws h.2 hl m.length 0 (by omega))
    simp only [spec_ChancesOk.j0]
    rw [if_neg (by simp [hl])]
    rfl
   refine Ev.congr (fun k=>?_) (Ev.to (hj) (by simp [chOk,h.1,h.2,hl]))
   simp only [spec_ChancesOk.f,hw,e1,Option.bind_some,if_true]
  ·have hj:Ev (fun k=>spec_ChancesOk.j0 k m.length ((ws.length:Int) != (m.length:Int)) m ws) false:=by
    refine Ev.step (fun k=>?_) (Ev.now false)
    simp only [spec_ChancesOk.j0]
    rw [if_pos (by simpa using fun h=>hl (by omega))]
   refine Ev.congr (fun k=>?_) (Ev.to (hj) (by simp [chOk,hl]))
   simp only [spec_ChancesOk.f,hw,e1,Option.bind_some,if_true]
 ·have e1:(decide ((1:Int) ≤ (m.length:Int)) && decide ((m.length:Int) ≤ 60)) = false:=by simp;omega
  have e2:(decide (1 ≤ m.length) && decide (m.length ≤ 60)) = false:=by simp;omega
  refine Ev.congr (fun k=>?_) (Ev.to (jt) (by simp only [chOk,e2,Bool.false_and]))
  simp only [spec_ChancesOk.f,hw,e1,Option.bind_some]
  rw [if_neg (by simp)]
theorem impl_l1 (m:List Int) (ws:List (List Int)) (hm:m.length ≤ 60) (s:Nat) (hs:s < m.length) (row:List Int) (hl:row.length = m.length) (r:Bool) (hr:Ev (fun k=>impl_ChancesOk.l0 k m.length ws ws.length ((s + 1:Nat):Int) m ws) r) (d:Nat) :
  ∀ (t:Nat) (x:Int),t + d = m.length → 0 ≤ x → x ≤ 6 * t → Ev (fun k=>impl_ChancesOk.l1 k m.length x ws ws.length s row m.length t m ws) (rowFrom row d t x && r):=by
 induction d with
 | zero =>
  intro t x ht h0 h1
  by_cases h:x = 6
  ·refine Ev.step (fun k=>?_) (Ev.to (hr) (by simp [rowFrom,h]))
   simp only [impl_ChancesOk.l1]
   rw [if_neg (by omega),if_pos h,wrap_succ hs (by omega)]
  ·refine Ev.step (fun k=>?_) (Ev.to (Ev.now false) (by simp [rowFrom,h]))
   simp only [impl_ChancesOk.l1]
   rw [if_neg (by omega),if_neg h]
 | succ d ih =>
  intro t x ht h0 h1
  by_cases ha:rd row t < 0
  ·have hb:(decide (0 ≤ rd row t) && decide (rd row t ≤ 6)) = false:=by simp;omega
   refine Ev.step (fun k=>?_) (Ev.to (Ev.now false) (by simp only [rowFrom,hb,Bool.false_and]))
   simp only [impl_ChancesOk.l1]
   rw [if_pos (by omega),if_pos (by omega),if_pos (by omega),if_pos ha]
  ·by_cases hc:rd row t > 6
   ·have hb:(decide (0 ≤ rd row t) && decide (rd row t ≤ 6)) = false:=by simp;omega
    refine Ev.step (fun k=>?_) (Ev.to (Ev.now false) (by simp only [rowFrom,hb,Bool.false_and]))
    simp only [impl_ChancesOk.l1]
    rw [if_pos (by omega),if_pos (by omega),if_pos (by omega),if_neg ha,if_pos hc]
   ·have hb:(decide (0 ≤ rd row t) && decide (rd row t ≤ 6)) = true:=by simp;omega
    refine Ev.step (fun k=>?_) (Ev.to (ih (t + 1) (x + rd row t) (by omega) (by omega) (by omega)) (by simp only [rowFrom,hb,Bool.true_and]))
    simp only [impl_ChancesOk.l1]
    rw [if_pos (by omega),if_pos (by omega),if_pos (by omega),if_neg ha,if_neg hc,wrap_succ (show t < m.length by omega) (by omega),wrap_id (by omega) (by omega)]
theorem impl_l0 (m:List Int) (ws:List (List Int)) (hm:m.length ≤ 60) (hl:ws.length = m.length) (d:Nat):∀ s:Nat,s + d = m.length → Ev (fun k=>impl_ChancesOk.l0 k m.length ws ws.length s m ws) (chFrom m ws d s):=by
 induction d with
 | zero=>intro s hs;exact Ev.step (fun k=>by simp only [impl_ChancesOk.l0];rw [if_neg (by omega)];rfl) (Ev.now _)
 | succ d ih =>
  intro s hs
  have jt:Ev (fun k=>impl_ChancesOk.j2 k m.length (rd_L1 ws s) ws ws.length s true m ws) false:=Ev.step (fun k=>by simp only [impl_ChancesOk.j2];rw [if_pos (by trivial)]) (Ev.now _)
  by_cases ha:rd m s < 0
  ·have hb:(decide (0 ≤ rd m s) && decide (rd m s ≤ 9)) = false:=by simp;omega
   refine Ev.step (fun k=>?_) (Ev.to (jt) (by simp only [chFrom,hb,Bool.false_and]))
   simp only [impl_ChancesOk.l0]
   rw [if_pos (by omega),if_pos (by omega),if_pos (by omega),if_pos (by omega),if_pos ha]
  ·by_cases hc:rd m s > 9
   ·have hb:(decide (0 ≤ rd m s) && decide (rd m s ≤ 9)) = false:=by simp;omega
    refine Ev.step (fun k=>?_) (Ev.to (jt) (by simp only [chFrom,hb,Bool.false_and]))
    simp only [impl_ChancesOk.l0]
    rw [if_pos (by omega),if_pos (by omega),if_pos (by omega),if_pos (by omega),if_neg ha,if_pos hc]
   ·have hb:(decide (0 ≤ rd m s) && decide (rd m s ≤ 9)) = true:=by simp;omega
    have hj:Ev (fun k=>impl_ChancesOk.j2 k m.length (rd_L1 ws s) ws ws.length s (((rd_L1 ws s).length:Int) != (m.length:Int)) m ws) (decide ((rd_L1 ws s).length = m.length) && (rowFrom (rd_L1 ws s) m.length 0 0 && chFrom m ws d (s + 1))):=by
     by_cases hr:(rd_L1 ws s).length = m.length
     ·refine Ev.step (fun k=>?_) (Ev.to (impl_l1 m ws hm s (by omega) (rd_L1 ws s) hr _ (ih (s + 1) (by omega)) m.length 0 0 (by omega) (by omega) (by omega)) (by simp [hr]))
      simp only [impl_ChancesOk.j2]
      rw [if_neg (by simp [hr]),hr]
      rfl
     ·refine Ev.step (fun k=>?_) (Ev.to (Ev.now false) (by simp [hr]))
      simp only [impl_ChancesOk.j2]
      rw [if_pos (by simpa using fun h=>hr (by omega))]
    refine Ev.step (fun k=>?_) (Ev.to (hj) (by simp only [chFrom,hb,Bool.true_and]))
    simp only [impl_ChancesOk.l0]
    rw [if_pos (by omega),if_pos (by omega),if_pos (by omega),if_pos (by omega),if_neg ha,if_neg hc]
theorem impl_ok (m:List Int) (ws:List (List Int)):Ev (fun k=>impl_ChancesOk.f k m ws) (chOk m ws):=by
 have jt:Ev (fun k=>impl_ChancesOk.j0 k m.length true m ws) false:=Ev.step (fun k=>by simp only [impl_ChancesOk.j0];rw [if_pos (by trivial)]) (Ev.now _)
 by_cases ha:m.length < 1
 ·have e2:(decide (1 ≤ m.length) && decide (m.length ≤ 60)) = false:=by simp;omega
  refine Ev.congr (fun k=>?_) (Ev.to (jt) (by simp only [chOk,e2,Bool.false_and]))
  simp only [impl_ChancesOk.f]
  rw [if_pos (by omega)]
 ·by_cases hc:m.length > 60
  ·have e2:(decide (1 ≤ m.length) && decide (m.length ≤ 60)) = false:=by simp;omega
   refine Ev.congr (fun k=>?_) (Ev.to (jt) (by simp only [chOk,e2,Bool.false_and]))
   simp only [impl_ChancesOk.f]
   rw [if_neg (by omega),if_pos (by omega)]
  ·by_cases hl:ws.length = m.length
   ·have hj:Ev (fun k=>impl_ChancesOk.j0 k m.length ((ws.length:Int) != (m.length:Int)) m ws) (chFrom m ws m.length 0):=by
     refine Ev.step (fun k=>?_) (impl_l0 m ws (by omega) hl m.length 0 (by omega))
     simp only [impl_ChancesOk.j0]
     rw [if_neg (by simp [hl])]
     rfl
    refine Ev.congr (fun k=>?_) (Ev.to (hj) (by simp [chOk,show 1 ≤ m.length by omega,show m.length ≤ 60 by omega,hl]))
    simp only [impl_ChancesOk.f]
    rw [if_neg (by omega),if_neg (by omega)]
   ·have hj:Ev (fun k=>impl_ChancesOk.j0 k m.length ((ws.length:Int) != (m.length:Int)) m ws) false:=by
     refine Ev.step (fun k=>?_) (Ev.now false)
     simp only [impl_ChancesOk.j0]
     rw [if_pos (by simpa using fun h=>hl (by omega))]
    refine Ev.congr (fun k=>?_) (Ev.to (hj) (by simp [chOk,hl]))
    simp only [impl_ChancesOk.f]
    rw [if_neg (by omega),if_neg (by omega)]
end Go.Proofs.Ytablnoddkllhmaa.P
