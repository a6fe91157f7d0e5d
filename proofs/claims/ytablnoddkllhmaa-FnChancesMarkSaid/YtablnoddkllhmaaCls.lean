/- Classes of states: the program and the reference part them alike, and come to an end. Plain; no condition. -/
import Derived.Test.YtablnoddkllhmaaP0
import Derived.Test.YtablnoddkllhmaaHClasses
namespace Go.Proofs.Ytablnoddkllhmaa.P
open Go.RowKit Go.Proofs.YtablnoddkllhmaaW.PrintWords Go.Proofs.YtablnoddkllhmaaW.PrintLast
set_option linter.unusedVariables false
set_option linter.unusedSimpArgs false
def upD (p:Nat → Prop) [DecidablePred p] (a:Nat):Nat → Nat → Nat
 | 0,_=>a
 | d + 1,r=>if p r then r else upD p a d (r + 1)
theorem leastP_upD (cl:List Int) (f:Nat → List Int) (s:Nat):∀ d r,leastP cl f s d r = upD (fun r=>rd cl r = rd cl s∧f r = f s) s d r
 | 0,_=>rfl
 | d + 1,r=>by rw [leastP,upD,leastP_upD cl f s d]
theorem upD_spec (p:Nat → Prop) [DecidablePred p] (a:Nat):∀ d r,r + d = a → p (upD p a d r) ∨ upD p a d r = a
 | 0,r,h=>.inr rfl
 | d + 1,r,h=>by
  rw [upD]
  by_cases e:p r
  ·rw [if_pos e];exact .inl e
  ·rw [if_neg e];exact upD_spec p a d (r + 1) (by omega)
theorem upD_min (p:Nat → Prop) [DecidablePred p] (a:Nat):∀ d r,r + d = a → ∀ i,r ≤ i → i < a → p i → upD p a d r ≤ i
 | 0,r,h,i,h1,h2,_=>by omega
 | d + 1,r,h,i,h1,h2,hi=>by
  rw [upD]
  by_cases e:p r
  ·rw [if_pos e];exact h1
  ·rw [if_neg e]
   rcases Nat.eq_or_lt_of_le h1 with rfl | h3
   ·exact absurd hi e
   ·exact upD_min p a d (r + 1) (by omega) i h3 h2 hi
theorem least_spec (cl:List Int) (f:Nat → List Int) (s:Nat):rd cl (least cl f s) = rd cl s∧f (least cl f s) = f s:=by
 rw [least,leastP_upD]
 rcases upD_spec (fun r=>rd cl r = rd cl s∧f r = f s) s s 0 (by omega) with h | h
 ·exact h
 ·rw [h];exact ⟨rfl,rfl⟩
theorem least_min (cl:List Int) (f:Nat → List Int) (s i:Nat) (hi:i ≤ s) (h:rd cl i = rd cl s∧f i = f s):least cl f s ≤ i:=by
 rcases Nat.eq_or_lt_of_le hi with rfl | hi
 ·exact least_le cl f i
 ·rw [least,leastP_upD]
  exact upD_min _ s s 0 (by omega) i (by omega) hi h
theorem least_idem (cl:List Int) (f:Nat → List Int) (s:Nat):least cl f (least cl f s) = least cl f s:=by
 have h1:=least_spec cl f s
 have h2:=least_spec cl f (least cl f s)
 have h3:=least_le cl f (least cl f s)
 have h4:=least_min cl f s (least cl f (least cl f s)) (Nat.le_trans h3 (least_le cl f s)) ⟨h2.1.trans h1.1,h2.2.trans h1.2⟩
 omega
structure Canon (cl:List Int) (n:Nat):Prop extends InR cl n where
 low:∀ t:Nat,t < n → rd cl t ≤ (t:Int)
 idem:∀ t:Nat,t < n → rd cl (rd cl t) = rd cl t
theorem partP_canon (cl:List Int) (f:Nat → List Int):Canon (partP cl f) cl.length:=by
 refine ⟨partP_in cl f,fun t ht=>?_,fun t ht=>?_⟩
 ·rw [partP_rd cl f t ht];have:=least_le cl f t;omega
 ·have:=least_le cl f t
  rw [partP_rd cl f t ht,partP_rd cl f _ (by omega),least_idem]
def intoA (cl row:List Int) (v:Int):Nat → Nat → Int → Int
 | 0,_,a=>a
 | d + 1,t,a=>intoA cl row v d (t + 1) (if rd cl t = v then wrap64 (a + rd row t) else a)
theorem smL_rd {cl row:List Int} {n:Nat} (hi:InR cl n) (v:Int) (h0:0 ≤ v) (d:Nat):∀ (t:Nat) (out:List Int),t + d = n → out.length = n → rd (smL cl row d t out) v = intoA cl row v d t (rd out v):=by
 induction d with
 | zero=>intro t out _ _;rfl
 | succ d ih =>
  intro t out ht ho
  have hr:=hi.rng t (by omega)
  rw [smL,ih (t + 1) _ (by omega) (by rw [List.length_set];exact ho),intoA,rd_set _ _ _ _ h0 (by omega)]
  by_cases e:rd cl t = v
  ·rw [if_pos (by omega),if_pos e,e]
  ·rw [if_neg (by omega),if_neg e]
def intoP (ws:List (List Int)) (cl:List Int) (s:Nat) (v:Int):Int:=intoA cl (rd_L1 ws s) v cl.length 0 0
theorem sumsP_rd {ws:List (List Int)} {cl:List Int} {n s:Nat} (hr:Rows ws n) (hi:InR cl n) (hs:s < n) (v:Int) (h0:0 ≤ v):rd (sumsP ws cl s) v = intoP ws cl s v:=by
 have h1:=hr.row s hs
 have h2:=hi.len
 rw [sumsP,intoP,h1,h2,smL_rd hi v h0 n 0 _ (by omega) (by simp),rd_zeros]
end Go.Proofs.Ytablnoddkllhmaa.P
