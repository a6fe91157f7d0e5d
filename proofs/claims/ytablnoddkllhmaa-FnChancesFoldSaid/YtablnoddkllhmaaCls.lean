/- Classes of states: the program and the reference part them alike, and come to an end. Plain; no condition. -/
import Derived.Test.YtablnoddkllhmaaP0
import Derived.Test.YtablnoddkllhmaaP1
import Derived.Test.YtablnoddkllhmaaHClasses
namespace Go.Proofs.Ytablnoddkllhmaa.P
open Go.RowKit Go.Proofs.YtablnoddkllhmaaW.PrintWords Go.Proofs.YtablnoddkllhmaaW.PrintLast
set_option linter.unusedVariables false
set_option linter.unusedSimpArgs false
def upD (p:Nat → Prop) [DecidablePred p] (a:Nat):Nat → Nat → Nat
 | 0,_=>a
 | d + 1,r=>if p r then r else upD p a d (r + 1)
def dnD (p:Nat → Prop) [DecidablePred p]:Nat → Nat → Nat
 | 0,a=>a
 | d + 1,a=>dnD p d (if p d then d else a)
theorem upD_snoc (p:Nat → Prop) [DecidablePred p] (a:Nat):∀ d r,upD p a (d + 1) r = upD p (if p (r + d) then r + d else a) d r
 | 0,r=>by simp [upD]
 | d + 1,r=>by
  rw [upD,upD_snoc p a d (r + 1),upD,show r + 1 + d = r + (d + 1) by omega]
theorem dnD_eq (p:Nat → Prop) [DecidablePred p]:∀ d a,dnD p d a = upD p a d 0
 | 0,a=>rfl
 | d + 1,a=>by rw [dnD,dnD_eq p d,upD_snoc,Nat.zero_add]
theorem upD_congr {p q:Nat → Prop} [DecidablePred p] [DecidablePred q] (a:Nat):∀ d r,(∀ i,r ≤ i → i < r + d → (p i ↔ q i)) → upD p a d r = upD q a d r
 | 0,r,_=>rfl
 | d + 1,r,h=>by
  have h0:=h r (Nat.le_refl _) (by omega)
  rw [upD,upD,upD_congr a d (r + 1) (fun i h1 h2=>h i (by omega) (by omega))]
  by_cases e:p r
  ·rw [if_pos e,if_pos (h0.1 e)]
  ·rw [if_neg e,if_neg (fun h=>e (h0.2 h))]
theorem leastP_upD (cl:List Int) (f:Nat → List Int) (s:Nat):∀ d r,leastP cl f s d r = upD (fun r=>rd cl r = rd cl s∧f r = f s) s d r
 | 0,_=>rfl
 | d + 1,r=>by rw [leastP,upD,leastP_upD cl f s d]
theorem least_dnD (cl:List Int) (f:Nat → List Int) (s:Nat):least cl f s = dnD (fun r=>rd cl r = rd cl s∧f r = f s) s s:=by
 rw [dnD_eq,least,leastP_upD]
theorem upD_spec (p:Nat → Prop) [DecidablePred p] (a:Nat):∀ d r,r + d = a → p (upD p a d r) ∨ upD p a d r = a
 | 0,r,h=>.inr rfl
 | d + 1,r,h=>by
  rw [upD]
  by_cases e:p r
  ·rw [if_pos e];exact .inl e
  ·rw [if_neg e];exact upD_spec p a d (r + 1) (by omega)
theorem upD_min (p:Nat → Prop) [DecidablePred p] (a:Nat):∀ d r,r + d = a → ∀ i,r ≤ i → i < a → p i → upD p a d r ≤ i
 | 0,r,h,i,h1,h2,_=>by omega
 | d + 1,r,h,i,h1,h2,hi=>by
  rw [upD]
  by_cases e:p r
  ·rw [if_pos e];exact h1
  ·rw [if_neg e]
   rcases Nat.eq_or_lt_of_le h1 with rfl | h3
   ·exact absurd hi e
   ·exact upD_min p a d (r + 1) (by omega) i h3 h2 hi
theorem least_spec (cl:List Int) (f:Nat → List Int) (s:Nat):rd cl (least cl f s) = rd cl s∧f (least cl f s) = f s:=by
 rw [least,leastP_upD]
 rcases upD_spec (fun r=>rd cl r = rd cl s∧f r = f s) s s 0 (by omega) with h | h
 ·exact h
 ·rw [h];exact ⟨rfl,rfl⟩
theorem least_min (cl:List Int) (f:Nat → List Int) (s i:Nat) (hi:i ≤ s) (h:rd cl i = rd cl s∧f i = f s):least cl f s ≤ i:=by
 rcases Nat.eq_or_lt_of_le hi with rfl | hi
 ·exact least_le cl f i
 ·rw [least,leastP_upD]
  exact upD_min _ s s 0 (by omega) i (by omega) hi h
theorem least_idem (cl:List Int) (f:Nat → List Int) (s:Nat):least cl f (least cl f s) = least cl f s:=by
 have h1:=least_spec cl f s
 have h2:=least_spec cl f (least cl f s)
 have h3:=least_le cl f (least cl f s)
 have h4:=least_min cl f s (least cl f (least cl f s)) (Nat.le_trans h3 (least_le cl f s)) ⟨h2.1.trans h1.1,h2.2.trans h1.2⟩
 omega
theorem least_same (cl:List Int) (f:Nat → List Int) (s t:Nat) (h:rd cl s = rd cl t∧f s = f t):least cl f s = least cl f t:=by
 have a1:=least_spec cl f s
 have a2:=least_spec cl f t
 have b1:=least_le cl f s
 have b2:=least_le cl f t
 rcases Nat.le_total s t with hst | hst
 ·have h1:=least_min cl f t (least cl f s) (by omega) ⟨a1.1.trans h.1,a1.2.trans h.2⟩
  have h2:=least_min cl f s (least cl f t) (by omega) ⟨a2.1.trans h.1.symm,a2.2.trans h.2.symm⟩
  omega
 ·have h2:=least_min cl f s (least cl f t) (by omega) ⟨a2.1.trans h.1.symm,a2.2.trans h.2.symm⟩
  have h1:=least_min cl f t (least cl f s) (by omega) ⟨a1.1.trans h.1,a1.2.trans h.2⟩
  omega
structure Canon (cl:List Int) (n:Nat):Prop extends InR cl n where
 low:∀ t:Nat,t < n → rd cl t ≤ (t:Int)
 idem:∀ t:Nat,t < n → rd cl (rd cl t) = rd cl t
theorem partP_canon (cl:List Int) (f:Nat → List Int):Canon (partP cl f) cl.length:=by
 refine ⟨partP_in cl f,fun t ht=>?_,fun t ht=>?_⟩
 ·rw [partP_rd cl f t ht];have:=least_le cl f t;omega
 ·have:=least_le cl f t
  rw [partP_rd cl f t ht,partP_rd cl f _ (by omega),least_idem]
def intoA (cl row:List Int) (v:Int):Nat → Nat → Int → Int
 | 0,_,a=>a
 | d + 1,t,a=>intoA cl row v d (t + 1) (if rd cl t = v then wrap64 (a + rd row t) else a)
theorem smL_rd {cl row:List Int} {n:Nat} (hi:InR cl n) (v:Int) (h0:0 ≤ v) (d:Nat):∀ (t:Nat) (out:List Int),t + d = n → out.length = n → rd (smL cl row d t out) v = intoA cl row v d t (rd out v):=by
 induction d with
 | zero=>intro t out _ _;rfl
 | succ d ih =>
  intro t out ht ho
  have hr:=hi.rng t (by omega)
  rw [smL,ih (t + 1) _ (by omega) (by rw [List.length_set];exact ho),intoA,rd_set _ _ _ _ h0 (by omega)]
  by_cases e:rd cl t = v
  ·rw [if_pos (by omega),if_pos e,e]
  ·rw [if_neg (by omega),if_neg e]
theorem intoA_none {cl row:List Int} {v:Int} (d:Nat):∀ (t:Nat) (a:Int),(∀ i:Nat,t ≤ i → i < t + d → rd cl i ≠ v) → intoA cl row v d t a = a:=by
 induction d with
 | zero=>intro t a _;rfl
 | succ d ih =>
  intro t a h
  rw [intoA,if_neg (h t (Nat.le_refl _) (by omega)),ih (t + 1) a (fun i h1 h2=>h i (by omega) (by omega))]
def intoP (ws:List (List Int)) (cl:List Int) (s:Nat) (v:Int):Int:=intoA cl (rd_L1 ws s) v cl.length 0 0
theorem sumsP_rd {ws:List (List Int)} {cl:List Int} {n s:Nat} (hr:Rows ws n) (hi:InR cl n) (hs:s < n) (v:Int) (h0:0 ≤ v):rd (sumsP ws cl s) v = intoP ws cl s v:=by
 have h1:=hr.row s hs
 have h2:=hi.len
 rw [sumsP,intoP,h1,h2,smL_rd hi v h0 n 0 _ (by omega) (by simp),rd_zeros]
theorem into_ev {m cl:List Int} {ws:List (List Int)} {n s:Nat} {v:Int} (hr:Rows ws n) (hi:InR cl n) (hs:s < n):Ev (fun k=>spec_l18Into.f k m ws s cl v) (intoP ws cl s v):=by
 have h1:=hr.le
 have h2:=hr.len
 have h3:=hr.row s hs
 have h4:=hi.len
 have loop:∀ (d t:Nat) (a:Int),t + d = n → Ev (fun k=>spec_l18Into.l0 k s cl v a t m ws) (intoA cl (rd_L1 ws s) v d t a):=by
  intro d
  induction d with
  | zero =>
   intro t a ht
   refine Ev.step (f:=fun _=>some a) (fun k=>?_) (Ev.now a)
   simp only [spec_l18Into.l0]
   rw [if_neg (by omega)]
  | succ d ih =>
   intro t a ht
   by_cases e:rd cl t = v
   ·refine Ev.step (fun k=>?_) (Ev.to (ih (t + 1) (wrap64 (a + rd (rd_L1 ws s) t)) (by omega)) (by rw [intoA,if_pos e]))
    simp only [spec_l18Into.l0]
    rw [if_pos (by omega),if_pos (by omega),if_pos e,if_pos (by omega),if_pos (by omega),if_pos (by omega),wrap_succ (show t < n by omega) (by omega)]
   ·refine Ev.step (fun k=>?_) (Ev.to (ih (t + 1) a (by omega)) (by rw [intoA,if_neg e]))
    simp only [spec_l18Into.l0]
    rw [if_pos (by omega),if_pos (by omega),if_neg e,wrap_succ (show t < n by omega) (by omega)]
 exact Ev.to (loop n 0 0 (by omega)) (by rw [intoP,h4])
theorem alike_iff {ws:List (List Int)} {cl:List Int} {n s t:Nat} (hr:Rows ws n) (hi:Canon cl n) (hs:s < n) (ht:t < n):(∀ k:Nat,k < n → rd cl k = (k:Int) → intoP ws cl s k = intoP ws cl t k) ↔ sumsP ws cl s = sumsP ws cl t:=by
 have hl:=hi.len
 constructor
 ·intro h
  refine rd_ext (by rw [sumsP_length,sumsP_length]) (fun i h1=>?_)
  rw [sumsP_length,hl] at h1
  rw [sumsP_rd hr hi.toInR hs _ (by omega),sumsP_rd hr hi.toInR ht _ (by omega)]
  by_cases e:rd cl i = (i:Int)
  ·exact h i h1 e
  ·have hno:∀ j:Nat,0 ≤ j → j < 0 + cl.length → rd cl j ≠ (i:Int):=fun j _ hj hji=>e (by have:=hi.idem j (by omega);rw [hji] at this;exact this)
   rw [intoP,intoP,intoA_none _ _ _ hno,intoA_none _ _ _ hno]
 ·intro h k hk _
  rw [← sumsP_rd hr hi.toInR hs _ (by omega),← sumsP_rd hr hi.toInR ht _ (by omega),h]
theorem alike_ev {m cl:List Int} {ws:List (List Int)} {n s t:Nat} (hr:Rows ws n) (hi:Canon cl n) (hs:s < n) (ht:t < n):Ev (fun k=>spec_l18Alike.f k m ws s t cl) (decide (sumsP ws cl t = sumsP ws cl s)):=by
 classical
 have h1:=hr.le
 have h4:=hi.len
 have loop:∀ (d x:Nat),x + d = n → Ev (fun k=>spec_l18Alike.l0 k s t cl x m ws) (decide (∀ k:Nat,x ≤ k → k < n → rd cl k = (k:Int) → intoP ws cl s k = intoP ws cl t k)):=by
  intro d
  induction d with
  | zero =>
   intro x hx
   refine Ev.step (f:=fun _=>some true) (fun k=>?_) (Ev.to (Ev.now true) (decide_eq_true (fun k h1 h2=>by omega)).symm)
   simp only [spec_l18Alike.l0]
   rw [if_neg (by omega)]
  | succ d ih =>
   intro x hx
   by_cases e:rd cl x = (x:Int)
   ·by_cases e2:intoP ws cl s x = intoP ws cl t x
    ·refine Ev.sb (into_ev (m:=m) (v:=(x:Int)) hr hi.toInR hs) (fun k hk=>?_) (Ev.cb (f:=fun k=>spec_l18Alike.l0 k s t cl ((x + 1:Nat):Int) m ws) (into_ev (m:=m) (v:=(x:Int)) hr hi.toInR ht) (g:=fun k=>(spec_l18Into.f k m ws t cl x).bind fun t406=>if intoP ws cl s x = t406 then spec_l18Alike.l0 k s t cl ((x + 1:Nat):Int) m ws else some false) (fun k hk=>by rw [hk];simp only [Option.bind_some];rw [if_pos e2]) (Ev.to (ih (x + 1) (by omega)) ?_))
     ·simp only [spec_l18Alike.l0]
      rw [if_pos (by omega),if_pos (by omega),if_pos e,hk,wrap_succ (show x < n by omega) (by omega)]
      rfl
     ·rw [decide_eq_decide]
      exact ⟨fun h k h1 h2 h3=>by
       rcases Nat.eq_or_lt_of_le h1 with rfl | h1
       ·exact e2
       ·exact h k h1 h2 h3,fun h k h1 h2 h3=>h k (by omega) h2 h3⟩
    ·refine Ev.sb (into_ev (m:=m) (v:=(x:Int)) hr hi.toInR hs) (fun k hk=>?_) (Ev.cb (f:=fun k=>some false) (into_ev (m:=m) (v:=(x:Int)) hr hi.toInR ht) (g:=fun k=>(spec_l18Into.f k m ws t cl x).bind fun t406=>if intoP ws cl s x = t406 then spec_l18Alike.l0 k s t cl ((x + 1:Nat):Int) m ws else some false) (fun k hk=>by rw [hk];simp only [Option.bind_some];rw [if_neg e2]) (Ev.to (Ev.now false) (decide_eq_false (fun h=>e2 (h x (Nat.le_refl _) (by omega) e))).symm))
     simp only [spec_l18Alike.l0]
     rw [if_pos (by omega),if_pos (by omega),if_pos e,hk,wrap_succ (show x < n by omega) (by omega)]
     rfl
   ·refine Ev.step (fun k=>?_) (Ev.to (ih (x + 1) (by omega)) ?_)
    ·simp only [spec_l18Alike.l0]
     rw [if_pos (by omega),if_pos (by omega),if_neg e,wrap_succ (show x < n by omega) (by omega)]
    ·rw [decide_eq_decide]
     exact ⟨fun h k h1 h2 h3=>by
      rcases Nat.eq_or_lt_of_le h1 with rfl | h1
      ·exact absurd h3 e
      ·exact h k h1 h2 h3,fun h k h1 h2 h3=>h k (by omega) h2 h3⟩
 refine Ev.to (loop n 0 (by omega)) ?_
 rw [decide_eq_decide,eq_comm (a:=sumsP ws cl t),← alike_iff hr hi hs ht]
 exact ⟨fun h k h2 h3=>h k (by omega) h2 h3,fun h k _ h2 h3=>h k h2 h3⟩
end Go.Proofs.Ytablnoddkllhmaa.P
