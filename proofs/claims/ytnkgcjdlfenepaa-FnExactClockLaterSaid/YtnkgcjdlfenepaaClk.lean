/- Terms with time: their steps and what a unit of time makes of them, in plain Lean. No condition. -/
import Derived.Test.YtnkgcjdlfenepaaOkPure
namespace Go.Proofs.Ytnkgcjdlfenepaa.P
open Go.RowKit Go.Proofs.YtnkgcjdlfenepaaW.PrintWords Go.Proofs.YtnkgcjdlfenepaaW.PrintLast Go.Proofs.YtnkgcjdlfenepaaW.PrintMore Go.Proofs.Ytnkgcjdlfenepaa.Any
set_option linter.unusedVariables false
set_option linter.unusedSimpArgs false
inductive OkT:S29 → Prop where
 | nil:OkT ⟨0,0,[]⟩
 | act (b:Int) (p:S29) (h0:-4 ≤ b) (h1:b ≤ 4) (hp:OkT p):OkT ⟨1,b,[p]⟩
 | wait (b:Int) (p:S29) (h0:1 ≤ b) (h1:b ≤ 9) (hp:OkT p):OkT ⟨2,b,[p]⟩
 | sum (p q:S29) (hp:OkT p) (hq:OkT q):OkT ⟨3,0,[p,q]⟩
 | par (p q:S29) (hp:OkT p) (hq:OkT q):OkT ⟨4,0,[p,q]⟩
theorem len0 {α:Type} {l:List α} (h:l.length = 0):l = []:=List.eq_nil_of_length_eq_zero h
theorem len1 {α:Type} {l:List α} (h:l.length = 1):∃ p,l = [p]:=List.length_eq_one_iff.1 h
theorem len2 {α:Type} {l:List α} (h:l.length = 2):∃ p q,l = [p,q]:=by
 match l,h with
 | [p,q],_=>exact ⟨p,q,rfl⟩
theorem okT_of {x:S29} (h:W29 x):x.ok = true → OkT x:=by
 induction h with
 | mk a b l hl hx ih =>
  intro hok
  rw [S29.ok,Bool.and_eq_true,okL_all,List.all_eq_true] at hok
  obtain ⟨hh,ha⟩:=hok
  unfold okHead at hh
  split at hh
  ·rw [Bool.and_eq_true,decide_eq_true_eq,decide_eq_true_eq] at hh
   obtain ⟨rfl,h2⟩:=hh
   cases len0 h2
   subst a
   exact .nil
  ·split at hh
   ·rw [Bool.and_eq_true,Bool.and_eq_true,decide_eq_true_eq,decide_eq_true_eq,decide_eq_true_eq] at hh
    obtain ⟨⟨h0,h1⟩,h2⟩:=hh
    obtain ⟨p,rfl⟩:=len1 h2
    subst a
    exact .act b p h0 h1 (ih p (by simp) (ha p (by simp)))
   ·split at hh
    ·rw [Bool.and_eq_true,Bool.and_eq_true,decide_eq_true_eq,decide_eq_true_eq,decide_eq_true_eq] at hh
     obtain ⟨⟨h0,h1⟩,h2⟩:=hh
     obtain ⟨p,rfl⟩:=len1 h2
     subst a
     exact .wait b p h0 h1 (ih p (by simp) (ha p (by simp)))
    ·split at hh
     ·rw [Bool.and_eq_true,decide_eq_true_eq,decide_eq_true_eq] at hh
      obtain ⟨rfl,h2⟩:=hh
      obtain ⟨p,q,rfl⟩:=len2 h2
      subst a
      exact .sum p q (ih p (by simp) (ha p (by simp))) (ih q (by simp) (ha q (by simp)))
     ·split at hh
      ·rw [Bool.and_eq_true,decide_eq_true_eq,decide_eq_true_eq] at hh
       obtain ⟨rfl,h2⟩:=hh
       obtain ⟨p,q,rfl⟩:=len2 h2
       subst a
       exact .par p q (ih p (by simp) (ha p (by simp))) (ih q (by simp) (ha q (by simp)))
      ·cases hh
theorem OkT.ok {x:S29} (h:OkT x):x.ok = true:=by
 induction h with
 | nil=>rfl
 | act b p h0 h1 hp ih=>simp [S29.ok,okL,okHead,ih,h0,h1]
 | wait b p h0 h1 hp ih=>simp [S29.ok,okL,okHead,ih,h0,h1]
 | sum p q hp hq i1 i2=>simp [S29.ok,okL,okHead,i1,i2]
 | par p q hp hq i1 i2=>simp [S29.ok,okL,okHead,i1,i2]
theorem OkT.w {x:S29} (h:OkT x):W29 x:=by
 induction h with
 | nil=>exact .mk _ _ _ (by simp) (by simp)
 | act b p h0 h1 hp ih=>exact .mk _ _ _ (by simp) (by simpa using ih)
 | wait b p h0 h1 hp ih=>exact .mk _ _ _ (by simp) (by simpa using ih)
 | sum p q hp hq i1 i2=>exact .mk _ _ _ (by simp) (by simpa using ⟨i1,i2⟩)
 | par p q hp hq i1 i2=>exact .mk _ _ _ (by simp) (by simpa using ⟨i1,i2⟩)
def tkMeet (X Y:List S44):List S44:=X.flatMap fun x=>Y.flatMap fun y=>if x.f0 ≠ 0∧x.f0 = -y.f0 then [⟨0,⟨4,0,[x.f1,y.f1]⟩⟩] else []
def tkPar (p q:S29) (X Y:List S44):List S44:=(X.map fun x=>⟨x.f0,⟨4,0,[x.f1,q]⟩⟩) ++ (Y.map fun y=>⟨y.f0,⟨4,0,[p,y.f1]⟩⟩) ++ tkMeet X Y
def tkH (a b:Int):List S29 → List (List S44) → List S44
 | [p],_=>if a = 1 then [⟨b,p⟩] else []
 | [p,q],[X,Y]=>if a = 3 then X ++ Y else if a = 4 then tkPar p q X Y else []
 | _,_=>[]
mutual
def S29.tk:S29 → List S44
 | ⟨a,b,l⟩=>tkH a b l (tkL l)
def tkL:List S29 → List (List S44)
 | []=>[]
 | x :: xs=>S29.tk x :: tkL xs
end
def meets (X Y:List S44):Bool:=X.any fun x=>x.f0 != 0 && Y.any fun y=>x.f0 == -y.f0
def psH (a b:Int):List S29 → List (S29 × Bool) → S29 × Bool
 | [p],_=>if a = 1 then (⟨a,b,[p]⟩,b != 0) else if b = 1 then (p,true) else (⟨a,b - 1,[p]⟩,true)
 | [p,q],[x,y]=>if x.2 = true∧y.2 = true∧¬ (a = 4∧meets p.tk q.tk = true) then (⟨a,0,[x.1,y.1]⟩,true) else (⟨0,0,[]⟩,false)
 | l,_=>(⟨a,b,l⟩,true)
mutual
def S29.ps:S29 → S29 × Bool
 | ⟨a,b,l⟩=>psH a b l (psL l)
def psL:List S29 → List (S29 × Bool)
 | []=>[]
 | x :: xs=>S29.ps x :: psL xs
end
theorem tk_nil:(S29.mk 0 0 []).tk = []:=by simp [S29.tk,tkL,tkH]
theorem tk_act (b:Int) (p:S29):(S29.mk 1 b [p]).tk = [⟨b,p⟩]:=by simp [S29.tk,tkL,tkH]
theorem tk_wait (b:Int) (p:S29):(S29.mk 2 b [p]).tk = []:=by simp [S29.tk,tkL,tkH]
theorem tk_sum (p q:S29):(S29.mk 3 0 [p,q]).tk = p.tk ++ q.tk:=by simp [S29.tk,tkL,tkH]
theorem tk_par (p q:S29):(S29.mk 4 0 [p,q]).tk = tkPar p q p.tk q.tk:=by simp [S29.tk,tkL,tkH]
theorem ps_nil:(S29.mk 0 0 []).ps = (⟨0,0,[]⟩,true):=by simp [S29.ps,psL,psH]
theorem ps_act (b:Int) (p:S29):(S29.mk 1 b [p]).ps = (⟨1,b,[p]⟩,b != 0):=by simp [S29.ps,psL,psH]
theorem ps_wait1 (p:S29):(S29.mk 2 1 [p]).ps = (p,true):=by simp [S29.ps,psL,psH]
theorem ps_wait {b:Int} (h:b ≠ 1) (p:S29):(S29.mk 2 b [p]).ps = (⟨2,b - 1,[p]⟩,true):=by simp [S29.ps,psL,psH,h]
theorem ps_sum (p q:S29):(S29.mk 3 0 [p,q]).ps = if p.ps.2 = true∧q.ps.2 = true then (⟨3,0,[p.ps.1,q.ps.1]⟩,true) else (⟨0,0,[]⟩,false):=by
 simp [S29.ps,psL,psH]
theorem ps_par (p q:S29):(S29.mk 4 0 [p,q]).ps = if p.ps.2 = true∧q.ps.2 = true∧¬ meets p.tk q.tk = true then (⟨4,0,[p.ps.1,q.ps.1]⟩,true) else (⟨0,0,[]⟩,false):=by
 simp [S29.ps,psL,psH]
theorem tkMeet_act {X Y:List S44} {t:S44} (h:t ∈ tkMeet X Y):t.f0 = 0:=by
 simp only [tkMeet,List.mem_flatMap] at h
 obtain ⟨x,_,y,_,h⟩:=h
 split at h
 ·rw [List.mem_singleton] at h
  rw [h]
 ·cases h
theorem tk_act_in {x:S29} (h:OkT x):∀ t,t ∈ x.tk → -4 ≤ t.f0∧t.f0 ≤ 4:=by
 induction h with
 | nil=>rw [tk_nil];simp
 | act b p h0 h1 hp ih=>rw [tk_act];simp [h0,h1]
 | wait b p h0 h1 hp ih=>rw [tk_wait];simp
 | sum p q hp hq i1 i2 =>
  rw [tk_sum]
  intro t ht
  rcases List.mem_append.1 ht with h | h
  ·exact i1 t h
  ·exact i2 t h
 | par p q hp hq i1 i2 =>
  rw [tk_par]
  intro t ht
  unfold tkPar at ht
  rcases List.mem_append.1 ht with h | h
  ·rcases List.mem_append.1 h with h | h
   ·obtain ⟨x,hx,rfl⟩:=List.mem_map.1 h
    exact i1 x hx
   ·obtain ⟨x,hx,rfl⟩:=List.mem_map.1 h
    exact i2 x hx
  ·have:=tkMeet_act h
   omega
theorem flat_len {α β:Type} {f:α → List β} {n:Nat}:∀ {l:List α},(∀ x,x ∈ l → (f x).length ≤ n) → (l.flatMap f).length ≤ l.length * n
 | [],_=>by simp
 | x :: xs,h=>by
  have h1:=flat_len (l:=xs) fun y hy=>h y (List.mem_cons_of_mem _ hy)
  have h2:=h x (List.mem_cons_self ..)
  rw [List.flatMap_cons,List.length_append,List.length_cons,Nat.add_mul]
  omega
theorem tkMeet_len (X Y:List S44):(tkMeet X Y).length ≤ X.length * Y.length:=by
 refine flat_len fun x _=>?_
 have:=flat_len (l:=Y) (n:=1) (f:=fun y=>if x.f0 ≠ 0∧x.f0 = -y.f0 then [(⟨0,⟨4,0,[x.f1,y.f1]⟩⟩:S44)] else []) fun y _=>by
  split <;> simp
 simpa using this
theorem tk_len {x:S29} (h:OkT x):x.tk.length + 1 ≤ 2 ^ x.nodes:=by
 induction h with
 | nil=>rw [tk_nil];simp [S29.nodes,nodesL]
 | act b p h0 h1 hp ih =>
  rw [tk_act,S29.nodes,nodesL,nodesL]
  have:2 ^ (1 + (p.nodes + 0)) = 2 * 2 ^ p.nodes:=by rw [Nat.add_zero,Nat.add_comm,Nat.pow_succ,Nat.mul_comm]
  simp only [List.length_singleton]
  omega
 | wait b p h0 h1 hp ih =>
  rw [tk_wait]
  have:=Nat.one_le_two_pow (n:=(S29.mk 2 b [p]).nodes)
  simpa using this
 | sum p q hp hq i1 i2 =>
  rw [tk_sum,S29.nodes,nodesL,nodesL,nodesL,List.length_append]
  have e:2 ^ (1 + (p.nodes + (q.nodes + 0))) = 2 * (2 ^ p.nodes * 2 ^ q.nodes):=by rw [Nat.pow_add,Nat.pow_add];rfl
  have:=Nat.mul_le_mul i1 i2
  rw [e]
  generalize 2 ^ p.nodes * 2 ^ q.nodes = m at this ⊢
  rw [Nat.add_mul,Nat.mul_add,Nat.mul_add] at this
  omega
 | par p q hp hq i1 i2 =>
  rw [tk_par,S29.nodes,nodesL,nodesL,nodesL]
  unfold tkPar
  rw [List.length_append,List.length_append,List.length_map,List.length_map]
  have e:2 ^ (1 + (p.nodes + (q.nodes + 0))) = 2 * (2 ^ p.nodes * 2 ^ q.nodes):=by rw [Nat.pow_add,Nat.pow_add];rfl
  have:=Nat.mul_le_mul i1 i2
  have h3:=tkMeet_len p.tk q.tk
  rw [e]
  generalize 2 ^ p.nodes * 2 ^ q.nodes = m at this ⊢
  rw [Nat.add_mul,Nat.mul_add,Nat.mul_add] at this
  omega
theorem ps_ok {x:S29} (h:OkT x):x.ps.2 = true → OkT x.ps.1∧x.ps.1.nodes ≤ x.nodes:=by
 induction h with
 | nil=>rw [ps_nil];exact fun _=>⟨.nil,Nat.le_refl _⟩
 | act b p h0 h1 hp ih=>rw [ps_act];exact fun _=>⟨.act b p h0 h1 hp,Nat.le_refl _⟩
 | wait b p h0 h1 hp ih =>
  by_cases hb:b = 1
  ·subst hb
   rw [ps_wait1]
   refine fun _=>⟨hp,?_⟩
   rw [S29.nodes,nodesL,nodesL]
   show p.nodes ≤ _
   omega
  ·rw [ps_wait hb]
   refine fun _=>⟨.wait _ p (by omega) (by omega) hp,?_⟩
   rw [S29.nodes,S29.nodes]
   exact Nat.le_refl _
 | sum p q hp hq i1 i2 =>
  rw [ps_sum]
  split
  ·rename_i hc
   refine fun _=>⟨.sum _ _ (i1 hc.1).1 (i2 hc.2).1,?_⟩
   have:=(i1 hc.1).2
   have:=(i2 hc.2).2
   simp only [S29.nodes,nodesL]
   omega
  ·intro h;cases h
 | par p q hp hq i1 i2 =>
  rw [ps_par]
  split
  ·rename_i hc
   refine fun _=>⟨.par _ _ (i1 hc.1).1 (i2 hc.2.1).1,?_⟩
   have:=(i1 hc.1).2
   have:=(i2 hc.2.1).2
   simp only [S29.nodes,nodesL]
   omega
  ·intro h;cases h
end Go.Proofs.Ytnkgcjdlfenepaa.P
