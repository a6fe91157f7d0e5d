/- What the program's and the reference's ClockOk compute: one and the same Bool, for every tree none of whose lists is very long. -/
import Derived.Test.YtnkgcjdlfenepaaP0
import Derived.Test.YtnkgcjdlfenepaaP1
import Derived.Test.YtnkgcjdlfenepaaTree
import Derived.Test.YtnkgcjdlfenepaaHShape
namespace Go.Proofs.Ytnkgcjdlfenepaa.P
open Go.RowKit Go.Proofs.YtnkgcjdlfenepaaW.PrintWords Go.Proofs.YtnkgcjdlfenepaaW.PrintLast Go.Proofs.YtnkgcjdlfenepaaW.PrintMore Go.Proofs.Ytnkgcjdlfenepaa.Any
set_option linter.unusedVariables false
set_option linter.unusedSimpArgs false
mutual
def S29.nodes:S29 → Nat
 | ⟨_,_,l⟩=>1 + nodesL l
def nodesL:List S29 → Nat
 | []=>0
 | x :: xs=>S29.nodes x + nodesL xs
end
def okHead (a b:Int) (n:Nat):Bool :=
 if a = 0 then decide (b = 0) && decide (n = 0)
 else if a = 1 then (decide (-4 ≤ b) && decide (b ≤ 4)) && decide (n = 1)
 else if a = 2 then (decide (1 ≤ b) && decide (b ≤ 9)) && decide (n = 1)
 else if a = 3 then decide (b = 0) && decide (n = 2)
 else if a = 4 then decide (b = 0) && decide (n = 2)
 else false
mutual
def S29.ok:S29 → Bool
 | ⟨a,b,l⟩=>okHead a b l.length && okL l
def okL:List S29 → Bool
 | []=>true
 | x :: xs=>S29.ok x && okL xs
end
theorem nodes_pos (x:S29):1 ≤ x.nodes:=by cases x;rw [S29.nodes];omega
theorem okL_all:∀ l:List S29,okL l = l.all S29.ok
 | []=>rfl
 | x :: xs=>by rw [okL,okL_all xs];rfl
theorem okL_drop {l:List S29} {i:Nat} (h:i < l.length):okL (l.drop i) = (l[i].ok && okL (l.drop (i + 1))):=by
 rw [List.drop_eq_getElem_cons h,okL]
theorem nodesL_drop {l:List S29} {i:Nat} (h:i < l.length):nodesL (l.drop i) = l[i].nodes + nodesL (l.drop (i + 1)):=by
 rw [List.drop_eq_getElem_cons h,nodesL]
theorem any_ev {α:Type} {p:Nat → α → Option Bool} {q:α → Bool}:∀ l:List α,(∀ y,y ∈ l → Ev (fun k=>p k y) (q y)) → Ev (fun k=>anyOf (p k) l) (l.any q)
 | [],_=>Ev.now false
 | x :: xs,h=>by
  refine Ev.cb (h x (List.mem_cons_self ..)) (fun k hk=>?_) (f:=fun k=>if q x = true then some true else anyOf (p k) xs) ?_
  ·simp only [anyOf,hk,Option.bind_some]
  ·have h2:=any_ev xs (fun y hy=>h y (List.mem_cons_of_mem _ hy))
   cases hq:q x with
   | true=>exact Ev.congr (fun k=>by rw [if_pos rfl]) (Ev.to (Ev.now true) (by simp [hq]))
   | false=>exact Ev.congr (fun k=>by rw [if_neg (by simp)]) (Ev.to h2 (by simp [hq]))
theorem clockAny_ev {l:List S29} (ih:∀ y,y ∈ l → Ev (fun k=>impl_clockShape.f k y.f0 y.f1 y.f2) y.ok):Ev (fun k=>impl_clockAny.f k l) (!okL l):=by
 have h:=any_ev (p:=fun k (x:S29)=>(impl_clockShape.f k x.f0 x.f1 x.f2).bind fun t=>some (!t)) (q:=fun x=>!x.ok) l (fun y hy=>Ev.bind (ih y hy) (Ev.now _))
 refine Ev.step (fun k=>by simp only [impl_clockAny.f]) (Ev.to h ?_)
 rw [okL_all]
 clear h ih
 induction l with
 | nil=>rfl
 | cons x xs ih=>simp [ih,Bool.not_and]
theorem actOk_f (b:Int):impl_ActOk.f b = some (decide (-4 ≤ b) && decide (b ≤ 4)):=by
 unfold impl_ActOk.f
 by_cases h:b ≥ -4
 ·rw [if_pos h]
  simp [show -4 ≤ b from h]
 ·rw [if_neg h]
  simp [show ¬ -4 ≤ b from h]
theorem shape_ev {x:S29} (h:W29 x):Ev (fun k=>impl_clockShape.f k x.f0 x.f1 x.f2) x.ok:=by
 induction h with
 | mk a b l hl hx ih =>
  have hany:=clockAny_ev ih
  have hok:(S29.mk a b l).ok = (okHead a b l.length && okL l):=by rw [S29.ok]
  rw [hok]
  show Ev (fun k=>impl_clockShape.f k a b l) _
  have hj:∀ fl:Bool,(fl = true → Ev (fun k=>impl_clockShape.j0 k fl a b l) ((decide (b = 0) && decide (l.length = 2)) && okL l))∧(fl = false → Ev (fun k=>impl_clockShape.j0 k fl a b l) false):=by
   refine fun fl=>⟨fun hf=>?_,fun hf=>?_⟩
   ·subst hf
    by_cases h1:b = 0
    ·by_cases h2:l.length = 2
     ·refine Ev.sb hany (fun k hk=>?_) (Ev.to (Ev.now (okL l)) (by simp [h1,h2]))
      simp only [impl_clockShape.j0]
      rw [if_pos (by trivial),if_pos h1,if_pos (by omega),hk]
      simp
     ·refine Ev.step (fun k=>?_) (Ev.to (Ev.now false) (by simp [h2]))
      simp only [impl_clockShape.j0]
      rw [if_pos (by trivial),if_pos h1,if_neg (by omega)]
    ·refine Ev.step (fun k=>?_) (Ev.to (Ev.now false) (by simp [h1]))
     simp only [impl_clockShape.j0]
     rw [if_pos (by trivial),if_neg h1]
   ·subst hf
    refine Ev.step (fun k=>?_) (Ev.now false)
    simp only [impl_clockShape.j0]
    rw [if_neg (by simp)]
  by_cases a0:a = 0
  ·by_cases h1:b = 0
   ·by_cases h2:l.length = 0
    ·refine Ev.sb hany (fun k hk=>?_) (Ev.to (Ev.now (okL l)) (by simp [okHead,a0,h1,h2]))
     simp only [impl_clockShape.f]
     rw [if_pos a0,if_pos h1,if_pos (by omega),hk]
     simp
    ·refine Ev.step (fun k=>?_) (Ev.to (Ev.now false) (by simp [okHead,a0,h2]))
     simp only [impl_clockShape.f]
     rw [if_pos a0,if_pos h1,if_neg (by omega)]
   ·refine Ev.step (fun k=>?_) (Ev.to (Ev.now false) (by simp [okHead,a0,h1]))
    simp only [impl_clockShape.f]
    rw [if_pos a0,if_neg h1]
  ·by_cases a1:a = 1
   ·have hact:=actOk_f b
    by_cases h1:(decide (-4 ≤ b) && decide (b ≤ 4)) = true
    ·by_cases h2:l.length = 1
     ·refine Ev.sb hany (fun k hk=>?_) (Ev.to (Ev.now (okL l)) (by simp only [okHead,if_neg a0,if_pos a1,h1,h2];simp))
      simp only [impl_clockShape.f]
      rw [if_neg a0,if_pos a1,hact,h1]
      simp only [Option.bind_some,if_true]
      rw [if_pos (by omega),hk]
      simp
     ·refine Ev.step (fun k=>?_) (Ev.to (Ev.now false) (by simp only [okHead,if_neg a0,if_pos a1,h1];simp [h2]))
      simp only [impl_clockShape.f]
      rw [if_neg a0,if_pos a1,hact,h1]
      simp only [Option.bind_some,if_true]
      rw [if_neg (by omega)]
    ·have h1':(decide (-4 ≤ b) && decide (b ≤ 4)) = false:=by simpa using h1
     refine Ev.step (fun k=>?_) (Ev.to (Ev.now false) (by simp only [okHead,if_neg a0,if_pos a1,h1'];simp))
     simp only [impl_clockShape.f]
     rw [if_neg a0,if_pos a1,hact,h1']
     simp
   ·by_cases a2:a = 2
    ·by_cases h1:b < 1
     ·refine Ev.step (fun k=>?_) (Ev.to (Ev.now false) (by simp [okHead,a0,a1,a2,show ¬ 1 ≤ b by omega]))
      simp only [impl_clockShape.f]
      rw [if_neg a0,if_neg a1,if_pos a2,if_pos h1]
     ·by_cases h3:b > 9
      ·refine Ev.step (fun k=>?_) (Ev.to (Ev.now false) (by simp [okHead,a0,a1,a2,show ¬ b ≤ 9 by omega]))
       simp only [impl_clockShape.f]
       rw [if_neg a0,if_neg a1,if_pos a2,if_neg h1,if_pos h3]
      ·by_cases h2:l.length = 1
       ·refine Ev.sb hany (fun k hk=>?_) (Ev.to (Ev.now (okL l)) (by simp [okHead,a0,a1,a2,h2,show 1 ≤ b by omega,show b ≤ 9 by omega]))
        simp only [impl_clockShape.f]
        rw [if_neg a0,if_neg a1,if_pos a2,if_neg h1,if_neg h3,if_pos (by omega),hk]
        simp
       ·refine Ev.step (fun k=>?_) (Ev.to (Ev.now false) (by simp [okHead,a0,a1,a2,h2]))
        simp only [impl_clockShape.f]
        rw [if_neg a0,if_neg a1,if_pos a2,if_neg h1,if_neg h3,if_neg (by omega)]
    ·by_cases a3:a = 3
     ·refine Ev.step (fun k=>?_) (Ev.to ((hj true).1 rfl) (by simp [okHead,a0,a1,a2,a3]))
      simp only [impl_clockShape.f]
      rw [if_neg a0,if_neg a1,if_neg a2,if_pos a3,a3]
      rfl
     ·by_cases a4:a = 4
      ·refine Ev.step (fun k=>?_) (Ev.to ((hj true).1 rfl) (by simp [okHead,a0,a1,a2,a3,a4]))
       simp only [impl_clockShape.f]
       rw [if_neg a0,if_neg a1,if_neg a2,if_neg a3,a4]
       rfl
      ·refine Ev.step (fun k=>?_) (Ev.to ((hj false).2 rfl) (by simp [okHead,a0,a1,a2,a3,a4]))
       simp only [impl_clockShape.f]
       rw [if_neg a0,if_neg a1,if_neg a2,if_neg a3,show (a == 4) = false by simpa using a4]
theorem implNodes_ev {x:S29} (h:W29 x):∀ most:Int,0 ≤ most → most ≤ 1000 → Ev (fun k=>impl_clockNodes.f k x.f0 x.f1 x.f2 most) (min (x.nodes:Int) (most + 1)):=by
 induction h with
 | mk a b l hl hx ih =>
  intro most hm0 hm1
  have loop:∀ (d i:Nat) (n:Int),i + d = l.length → 1 ≤ n → n ≤ most + 1 → Ev (fun k=>impl_clockNodes.l0 k most n l l.length i) (min (n + nodesL (l.drop i)) (most + 1)):=by
   intro d
   induction d with
   | zero =>
    intro i n hi h1 h2
    rw [List.drop_eq_nil_of_le (by omega)]
    refine Ev.step (fun k=>?_) (Ev.to (Ev.now n) (by simp [nodesL];omega))
    simp only [impl_clockNodes.l0]
    rw [if_neg (by omega)]
   | succ d ihd =>
    intro i n hi h1 h2
    have hil:i < l.length:=by omega
    have hp:=nodes_pos l[i]
    rw [nodesL_drop hil]
    by_cases hgt:n > most
    ·refine Ev.step (fun k=>?_) (Ev.to (Ev.now n) (by omega))
     simp only [impl_clockNodes.l0]
     rw [if_pos (by omega),if_pos (by omega),if_pos (by omega),if_pos hgt]
    ·have hc:=ih l[i] (List.getElem_mem hil) (most - n) (by omega) (by omega)
     refine Ev.sb hc (fun k hk=>?_) (Ev.to (ihd (i + 1) (n + min (l[i].nodes:Int) (most - n + 1)) (by omega) (by omega) (by omega)) (by omega))
     simp only [impl_clockNodes.l0]
     rw [if_pos (by omega),if_pos (by omega),if_pos (by omega),if_neg hgt,rd29_nat _ _ hil,wrap_id (x:=most - n) (by omega) (by omega),hk]
     simp only [Option.bind_some]
     rw [wrap_id (by omega) (by omega),wrap_succ hil (by omega)]
  refine Ev.step (fun k=>?_) (Ev.to (loop l.length 0 1 (by omega) (by omega) (by omega)) ?_)
  ·simp only [impl_clockNodes.f]
   rfl
  ·rw [S29.nodes,List.drop_zero]
   omega
theorem l6In_f (a b c:Int):spec_l6In.f a b c = some (decide (b ≤ a) && decide (a ≤ c)):=by
 unfold spec_l6In.f
 by_cases h:a ≥ b
 ·rw [if_pos h]
  simp [show b ≤ a from h]
 ·rw [if_neg h]
  simp [show ¬ b ≤ a from h]
theorem mn_min (x:Int):mn 1000 x = min 1000 x:=by
 unfold mn
 split <;> omega
theorem specNodes_ev {x:S29} (h:W29 x):Ev (fun k=>spec_l17Nodes.f k x.f0 x.f1 x.f2) (if x.ok = true then min 1000 (x.nodes:Int) else 0):=by
 induction h with
 | mk a b l hl hx ih =>
  have loop:∀ (d i:Nat) (n:Int),i + d = l.length → 1 ≤ n → n ≤ 1000 → Ev (fun k=>spec_l17Nodes.l0 k l.length n i a b l) (if okL (l.drop i) = true then min 1000 (n + nodesL (l.drop i)) else 0):=by
   intro d
   induction d with
   | zero =>
    intro i n hi h1 h2
    rw [List.drop_eq_nil_of_le (by omega)]
    refine Ev.step (fun k=>?_) (Ev.to (Ev.now n) (by simp [okL,nodesL];omega))
    simp only [spec_l17Nodes.l0]
    rw [if_neg (by omega)]
   | succ d ihd =>
    intro i n hi h1 h2
    have hil:i < l.length:=by omega
    have hp:=nodes_pos l[i]
    rw [nodesL_drop hil,okL_drop hil]
    have hc:=ih l[i] (List.getElem_mem hil)
    cases hok:l[i].ok with
    | false =>
     rw [hok,if_neg (by simp)] at hc
     refine Ev.sb hc (fun k hk=>?_) (Ev.to (Ev.now 0) (by simp))
     simp only [spec_l17Nodes.l0]
     rw [if_pos (by omega),if_pos (by omega),if_pos (by omega),rd29_nat _ _ hil,hk]
     simp only [Option.bind_some]
     rw [if_pos (by trivial)]
    | true =>
     rw [hok,if_pos rfl] at hc
     refine Ev.sb hc (fun k hk=>?_) (Ev.to (ihd (i + 1) (min 1000 (n + min 1000 (l[i].nodes:Int))) (by omega) (by omega) (by omega)) ?_)
     ·simp only [spec_l17Nodes.l0]
      rw [if_pos (by omega),if_pos (by omega),if_pos (by omega),rd29_nat _ _ hil,hk]
      simp only [Option.bind_some]
      rw [if_neg (by omega),wrap_id (by omega) (by omega),mn_min,wrap_succ hil (by omega)]
     ·rw [Bool.true_and]
      by_cases h2:okL (l.drop (i + 1)) = true
      ·rw [if_pos h2,if_pos h2]
       omega
      ·rw [if_neg h2,if_neg h2]
  have hN:((S29.mk a b l).nodes:Int) = 1 + nodesL l:=by rw [S29.nodes];omega
  have hok:(S29.mk a b l).ok = (okHead a b l.length && okL l):=by rw [S29.ok]
  rw [hN,hok]
  have hj:∀ (want:Nat) (fl:Bool),Ev (fun k=>spec_l17Nodes.j0 k want fl a b l) (if ((fl && decide (l.length = want)) && okL l) = true then min 1000 (1 + (nodesL l:Int)) else 0):=by
   intro want fl
   have h1:Ev (fun k=>spec_l17Nodes.j1 k want true a b l) 0:=Ev.step (fun k=>by simp only [spec_l17Nodes.j1];rw [if_pos (by trivial)]) (Ev.now 0)
   cases fl with
   | false =>
    refine Ev.step (fun k=>?_) (Ev.to h1 (by simp))
    simp only [spec_l17Nodes.j0]
    rw [if_neg (by simp)]
   | true =>
    by_cases hw:l.length = want
    ·have h2:Ev (fun k=>spec_l17Nodes.j1 k want ((l.length:Int) != (want:Int)) a b l) (if okL l = true then min 1000 (1 + (nodesL l:Int)) else 0):=by
      refine Ev.step (fun k=>?_) (loop l.length 0 1 (by omega) (by omega) (by omega))
      simp only [spec_l17Nodes.j1]
      rw [if_neg (by simp [hw]),hw]
      rfl
     refine Ev.step (fun k=>?_) (Ev.to h2 (by simp [hw]))
     simp only [spec_l17Nodes.j0]
     rw [if_pos (by trivial)]
    ·have h2:Ev (fun k=>spec_l17Nodes.j1 k want ((l.length:Int) != (want:Int)) a b l) 0:=by
      refine Ev.step (fun k=>?_) (Ev.now 0)
      simp only [spec_l17Nodes.j1]
      rw [if_pos (by simpa using fun h=>hw (by omega))]
     refine Ev.step (fun k=>?_) (Ev.to h2 (by simp [hw]))
     simp only [spec_l17Nodes.j0]
     rw [if_pos (by trivial)]
  have hact:spec_ActOk.f b = some (decide (-4 ≤ b) && decide (b ≤ 4)):=by
   unfold spec_ActOk.f
   rw [l6In_f]
   rfl
  by_cases a0:a = 0
  ·refine Ev.step (fun k=>?_) (Ev.to (hj 0 (b == 0)) (by simp [okHead,a0]))
   simp only [spec_l17Nodes.f]
   rw [if_pos a0]
   rfl
  ·by_cases a1:a = 1
   ·refine Ev.step (fun k=>?_) (Ev.to (hj 1 (decide (-4 ≤ b) && decide (b ≤ 4))) (by simp only [okHead,if_neg a0,if_pos a1]))
    simp only [spec_l17Nodes.f]
    rw [if_neg a0,if_pos a1,hact]
    rfl
   ·by_cases a2:a = 2
    ·refine Ev.step (fun k=>?_) (Ev.to (hj 1 (decide (1 ≤ b) && decide (b ≤ 9))) (by simp only [okHead,if_neg a0,if_neg a1,if_pos a2]))
     simp only [spec_l17Nodes.f]
     rw [if_neg a0,if_neg a1,if_pos a2,l6In_f]
     rfl
    ·by_cases a3:a = 3
     ·refine Ev.step (fun k=>?_) (Ev.to (hj 2 (b == 0)) (by simp [okHead,a0,a1,a2,a3]))
      simp only [spec_l17Nodes.f]
      rw [if_neg a0,if_neg a1,if_neg a2,if_pos a3]
      rfl
     ·by_cases a4:a = 4
      ·refine Ev.step (fun k=>?_) (Ev.to (hj 2 (b == 0)) (by simp [okHead,a0,a1,a2,a3,a4]))
       simp only [spec_l17Nodes.f]
       rw [if_neg a0,if_neg a1,if_neg a2,if_neg a3,if_pos a4]
       rfl
      ·refine Ev.step (fun k=>?_) (Ev.to (Ev.now 0) (by simp [okHead,a0,a1,a2,a3,a4]))
       simp only [spec_l17Nodes.f]
       rw [if_neg a0,if_neg a1,if_neg a2,if_neg a3,if_neg a4]
def clockOk (x:S29):Bool:=x.ok && decide (x.nodes ≤ 16)
theorem specOk_ev {x:S29} (h:W29 x):Ev (fun k=>spec_ClockOk.f k x.f0 x.f1 x.f2) (clockOk x):=by
 refine Ev.cb (specNodes_ev h) (fun k hk=>?_) (Ev.now _)
 have hp:=nodes_pos x
 simp only [spec_ClockOk.f,hk,Option.bind_some,l6In_f]
 unfold clockOk
 cases hok:x.ok with
 | false=>simp
 | true =>
  simp only [if_true,Bool.true_and]
  congr 1
  rw [Bool.eq_iff_iff]
  simp
  omega
end Go.Proofs.Ytnkgcjdlfenepaa.P
