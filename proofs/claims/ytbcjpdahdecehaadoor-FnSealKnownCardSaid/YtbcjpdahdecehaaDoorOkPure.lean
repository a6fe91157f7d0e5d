/- What the program's and the reference's SealOk compute: one and the same Bool, for every tree none of whose lists is very long. -/
import Derived.Test.YtbcjpdahdecehaaDoorP0
import Derived.Test.YtbcjpdahdecehaaDoorP1
import Derived.Test.YtbcjpdahdecehaaDoorSB
namespace Go.Proofs.YtbcjpdahdecehaaDoor.P
open Go.RowKit Go.Proofs.YtbcjpdahdecehaaDoorW.PrintWords Go.Proofs.YtbcjpdahdecehaaDoorW.PrintLast Go.Proofs.YtbcjpdahdecehaaDoorW.PrintMore
set_option linter.unusedVariables false
set_option linter.unusedSimpArgs false
mutual
def S25.nodes:S25 → Nat
 | ⟨_,_,l⟩=>1 + nodesL l
def nodesL:List S25 → Nat
 | []=>0
 | x :: xs=>S25.nodes x + nodesL xs
end
def okHead (a b:Int) (n:Nat):Bool :=
 if a = 0 then (decide (0 ≤ b) && decide (b ≤ 9)) && decide (n = 0)
 else if a = 1 ∨ a = 2 then decide (b = 0) && decide (n = 2)
 else false
mutual
def S25.ok:S25 → Bool
 | ⟨a,b,l⟩=>okHead a b l.length && okL l
def okL:List S25 → Bool
 | []=>true
 | x :: xs=>S25.ok x && okL xs
end
theorem nodes_pos (x:S25):1 ≤ x.nodes:=by cases x;rw [S25.nodes];omega
theorem okL_all:∀ l:List S25,okL l = l.all S25.ok
 | []=>rfl
 | x :: xs=>by rw [okL,okL_all xs];rfl
theorem okL_drop {l:List S25} {i:Nat} (h:i < l.length):okL (l.drop i) = (l[i].ok && okL (l.drop (i + 1))):=by
 rw [List.drop_eq_getElem_cons h,okL]
theorem nodesL_drop {l:List S25} {i:Nat} (h:i < l.length):nodesL (l.drop i) = l[i].nodes + nodesL (l.drop (i + 1)):=by
 rw [List.drop_eq_getElem_cons h,nodesL]
theorem okL_two {l:List S25} (h:l.length = 2):okL l = (l[0].ok && l[1].ok):=by
 match l,h with
 | [x,y],_=>simp [okL]
theorem shape_ev {x:S25} (h:W25 x):Ev (fun k=>impl_sealShape.f k x.f0 x.f1 x.f2) x.ok:=by
 induction h with
 | mk a b l hl hx ih =>
  have hok:(S25.mk a b l).ok = (okHead a b l.length && okL l):=by rw [S25.ok]
  rw [hok]
  show Ev (fun k=>impl_sealShape.f k a b l) _
  have hj:Ev (fun k=>impl_sealShape.j0 k true a b l) ((decide (b = 0) && decide (l.length = 2)) && okL l):=by
   by_cases h1:b = 0
   ·by_cases h2:l.length = 2
    ·have h0:=ih l[0] (List.getElem_mem (by omega))
     have h3:=ih l[1] (List.getElem_mem (by omega))
     refine Ev.sb h0 (fun k hk=>?_) (f:=fun k=>if l[0].ok = true then ((impl_sealShape.f k l[1].f0 l[1].f1 l[1].f2).bind fun t=>some t) else some false) ?_
     ·simp only [impl_sealShape.j0]
      rw [if_pos (by trivial),if_pos h1,if_pos (by omega),if_pos (by omega),show (0:Int) = ((0:Nat):Int) from rfl,rd25_nat l 0 (by omega),hk]
      simp only [Option.bind_some]
      rw [if_pos (show (1:Int) < (l.length:Int) by omega),show (1:Int) = ((1:Nat):Int) from rfl,rd25_nat l 1 (by omega)]
     ·rw [okL_two h2]
      cases hk0:l[0].ok with
      | true=>exact Ev.cb h3 (fun k hk=>by rw [if_pos rfl,hk];rfl) (Ev.to (Ev.now l[1].ok) (by simp [h1,h2]))
      | false=>exact Ev.cb h3 (fun k hk=>by rw [if_neg (by simp)]) (Ev.to (Ev.now false) (by simp))
    ·refine Ev.step (fun k=>?_) (Ev.to (Ev.now false) (by simp [h2]))
     simp only [impl_sealShape.j0]
     rw [if_pos (by trivial),if_pos h1,if_neg (by omega)]
   ·refine Ev.step (fun k=>?_) (Ev.to (Ev.now false) (by simp [h1]))
    simp only [impl_sealShape.j0]
    rw [if_pos (by trivial),if_neg h1]
  have hf:Ev (fun k=>impl_sealShape.j0 k false a b l) false:=by
   refine Ev.step (fun k=>?_) (Ev.now false)
   simp only [impl_sealShape.j0]
   rw [if_neg (by simp)]
  by_cases a0:a = 0
  ·refine Ev.step (f:=fun k=>some (okHead a b l.length && okL l)) (fun k=>?_) (Ev.now _)
   simp only [impl_sealShape.f]
   rw [if_pos a0]
   unfold okHead
   rw [if_pos a0]
   by_cases h1:0 ≤ b
   ·rw [if_pos (by omega)]
    by_cases h2:b ≤ 9
    ·rw [if_pos h2]
     by_cases h3:l.length = 0
     ·obtain rfl:=List.eq_nil_of_length_eq_zero h3
      simp [h1,h2,okL]
     ·simp [h1,h2,h3]
    ·rw [if_neg h2]
     simp [h2]
   ·rw [if_neg (by omega)]
    simp [h1]
  ·by_cases a1:a = 1
   ·refine Ev.step (fun k=>?_) (Ev.to hj (by simp [okHead,a1]))
    simp only [impl_sealShape.f]
    rw [if_neg a0,if_pos a1,show (a == 1) = true by simpa using a1]
   ·by_cases a2:a = 2
    ·refine Ev.step (fun k=>?_) (Ev.to hj (by simp [okHead,a2]))
     simp only [impl_sealShape.f]
     rw [if_neg a0,if_neg a1,show (a == 2) = true by simpa using a2]
    ·refine Ev.step (fun k=>?_) (Ev.to hf (by simp [okHead,a0,a1,a2]))
     simp only [impl_sealShape.f]
     rw [if_neg a0,if_neg a1,show (a == 2) = false by simpa using a2]
theorem implNodes_ev {x:S25} (h:W25 x):∀ most:Int,0 ≤ most → most ≤ 1000 → Ev (fun k=>impl_sealNodes.f k x.f0 x.f1 x.f2 most) (min (x.nodes:Int) (most + 1)):=by
 induction h with
 | mk a b l hl hx ih =>
  intro most hm0 hm1
  have loop:∀ (d i:Nat) (n:Int),i + d = l.length → 1 ≤ n → n ≤ most + 1 → Ev (fun k=>impl_sealNodes.l0 k most n l l.length i) (min (n + nodesL (l.drop i)) (most + 1)):=by
   intro d
   induction d with
   | zero =>
    intro i n hi h1 h2
    rw [List.drop_eq_nil_of_le (by omega)]
    refine Ev.step (fun k=>?_) (Ev.to (Ev.now n) (by simp [nodesL];omega))
    simp only [impl_sealNodes.l0]
    rw [if_neg (by omega)]
   | succ d ihd =>
    intro i n hi h1 h2
    have hil:i < l.length:=by omega
    have hp:=nodes_pos l[i]
    rw [nodesL_drop hil]
    by_cases hgt:n > most
    ·refine Ev.step (fun k=>?_) (Ev.to (Ev.now n) (by omega))
     simp only [impl_sealNodes.l0]
     rw [if_pos (by omega),if_pos (by omega),if_pos (by omega),if_pos hgt]
    ·have hc:=ih l[i] (List.getElem_mem hil) (most - n) (by omega) (by omega)
     refine Ev.sb hc (fun k hk=>?_) (Ev.to (ihd (i + 1) (n + min (l[i].nodes:Int) (most - n + 1)) (by omega) (by omega) (by omega)) (by omega))
     simp only [impl_sealNodes.l0]
     rw [if_pos (by omega),if_pos (by omega),if_pos (by omega),if_neg hgt,rd25_nat _ _ hil,wrap_id (x:=most - n) (by omega) (by omega),hk]
     simp only [Option.bind_some]
     rw [wrap_id (by omega) (by omega),wrap_succ hil (by omega)]
  refine Ev.step (fun k=>?_) (Ev.to (loop l.length 0 1 (by omega) (by omega) (by omega)) ?_)
  ·simp only [impl_sealNodes.f]
   rfl
  ·rw [S25.nodes,List.drop_zero]
   omega
theorem l6In_f (a b c:Int):spec_l6In.f a b c = some (decide (b ≤ a) && decide (a ≤ c)):=by
 unfold spec_l6In.f
 by_cases h:a ≥ b
 ·rw [if_pos h]
  simp [show b ≤ a from h]
 ·rw [if_neg h]
  simp [show ¬ b ≤ a from h]
theorem mn_min (x:Int):mn 1000 x = min 1000 x:=by
 unfold mn
 split <;> omega
theorem specNodes_ev {x:S25} (h:W25 x):Ev (fun k=>spec_l20Nodes.f k x.f0 x.f1 x.f2) (if x.ok = true then min 1000 (x.nodes:Int) else 0):=by
 induction h with
 | mk a b l hl hx ih =>
  have loop:∀ (d i:Nat) (n:Int),i + d = l.length → 1 ≤ n → n ≤ 1000 → Ev (fun k=>spec_l20Nodes.l0 k l.length n i a b l) (if okL (l.drop i) = true then min 1000 (n + nodesL (l.drop i)) else 0):=by
   intro d
   induction d with
   | zero =>
    intro i n hi h1 h2
    rw [List.drop_eq_nil_of_le (by omega)]
    refine Ev.step (fun k=>?_) (Ev.to (Ev.now n) (by simp [okL,nodesL];omega))
    simp only [spec_l20Nodes.l0]
    rw [if_neg (by omega)]
   | succ d ihd =>
    intro i n hi h1 h2
    have hil:i < l.length:=by omega
    have hp:=nodes_pos l[i]
    rw [nodesL_drop hil,okL_drop hil]
    have hc:=ih l[i] (List.getElem_mem hil)
    cases hok:l[i].ok with
    | false =>
     rw [hok,if_neg (by simp)] at hc
     refine Ev.sb hc (fun k hk=>?_) (Ev.to (Ev.now 0) (by simp))
     simp only [spec_l20Nodes.l0]
     rw [if_pos (by omega),if_pos (by omega),if_pos (by omega),rd25_nat _ _ hil,hk]
     simp only [Option.bind_some]
     rw [if_pos (by trivial)]
    | true =>
     rw [hok,if_pos rfl] at hc
     refine Ev.sb hc (fun k hk=>?_) (Ev.to (ihd (i + 1) (min 1000 (n + min 1000 (l[i].nodes:Int))) (by omega) (by omega) (by omega)) ?_)
     ·simp only [spec_l20Nodes.l0]
      rw [if_pos (by omega),if_pos (by omega),if_pos (by omega),rd25_nat _ _ hil,hk]
      simp only [Option.bind_some]
      rw [if_neg (by omega),wrap_id (by omega) (by omega),mn_min,wrap_succ hil (by omega)]
     ·rw [Bool.true_and]
      by_cases h2:okL (l.drop (i + 1)) = true
      ·rw [if_pos h2,if_pos h2]
       omega
      ·rw [if_neg h2,if_neg h2]
  have hN:((S25.mk a b l).nodes:Int) = 1 + nodesL l:=by rw [S25.nodes];omega
  have hok:(S25.mk a b l).ok = (okHead a b l.length && okL l):=by rw [S25.ok]
  rw [hN,hok]
  have hj:∀ (want:Nat) (fl:Bool),Ev (fun k=>spec_l20Nodes.j0 k want fl a b l) (if ((((decide (0 ≤ a) && decide (a ≤ 2)) && fl) && decide (l.length = want)) && okL l) = true then min 1000 (1 + (nodesL l:Int)) else 0):=by
   intro want fl
   have h1:Ev (fun k=>spec_l20Nodes.j1 k want true a b l) 0:=Ev.step (fun k=>by simp only [spec_l20Nodes.j1];rw [if_pos (by trivial)]) (Ev.now 0)
   by_cases ha:(decide (0 ≤ a) && decide (a ≤ 2)) = true
   ·rw [ha]
    cases fl with
    | false =>
     refine Ev.step (fun k=>?_) (Ev.to h1 (by simp))
     simp only [spec_l20Nodes.j0]
     rw [l6In_f,ha]
     simp
    | true =>
     by_cases hw:l.length = want
     ·have h2:Ev (fun k=>spec_l20Nodes.j1 k want ((l.length:Int) != (want:Int)) a b l) (if okL l = true then min 1000 (1 + (nodesL l:Int)) else 0):=by
       refine Ev.step (fun k=>?_) (loop l.length 0 1 (by omega) (by omega) (by omega))
       simp only [spec_l20Nodes.j1]
       rw [if_neg (by simp [hw]),hw]
       rfl
      refine Ev.step (fun k=>?_) (Ev.to h2 (by simp [hw]))
      simp only [spec_l20Nodes.j0]
      rw [l6In_f,ha]
      simp
     ·have h2:Ev (fun k=>spec_l20Nodes.j1 k want ((l.length:Int) != (want:Int)) a b l) 0:=by
       refine Ev.step (fun k=>?_) (Ev.now 0)
       simp only [spec_l20Nodes.j1]
       rw [if_pos (by simpa using fun h=>hw (by omega))]
      refine Ev.step (fun k=>?_) (Ev.to h2 (by simp [hw]))
      simp only [spec_l20Nodes.j0]
      rw [l6In_f,ha]
      simp
   ·have ha':(decide (0 ≤ a) && decide (a ≤ 2)) = false:=by simpa using ha
    refine Ev.step (fun k=>?_) (Ev.to h1 (by rw [ha'];simp))
    simp only [spec_l20Nodes.j0]
    rw [l6In_f,ha']
    simp
  by_cases a0:a = 0
  ·refine Ev.step (fun k=>?_) (Ev.to (hj 0 (decide (0 ≤ b) && decide (b ≤ 9))) (by simp [okHead,a0]))
   simp only [spec_l20Nodes.f]
   rw [if_pos a0,l6In_f]
   rfl
  ·refine Ev.step (fun k=>?_) (Ev.to (hj 2 (b == 0)) ?_)
   ·simp only [spec_l20Nodes.f]
    rw [if_neg a0]
    rfl
   ·by_cases a12:a = 1 ∨ a = 2
    ·simp [okHead,a0,a12,show 0 ≤ a by omega,show a ≤ 2 by omega]
    ·have:(decide (0 ≤ a) && decide (a ≤ 2)) = false:=by simp;omega
     rw [this]
     simp [okHead,a0,a12]
def sealOk (x:S25):Bool:=x.ok && decide (x.nodes ≤ 12)
theorem specOk_ev {x:S25} (h:W25 x):Ev (fun k=>spec_SealOk.f k x.f0 x.f1 x.f2) (sealOk x):=by
 refine Ev.cb (specNodes_ev h) (fun k hk=>?_) (Ev.now _)
 have hp:=nodes_pos x
 simp only [spec_SealOk.f,hk,Option.bind_some,l6In_f]
 unfold sealOk
 cases hok:x.ok with
 | false=>simp
 | true =>
  simp only [if_true,Bool.true_and]
  congr 1
  rw [Bool.eq_iff_iff]
  simp
  omega
end Go.Proofs.YtbcjpdahdecehaaDoor.P
