/- What was marked is held; how far the marks go. No condition. -/
import Derived.Test.YtnkgcjdlfenepaaP0
import Derived.Test.YtnkgcjdlfenepaaP3
import Derived.Test.YtnkgcjdlfenepaaDMark
import Derived.Test.YtnkgcjdlfenepaaTree
namespace Go.Proofs.Ytnkgcjdlfenepaa.P
open Go.RowKit Go.Proofs.YtnkgcjdlfenepaaW.PrintWords Go.Proofs.YtnkgcjdlfenepaaW.PrintLast Go.Proofs.YtnkgcjdlfenepaaW.PrintMore
set_option linter.unusedVariables false
mutual
theorem mk1_num:∀ (x:S29) (k:Int),0 ≤ k → k + 2 * x.nodes ≤ 4611686018427387904 → (x.mk1 k).1 = k + 2 * x.nodes
 | ⟨a,b,l⟩,k,h0,h1=>by
  simp only [S29.nodes] at h1 ⊢
  simp only [S29.mk1]
  rw [wrap_id (x:=k + 1) (by omega) (by omega),wrap_id (x:=k + 1 + 1) (by omega) (by omega),mkL_num l _ (by omega) (by omega)]
  omega
theorem mkL_num:∀ (l:List S29) (k:Int),0 ≤ k → k + 2 * nodesL l ≤ 4611686018427387904 → (mkL l k).1 = k + 2 * nodesL l
 | [],k,h0,h1=>by simp [mkL,nodesL]
 | x :: l,k,h0,h1=>by
  simp only [nodesL] at h1 ⊢
  simp only [mkL]
  have e:=mk1_num x k h0 (by omega)
  rw [mkL_num l _ (by omega) (by omega),e]
  omega
end
theorem mkL_get {l:List S29} {i:Nat} (h:i < l.length) (k:Int) (h':i < (mkL l k).2.length):(mkL l k).2[i] = ((l[i]).mk1 (mkL (l.take i) k).1).2:=by
 have e:(mkL l k).2 = (mkL (l.take (i + 1)) k).2 ++ (mkL (l.drop (i + 1)) (mkL (l.take (i + 1)) k).1).2:=by
  have:=congrArg Prod.snd (mkL_append (l.take (i + 1)) (l.drop (i + 1)) k)
  rwa [List.take_append_drop] at this
 have hl:(mkL (l.take i) k).2.length = i:=by rw [mkL_len,List.length_take];omega
 have e2:(mkL l k).2[i]? = some ((l[i]).mk1 (mkL (l.take i) k).1).2:=by
  rw [e,mkL_take h,List.append_assoc,List.getElem?_append_right (by omega),hl,Nat.sub_self]
  rfl
 rw [List.getElem?_eq_getElem h'] at e2
 exact Option.some.inj e2
theorem nodesL_take {l:List S29} {i:Nat} (h:i < l.length):nodesL (l.take i) + (l[i]).nodes ≤ nodesL l:=by
 have h1:=nodesL_drop h
 have h2:nodesL l = nodesL (l.take i) + nodesL (l.drop i):=by rw [← nodesL_app,List.take_append_drop]
 omega
theorem len_nodesL:∀ l:List S29,l.length ≤ nodesL l
 | []=>by simp [nodesL]
 | x :: l=>by have:=len_nodesL l;have:=nodes_pos x;simp only [List.length_cons,nodesL];omega
theorem heldS_of {l:List S29} {k:Int} (h0:0 ≤ k) (h1:k + 2 * nodesL l ≤ 4611686018427387904)
  (ih:∀ y,y ∈ l → ∀ j:Int,0 ≤ j → j + 2 * y.nodes ≤ 4611686018427387904 → Ev (fun n=>laws_heldClockS.f n (mkL y.f2 (wrap64 (wrap64 (j + 1) + 1))).2 (wrap64 (wrap64 (j + 1) + 1))) (y.mk1 j).1) :
  Ev (fun n=>laws_heldClockS.f n (mkL l k).2 k) (mkL l k).1:=by
 have hll:=len_nodesL l
 have hlen:=mkL_len l k
 have loop:∀ (d i:Nat),i + d = l.length → Ev (fun n=>laws_heldClockS.l0 n (mkL l k).2 (mkL (l.take i) k).1 i) (mkL l k).1:=by
  intro d
  induction d with
  | zero =>
   intro i hi
   refine Ev.step (fun n=>?_) (Ev.now _)
   simp only [laws_heldClockS.l0]
   rw [if_neg (by omega),show i = l.length by omega,List.take_length]
  | succ d ihd =>
   intro i hi
   have hil:i < l.length:=by omega
   have hn:=nodesL_take hil
   have hk:(mkL (l.take i) k).1 = k + 2 * nodesL (l.take i):=mkL_num _ _ h0 (by omega)
   have ev:=ih l[i] (List.getElem_mem hil) (mkL (l.take i) k).1 (by omega) (by omega)
   have e1:(l[i].mk1 (mkL (l.take i) k).1).1 = (mkL (l.take (i + 1)) k).1:=by rw [mkL_take hil]
   have hp:0 ≤ (l[i].mk1 (mkL (l.take i) k).1).1:=by rw [mk1_num _ _ (by omega) (by omega)];omega
   have em:=mk1_eq l[i] (mkL (l.take i) k).1
   refine Ev.sb ev (fun n hk=>?_) (ihd (i + 1) (by omega))
   simp only [laws_heldClockS.l0]
   rw [if_pos (by omega),if_pos (by omega),rd29_nat _ _ (by omega),mkL_get hil,em]
   dsimp only
   rw [if_pos rfl,if_pos rfl,hk,Option.bind_some,if_neg (by omega),e1,wrap_succ hil (by omega)]
 refine Ev.step (fun n=>?_) (loop l.length 0 (by omega))
 simp only [laws_heldClockS.f]
 rw [List.take_zero]
 rfl
mutual
theorem held1:∀ (x:S29) (j:Int),0 ≤ j → j + 2 * x.nodes ≤ 4611686018427387904 → Ev (fun n=>laws_heldClockS.f n (mkL x.f2 (wrap64 (wrap64 (j + 1) + 1))).2 (wrap64 (wrap64 (j + 1) + 1))) (x.mk1 j).1
 | ⟨a,b,l⟩,j,h0,h1=>by
  simp only [S29.nodes] at h1
  rw [mk1_eq]
  dsimp only
  rw [wrap_id (x:=j + 1) (by omega) (by omega),wrap_id (x:=j + 1 + 1) (by omega) (by omega)]
  exact heldS_of (by omega) (by omega) (heldL l)
theorem heldL:∀ (l:List S29) (y:S29),y ∈ l → ∀ j:Int,0 ≤ j → j + 2 * y.nodes ≤ 4611686018427387904 → Ev (fun n=>laws_heldClockS.f n (mkL y.f2 (wrap64 (wrap64 (j + 1) + 1))).2 (wrap64 (wrap64 (j + 1) + 1))) (y.mk1 j).1
 | [],y,hy=>by cases hy
 | x :: l,y,hy=>by
  rcases List.mem_cons.1 hy with h | h
  ·rw [h];exact held1 x
  ·exact heldL l y h
end
theorem held_ev {l:List S29} {k:Int} (h0:0 ≤ k) (h1:k + 2 * nodesL l ≤ 4611686018427387904):Ev (fun n=>laws_heldClockS.f n (mkL l k).2 k) (mkL l k).1:=heldS_of h0 h1 (heldL l)
end Go.Proofs.Ytnkgcjdlfenepaa.P
