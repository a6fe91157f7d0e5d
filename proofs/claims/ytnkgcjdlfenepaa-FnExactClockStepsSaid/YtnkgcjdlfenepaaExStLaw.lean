/- ClockSteps of the program answers as the reference's, in memory of its own, whatever the argument: the walk of the law. No condition. -/
import Derived.Test.YtnkgcjdlfenepaaP0
import Derived.Test.YtnkgcjdlfenepaaP1
import Derived.Test.YtnkgcjdlfenepaaP2
import Derived.Test.YtnkgcjdlfenepaaP3
import Derived.Test.YtnkgcjdlfenepaaExSt
import Derived.Test.YtnkgcjdlfenepaaDNeg
import Derived.Test.YtnkgcjdlfenepaaDHeld
import Derived.Test.YtnkgcjdlfenepaaClkSp
namespace Go.Proofs.Ytnkgcjdlfenepaa.P
open Go.RowKit Go.Proofs.YtnkgcjdlfenepaaW.PrintWords Go.Proofs.YtnkgcjdlfenepaaW.PrintLast
set_option linter.unusedVariables false
theorem tk_nodes {x:S29} (h:OkT x):∀ t,t ∈ x.tk → t.f1.nodes ≤ x.nodes:=by
 induction h with
 | nil=>rw [tk_nil];simp
 | act b p h0 h1 hp ih=>rw [tk_act,nodes1];simp
 | wait b p h0 h1 hp ih=>rw [tk_wait];simp
 | sum p q hp hq i1 i2 =>
  rw [tk_sum,nodes2]
  intro t ht
  rcases List.mem_append.1 ht with h | h
  ·have:=i1 t h;omega
  ·have:=i2 t h;omega
 | par p q hp hq i1 i2 =>
  rw [tk_par,nodes2]
  intro t ht
  unfold tkPar at ht
  rcases List.mem_append.1 ht with h | h
  ·rcases List.mem_append.1 h with h | h
   ·obtain ⟨x,hx,rfl⟩:=List.mem_map.1 h
    have:=i1 x hx
    simp only [nodes2]
    omega
   ·obtain ⟨x,hx,rfl⟩:=List.mem_map.1 h
    have:=i2 x hx
    simp only [nodes2]
    omega
  ·rw [tkMeet_mt] at h
   obtain ⟨x,hx,h⟩:=List.mem_flatMap.1 h
   obtain ⟨y,hy,h⟩:=List.mem_flatMap.1 h
   unfold mt at h
   split at h
   ·rw [List.mem_singleton.1 h]
    have:=i1 x hx
    have:=i2 y hy
    simp only [nodes2]
    omega
   ·cases h
mutual
theorem nodes_conv:∀ x:S24,x.conv.nodes = 1 + x.cnt
 | ⟨a,b,l⟩=>by
  have:=nodes_convL l
  simp only [S24.conv,S29.nodes,S24.cnt]
  omega
theorem nodes_convL:∀ l:List S24,nodesL (convL l) = l.length + subL l
 | []=>by simp [convL,nodesL,subL]
 | x :: l=>by
  have h1:=nodes_conv x
  have h2:=nodes_convL l
  simp only [convL,nodesL,subL,List.length_cons]
  omega
end
def sumT (l:List S44):Nat:=(l.map fun t=>3 + 2 * nodesL t.f1.f2).sum
theorem sumT_app (a b:List S44):sumT (a ++ b) = sumT a + sumT b:=by simp [sumT]
theorem mkT_num:∀ (l:List S44) (k:Int),0 ≤ k → k + sumT l ≤ 4611686018427387904 → (mkT l k).1 = k + sumT l
 | [],k,h0,h1=>by simp [mkT,sumT]
 | t :: l,k,h0,h1=>by
  have e:sumT (t :: l) = (3 + 2 * nodesL t.f1.f2) + sumT l:=by simp [sumT]
  rw [e] at h1 ⊢
  have w:w3 k = k + 1 + 1 + 1:=by
   unfold w3
   rw [wrap_id (x:=k + 1) (by omega) (by omega),wrap_id (x:=k + 1 + 1) (by omega) (by omega),wrap_id (x:=k + 1 + 1 + 1) (by omega) (by omega)]
  have e1:(t.mk1 k).1 = k + 3 + 2 * nodesL t.f1.f2:=by
   show (mkL t.f1.f2 (w3 k)).1 = _
   rw [w,mkL_num _ _ (by omega) (by omega)]
   omega
  simp only [mkT]
  rw [mkT_num l _ (by omega) (by omega),e1]
  omega
theorem mkT_get {l:List S44} {i:Nat} (h:i < l.length) (k:Int) (h':i < (mkT l k).2.length):(mkT l k).2[i] = ((l[i]).mk1 (mkT (l.take i) k).1).2:=by
 have e:(mkT l k).2 = (mkT (l.take (i + 1)) k).2 ++ (mkT (l.drop (i + 1)) (mkT (l.take (i + 1)) k).1).2:=by
  have:=congrArg Prod.snd (mkT_append (l.take (i + 1)) (l.drop (i + 1)) k)
  rwa [List.take_append_drop] at this
 have hl:(mkT (l.take i) k).2.length = i:=by rw [mkT_len,List.length_take];omega
 have e2:(mkT l k).2[i]? = some ((l[i]).mk1 (mkT (l.take i) k).1).2:=by
  rw [e,mkT_take h,List.append_assoc,List.getElem?_append_right (by omega),hl,Nat.sub_self]
  rfl
 rw [List.getElem?_eq_getElem h'] at e2
 exact Option.some.inj e2
theorem sumT_take {l:List S44} {i:Nat} (h:i < l.length):sumT (l.take i) + (3 + 2 * nodesL (l[i]).f1.f2) ≤ sumT l:=by
 have h2:sumT l = sumT (l.take i) + sumT (l.drop i):=by rw [← sumT_app,List.take_append_drop]
 have h3:sumT (l.drop i) = (3 + 2 * nodesL (l[i]).f1.f2) + sumT (l.drop (i + 1)):=by rw [List.drop_eq_getElem_cons h,sumT,List.map_cons,List.sum_cons];rfl
 omega
theorem len_sumT:∀ l:List S44,l.length ≤ sumT l
 | []=>by simp [sumT]
 | t :: l=>by
  have:=len_sumT l
  have e:sumT (t :: l) = (3 + 2 * nodesL t.f1.f2) + sumT l:=by simp [sumT]
  simp only [List.length_cons]
  omega
theorem sumT_le {l:List S44} {m:Nat} (h:∀ t,t ∈ l → nodesL t.f1.f2 ≤ m):sumT l ≤ l.length * (3 + 2 * m):=by
 induction l with
 | nil=>simp [sumT]
 | cons t l ih =>
  have e:sumT (t :: l) = (3 + 2 * nodesL t.f1.f2) + sumT l:=by simp [sumT]
  have h1:=h t (List.mem_cons_self ..)
  have h2:=ih (fun y hy=>h y (List.mem_cons_of_mem _ hy))
  rw [e,List.length_cons,Nat.add_mul]
  omega
theorem heldTick_ev {l:List S44} (hb:1 + sumT l ≤ 4611686018427387904):Ev (fun n=>laws_heldTickS.f n (mkT l 1).2 1) (mkT l 1).1:=by
 have hll:=len_sumT l
 have hlen:=mkT_len l 1
 have loop:∀ (d i:Nat),i + d = l.length → Ev (fun n=>laws_heldTickS.l0 n (mkT l 1).2 (mkT (l.take i) 1).1 i) (mkT l 1).1:=by
  intro d
  induction d with
  | zero =>
   intro i hi
   refine Ev.step (fun n=>?_) (Ev.now _)
   simp only [laws_heldTickS.l0]
   rw [if_neg (by omega),show i = l.length by omega,List.take_length]
  | succ d ihd =>
   intro i hi
   have hil:i < l.length:=by omega
   have hn:=sumT_take hil
   have hk:(mkT (l.take i) 1).1 = 1 + sumT (l.take i):=mkT_num _ _ (by omega) (by omega)
   obtain ⟨K,hK⟩:∃ K,K = (mkT (l.take i) 1).1:=⟨_,rfl⟩
   have w:w3 K = K + 1 + 1 + 1:=by
    unfold w3
    rw [wrap_id (x:=K + 1) (by omega) (by omega),wrap_id (x:=K + 1 + 1) (by omega) (by omega),wrap_id (x:=K + 1 + 1 + 1) (by omega) (by omega)]
   have ev:=held_ev (l:=l[i].f1.f2) (k:=w3 K) (by omega) (by omega)
   have e1:(mkL l[i].f1.f2 (w3 K)).1 = (mkT (l.take (i + 1)) 1).1:=by rw [mkT_take hil,← hK];rfl
   have hp:0 ≤ (mkL l[i].f1.f2 (w3 K)).1:=by rw [mkL_num _ _ (by omega) (by omega)];omega
   refine Ev.sb ev (fun n hn=>?_) (ihd (i + 1) (by omega))
   simp only [laws_heldTickS.l0]
   rw [if_pos (by omega),if_pos (by omega),rd44_nat _ _ (by omega),mkT_get hil,← hK]
   simp only [S44.mk1]
   rw [if_pos trivial,if_pos trivial,if_pos trivial]
   have hn':laws_heldClockS.f n (mkL l[i].f1.f2 (w3 K)).2 (wrap64 (wrap64 (wrap64 (K + 1) + 1) + 1)) = some (mkL l[i].f1.f2 (w3 K)).1:=hn
   rw [hn',Option.bind_some,if_neg (by omega),e1,wrap_succ hil (by omega)]
 refine Ev.cb (loop l.length 0 (by omega)) (fun n hn=>?_) (Ev.now _)
 simp only [laws_heldTickS.f]
 rw [List.take_zero] at hn
 exact hn
theorem eqTickS_ev {l:List S44} (hl:l.length ≤ 65536) (hw:∀ t,t ∈ l → W29 t.f1):Ev (fun k=>laws_eqTickS.f k l l) true:=by
 have loop:∀ (d i:Nat),i + d = l.length → Ev (fun k=>laws_eqTickS.l0 k l l i) true:=by
  intro d
  induction d with
  | zero =>
   intro i hi
   refine Ev.step (fun k=>?_) (Ev.now true)
   simp only [laws_eqTickS.l0]
   rw [if_neg (by omega)]
  | succ d ihd =>
   intro i hi
   have hil:i < l.length:=by omega
   refine Ev.sb (eq_ev (hw l[i] (List.getElem_mem hil))) (fun k hk=>?_) (ihd (i + 1) (by omega))
   simp only [laws_eqTickS.l0]
   rw [if_pos (by omega),if_pos (by omega),if_pos (by omega),rd44_nat _ _ hil]
   have hk':laws_eqClock.f k l[i].f1.f0 l[i].f1.f1 l[i].f1.f2 l[i].f1.f0 l[i].f1.f1 l[i].f1.f2 = some true:=hk
   simp only [laws_eqTick.f,if_true,hk',Option.bind_some]
   rw [wrap_succ hil (by omega)]
 refine Ev.cb (loop l.length 0 (by omega)) (fun k hk=>?_) (Ev.now true)
 simp only [laws_eqTickS.f]
 rw [if_pos trivial]
 exact hk
theorem all_ev {α β:Type} {g:Nat → α → Option β} {r:α → β}:∀ l:List α,(∀ t,t ∈ l → Ev (fun k=>g k t) (r t)) → ∃ K,∀ k,K ≤ k → ∀ t,t ∈ l → g k t = some (r t)
 | [],_=>⟨0,fun k _ t ht=>by cases ht⟩
 | x :: l,h=>by
  obtain ⟨K0,h0⟩:=h x (List.mem_cons_self ..)
  obtain ⟨K1,h1⟩:=all_ev l (fun t ht=>h t (List.mem_cons_of_mem _ ht))
  refine ⟨K0 + K1,fun k hk t ht=>?_⟩
  rcases List.mem_cons.1 ht with rfl | ht
  ·exact h0 k (by omega)
  ·exact h1 k (by omega) t ht
theorem stepsAre_ev {x:S29} (h:W29 x):∃ K,∀ k,K ≤ k → StepsAre k x.f0 x.f1 x.f2 (if clockOk x = true then (x.tk,true) else ([],false)).1 (if clockOk x = true then (x.tk,true) else ([],false)).2:=by
 by_cases hc:clockOk x = true
 ·obtain ⟨ht,hn⟩:=clockOk_t h hc
  obtain ⟨K0,h0⟩:=okImpl_ev h
  obtain ⟨K1,h1⟩:=ticks_ev ht hn
  obtain ⟨K2,h2⟩:=all_ev (g:=fun k (t:S44)=>impl_copyClock.f k t.f1.f0 t.f1.f1 t.f1.f2) (r:=fun t=>(t.f1.f0,t.f1.f1,t.f1.f2)) x.tk (fun t hm=>copy_ev (tk_W ht t hm))
  refine ⟨K0 + K1 + K2,fun k hk=>?_⟩
  rw [if_pos hc]
  have h0':=h0 k (by omega)
  rw [hc] at h0'
  exact .inl ⟨h0',rfl,h1 k (by omega),h2 k (by omega)⟩
 ·obtain ⟨K0,h0⟩:=steps_ev h
  refine ⟨K0,fun k hk=>?_⟩
  have h0':=h0 k hk
  rw [if_neg hc] at h0' ⊢
  exact .inr ⟨h0',rfl,rfl⟩
theorem exSt_walk (cs:Array Value) (x:S24) (W:World) (hk:k24.K W x cs.toList) (hg:Good24 x) :
  Calls Try.prog 7 #[.agg cs] W fun e w'=>e = .returned (.bool true)∧Below W.heap.size W w':=by
 obtain ⟨A2,c2,hcs,l2,g2⟩:=k24_open hk
 obtain rfl:cs = #[.int .i64 x.f0,.int .i64 x.f1,.slice A2 x.f2.length c2]:=by
  apply Array.toList_inj.1
  simpa using hcs
 obtain ⟨K0,h0⟩:=sz_ev hg 1048576 (by omega) (by omega)
 by_cases hc:(x.cnt:Int) ≤ 1048576
 ·rw [if_pos hc] at h0
  have hcn:x.cnt ≤ 1048576:=by omega
  have hW:=conv_W hg hcn
  obtain ⟨K1,h1⟩:=to_ev hg hcn
  obtain ⟨K2,h2⟩:=specSteps_ev hW
  obtain ⟨K3,h3⟩:=stepsAre_ev hW
  obtain ⟨K4,h4⟩:=eq_ev hW
  obtain ⟨T,hT⟩:∃ T,T = (if clockOk x.conv = true then (x.conv.tk,true) else ([],false)).1:=⟨_,rfl⟩
  have hTl:T.length ≤ 65535∧∀ t,t ∈ T → W29 t.f1∧t.f1.nodes ≤ 16:=by
   rw [hT]
   split
   ·rename_i hok
    obtain ⟨ht,hn⟩:=clockOk_t hW hok
    exact ⟨tk_small ht hn,fun t hm=>⟨tk_W ht t hm,Nat.le_trans (tk_nodes ht t hm) hn⟩⟩
   ·exact ⟨by simp,fun t hm=>by cases hm⟩
  obtain ⟨K5,h5⟩:=eqTickS_ev (l:=T) (by omega) (fun t hm=>(hTl.2 t hm).1)
  have hs:sumT T ≤ T.length * (3 + 2 * 16):=sumT_le (fun t hm=>by
   have:=(hTl.2 t hm).2
   have e:t.f1.nodes = 1 + nodesL t.f1.f2:=by cases t.f1;simp [S29.nodes]
   omega)
  have hs2:T.length * (3 + 2 * 16) ≤ 65535 * 35:=Nat.mul_le_mul_right _ hTl.1
  obtain ⟨K6,h6⟩:=heldTick_ev (l:=T) (by omega)
  have hx:nodesL (convL x.f2) ≤ 1048576:=by
   have:=nodes_convL x.f2
   have e:x.cnt = x.f2.length + subL x.f2:=by cases x;simp [S24.cnt]
   omega
  have n1:(mkL (convL x.f2) 1).1 = 1 + 2 * nodesL (convL x.f2):=mkL_num _ _ (by omega) (by omega)
  have n2:(mkT T 1).1 = 1 + sumT T:=mkT_num _ _ (by omega) (by omega)
  have e2:(if clockOk x.conv = true then (x.conv.tk,true) else ([],false)) = (T,(if clockOk x.conv = true then (x.conv.tk,true) else ([],false)).2):=by rw [hT]
  rw [e2] at h2 h3
  simp only [conv_f0,conv_f1,conv_f2] at h2 h3 h4
  obtain ⟨k,hk⟩:∃ k,k = K0 + K1 + K2 + K3 + K4 + K5 + K6:=⟨_,rfl⟩
  exact exCSteps_main k x.f0 x.f1 A2 c2 x.f2 _ (convL x.f2) W g2 l2 (h0 k (by omega)) (decide_eq_false (by omega)) (h1 k (by omega)) (h4 k (by omega)) (decide_eq_false (by omega)) T _ (h2 k (by omega)) (h3 k (by omega)) (h5 k (by omega)) (h6 k (by omega)) (decide_eq_false (by omega))
 ·rw [if_neg hc] at h0
  exact exCSteps_r K0 x.f0 x.f1 A2 c2 x.f2 _ W g2 l2 (h0 K0 (Nat.le_refl _)) (by decide)
end Go.Proofs.Ytnkgcjdlfenepaa.P
