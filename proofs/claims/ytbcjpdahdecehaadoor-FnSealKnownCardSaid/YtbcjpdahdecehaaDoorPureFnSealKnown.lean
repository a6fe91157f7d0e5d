import Derived.Test.YtbcjpdahdecehaaDoorP0
import Derived.Test.YtbcjpdahdecehaaDoorP1
import Derived.Test.YtbcjpdahdecehaaDoorP2
import Derived.Test.YtbcjpdahdecehaaDoorP3
import Derived.Test.YtbcjpdahdecehaaDoorP4
import Derived.Test.YtbcjpdahdecehaaDoorDrawAsk
import Derived.Test.YtbcjpdahdecehaaDoorSealLaw
import Derived.Test.YtbcjpdahdecehaaDoorSpKnown
namespace Go.Proofs.YtbcjpdahdecehaaDoor.Pure
open Go.RowKit Go.Proofs.YtbcjpdahdecehaaDoor.P Go.Proofs.YtbcjpdahdecehaaDoorW.PrintWords Go.Proofs.YtbcjpdahdecehaaDoorW.PrintLast
set_option linter.unusedVariables false
theorem drawKnown_ev {l0:List Int} (hwf:∀ x,x ∈ l0 → (Lit.int .u8 x).wf = true):∃ (l:List S25),l.length ≤ 7∧(∀ y,y ∈ l → W25 y)∧Ev (fun k=>spec_DrawSealKnown.f k l0) l:=by
 obtain ⟨s,hs,ho⟩:=open_ev hwf
 obtain ⟨l,p1,hl,hw,q1,q2,h1⟩:=know_ev hs (p:=0) (by omega) (by omega)
 refine ⟨l,hl,fun y hy=>(hw y hy).1,Ev.cb h1 (f:=fun _=>some l) (fun k hk=>?_) (Ev.now _)⟩
 simp only [spec_DrawSealKnown.f]
 rw [ho,Option.bind_some]
 dsimp only
 rw [hk,Option.bind_some]
theorem mnTexts_ev {ss:List ByteArray} (hl:ss.length ≤ 1000000):Ev (fun k=>laws_mnTexts.f k ss ss) true:=by
 have loop:∀ (d i:Nat),i + d = ss.length → Ev (fun k=>laws_mnTexts.l0 k ss ss i) true:=by
  intro d
  induction d with
  | zero =>
   intro i hi
   refine Ev.step (f:=fun _=>some true) (fun k=>?_) (Ev.now _)
   simp only [laws_mnTexts.l0]
   rw [if_neg (by omega)]
  | succ d ih =>
   intro i hi
   refine Ev.step (fun k=>?_) (ih (i + 1) (by omega))
   simp only [laws_mnTexts.l0]
   rw [if_pos (by omega),if_pos (by omega),if_pos (by omega),if_pos trivial,wrap_succ (show i < ss.length by omega) (by omega)]
 refine Ev.congr (f:=fun k=>laws_mnTexts.l0 k ss ss ((0:Nat):Int)) (fun k=>?_) (loop ss.length 0 (by omega))
 simp only [laws_mnTexts.f]
 exact if_pos trivial
theorem sorted_l2 {ss:List ByteArray} (hs:ss.Pairwise bl) (hl:ss.length ≤ 1000000):∀ (d i:Nat),i + d = ss.length + 1 → 1 ≤ i → Ev (fun k=>laws_FnSealKnown.l2 k ss i) true:=by
 intro d
 induction d with
 | zero =>
  intro i hi h1
  refine Ev.step (f:=fun _=>some true) (fun k=>?_) (Ev.now _)
  simp only [laws_FnSealKnown.l2]
  rw [if_neg (by omega)]
 | succ d ih =>
  intro i hi h1
  by_cases hlt:i < ss.length
  ·obtain ⟨j,rfl⟩:∃ j,i = j + 1:=⟨i - 1,by omega⟩
   have hw:wrap64 (((j + 1:Nat):Int) - 1) = (j:Int):=by rw [wrap_id (by omega) (by omega)];omega
   have hb:bl ss[j] ss[j + 1]:=List.pairwise_iff_getElem.1 hs j (j + 1) (by omega) hlt (by omega)
   refine Ev.step (fun k=>?_) (ih (j + 1 + 1) (by omega) (by omega))
   simp only [laws_FnSealKnown.l2]
   rw [if_pos (by omega),hw,if_pos (by omega),if_pos (by omega),if_pos (by omega),rdB_nat ss j (by omega),rdB_nat ss (j + 1) hlt,less_bl,decide_eq_true hb,if_pos rfl,wrap_succ hlt (by omega)]
  ·refine Ev.step (f:=fun _=>some true) (fun k=>?_) (Ev.now _)
   simp only [laws_FnSealKnown.l2]
   rw [if_neg (by omega)]
theorem okT_okK {x:S25} (h:OkT x):x.ok = true:=by
 induction h with
 | name b h0 h1=>simp [S25.ok,okL,okHead,h0,h1]
 | pair p q hp hq i1 i2=>simp [S25.ok,okL,okHead,i1,i2]
 | shut p q hp hq i1 i2=>simp [S25.ok,okL,okHead,i1,i2]
theorem known_tail {l:List S25} (hl:l.length ≤ 7) (hw:∀ y,y ∈ l → W25 y) (hk:knownOk l = true) {ss:List ByteArray} {i:Nat} (hil:i < l.length) (b:Bool) (hb:b = true) (d:Nat) (m:Nat) (hm:ss.length ≤ m)
  (hnext:Ev (fun k=>laws_FnSealKnown.l0 k l ss true ((i + 1:Nat):Int)) true):Ev (fun k=>laws_FnSealKnown.l1 k l ss true i b m) true:=by
 subst hb
 have hWi:=hw _ (List.getElem_mem hil)
 have hok:=(knownOk_iff.1 hk).2 _ (List.getElem_mem hil)
 have ht:=(sealOk_t hWi hok).1
 have hd:Der l l[i]:=.base (List.getElem_mem hil)
 have e:=rd25_nat l i hil
 have m0:madeIs l l[i] = true:=madeIs_iff.2 ⟨hk,hok,.own hd⟩
 have e0:=implMade_eq hw hWi
 refine Ev.step (fun k=>?_) hnext
 simp only [laws_FnSealKnown.l1]
 rw [if_neg (by omega),if_pos (by omega),if_pos (by omega),if_pos trivial,e,e0,Option.bind_some,m0,if_pos rfl,wrap_succ hil (by omega)]
 by_cases h1:l[i].f0 = 1
 ·rw [if_pos h1]
  generalize hx:l[i] = x at *
  cases ht with
  | name b _ _=>cases h1
  | pair p q hp hq =>
   have hWp:=hWi.part p (by simp)
   have hWq:=hWi.part q (by simp)
   have mp:madeIs l p = true:=by
    refine madeIs_iff.2 ⟨hk,?_,.own (.fst hd)⟩
    have:=(sealOk_t hWi hok).2
    rw [nodes2] at this
    unfold sealOk
    rw [okT_okK hp,decide_eq_true (by omega)]
    rfl
   have mq:madeIs l q = true:=by
    refine madeIs_iff.2 ⟨hk,?_,.own (.snd hd)⟩
    have:=(sealOk_t hWi hok).2
    rw [nodes2] at this
    unfold sealOk
    rw [okT_okK hq,decide_eq_true (by omega)]
    rfl
   have ep:impl_SealMade.f l p.f0 p.f1 p.f2 = some true:=(implMade_eq hw hWp).trans (congrArg some mp)
   have eq:impl_SealMade.f l q.f0 q.f1 q.f2 = some true:=(implMade_eq hw hWq).trans (congrArg some mq)
   rw [if_pos (by simp),show rd_T25 [p,q] 0 = p from rfl,ep,Option.bind_some,if_pos rfl,if_pos (by simp),show rd_T25 [p,q] 1 = q from rfl,eq,Option.bind_some,if_pos rfl]
  | shut p q hp hq=>cases h1
 ·rw [if_neg h1]
theorem known_l1 {l:List S25} (hl:l.length ≤ 7) (hw:∀ y,y ∈ l → W25 y) (hk:knownOk l = true) {ss:List ByteArray} (hss:IsKnown l ss) (hsl:ss.length ≤ 1000000) {i:Nat} (hil:i < l.length)
  (hnext:Ev (fun k=>laws_FnSealKnown.l0 k l ss true ((i + 1:Nat):Int)) true):∀ (d j:Nat) (b:Bool),j + d = ss.length → (b = true ∨ l[i].tx ∈ ss.drop j) → Ev (fun k=>laws_FnSealKnown.l1 k l ss true i b j) true:=by
 have hWi:=hw _ (List.getElem_mem hil)
 have hok:=(knownOk_iff.1 hk).2 _ (List.getElem_mem hil)
 have htx:=implText_ev hWi
 rw [hok,if_pos rfl] at htx
 have e:=rd25_nat l i hil
 intro d
 induction d with
 | zero =>
  intro j b hj hb
  have:b = true:=by
   rcases hb with hb | hb
   ·exact hb
   ·rw [List.drop_eq_nil_of_le (by omega)] at hb
    cases hb
  exact known_tail hl hw hk hil b this 0 j (by omega) hnext
 | succ d ih =>
  intro j b hj hb
  have hjl:j < ss.length:=by omega
  cases b with
  | true =>
   refine Ev.step (fun k=>?_) (ih (j + 1) true (by omega) (Or.inl rfl))
   simp only [laws_FnSealKnown.l1]
   rw [if_pos (by omega),if_pos trivial,wrap_succ hjl (by omega)]
  | false =>
   have hm:l[i].tx ∈ ss.drop j:=hb.resolve_left (by simp)
   rw [List.drop_eq_getElem_cons hjl] at hm
   have hnx:(ss[j].toList == l[i].tx.toList) = true ∨ l[i].tx ∈ ss.drop (j + 1):=by
    rcases List.mem_cons.1 hm with h | h
    ·exact Or.inl (by rw [h];exact beq_self_eq_true _)
    ·exact Or.inr h
   refine Ev.sb htx (fun k hk'=>?_) (ih (j + 1) (ss[j].toList == l[i].tx.toList) (by omega) hnx)
   simp only [laws_FnSealKnown.l1]
   rw [if_pos (by omega),if_neg (by simp),if_pos (by omega),if_pos (by omega),if_pos (by omega),e,hk',Option.bind_some,rdB_nat ss j hjl,wrap_succ hjl (by omega)]
theorem known_l0 {l:List S25} (hl:l.length ≤ 7) (hw:∀ y,y ∈ l → W25 y) (hk:knownOk l = true) {ss:List ByteArray} (hss:IsKnown l ss) (hsl:ss.length ≤ 1000000):∀ (d i:Nat),i + d = l.length → Ev (fun k=>laws_FnSealKnown.l0 k l ss true i) true:=by
 intro d
 induction d with
 | zero =>
  intro i hi
  have h2:=sorted_l2 hss.1 hsl ss.length 1 (by omega) (by omega)
  refine Ev.step (f:=fun k=>laws_FnSealKnown.j2 k l ss true i false) (fun k=>?_) (Ev.step (fun k=>?_) h2)
  ·simp only [laws_FnSealKnown.l0]
   rw [if_neg (by omega)]
  ·simp only [laws_FnSealKnown.j2]
   rw [if_neg (by simp)]
   rfl
 | succ d ih =>
  intro i hi
  have hil:i < l.length:=by omega
  have hm:l[i].tx ∈ ss:=(hss.2 _).2 ⟨_,.base (List.getElem_mem hil),rfl⟩
  have h1:=known_l1 hl hw hk hss hsl hil (ih (i + 1) (by omega)) ss.length 0 false (by omega) (Or.inr (by rwa [List.drop_zero]))
  refine Ev.step (f:=fun k=>laws_FnSealKnown.j2 k l ss true i true) (fun k=>?_) (Ev.step (fun k=>?_) h1)
  ·simp only [laws_FnSealKnown.l0]
   rw [if_pos (by omega)]
  ·simp only [laws_FnSealKnown.j2]
   rw [if_pos trivial]
   rfl
theorem known_none {l:List S25}:Ev (fun k=>laws_FnSealKnown.l0 k l [] false 0) true:=by
 refine Ev.step (f:=fun k=>laws_FnSealKnown.j2 k l [] false 0 false) (fun k=>?_) (Ev.step (f:=fun k=>laws_FnSealKnown.l2 k [] 1) (fun k=>?_) (Ev.step (f:=fun _=>some true) (fun k=>?_) (Ev.now _)))
 ·simp only [laws_FnSealKnown.l0]
  split <;> rfl
 ·simp only [laws_FnSealKnown.j2]
  rw [if_neg (by simp)]
 ·simp only [laws_FnSealKnown.l2]
  rw [if_neg (by simp)]
theorem known_len {l:List S25} (hk:knownOk l = true) {ss:List ByteArray} (h:IsKnown l ss):ss.length ≤ 1000000:=by
 have hn:=nodes_known hk
 haveI:DecidableEq ByteArray:=fun a b=>Classical.propDecidable _
 have h1:ss.Pairwise (fun a b=>a ≠ b):=h.1.imp fun hab e=>by rw [e] at hab;exact List.lt_irrefl _ hab
 have h2:=nodup_len (m:=(subsL l).map S25.tx) h1 fun s hs=>by
  obtain ⟨x,hd,rfl⟩:=(h.2 s).1 hs
  exact List.mem_map.2 ⟨x,der_subs hd,rfl⟩
 rw [List.length_map,subsL_len] at h2
 omega
theorem FnSealKnown:laws_FnSealKnown.Pure:=by
 intro l0 hlen hlen2 hwf
 by_cases hl:(l0.length:Int) > 1048576
 ·exact ⟨0,by simp only [laws_FnSealKnown.f];rw [if_pos hl]⟩
 ·obtain ⟨l,h7,hw,hd⟩:=drawKnown_ev hwf
  rcases specKnown_ev (by omega) hw with ⟨hk,ss,hss,h1,h2⟩ | ⟨hk,h1,h2⟩
  ·have hsl:=known_len hk hss
   refine Ev.rounds (g:=fun k=>laws_FnSealKnown.f k l0) (Ev.cb hd (f:=fun k=>(spec_SealKnown.f k l).bind fun bt811=>((laws_mnTexts.f k ss bt811.1).bind fun t815=>(if t815 = true then (laws_FnSealKnown.j0 k l ss true (true != bt811.2)) else (laws_FnSealKnown.j0 k l ss true true)))) (fun k hk=>?_) (Ev.cb h1 (f:=fun k=>(laws_mnTexts.f k ss ss).bind fun t815=>(if t815 = true then (laws_FnSealKnown.j0 k l ss true false) else (laws_FnSealKnown.j0 k l ss true true))) (fun k hk=>?_) (Ev.cb (mnTexts_ev hsl) (f:=fun k=>laws_FnSealKnown.j0 k l ss true false) (fun k hk=>?_) (Ev.step (fun k=>?_) (known_l0 h7 hw hk hss hsl l.length 0 (by omega))))))
   ·simp only [laws_FnSealKnown.f]
    rw [if_neg hl,hk,Option.bind_some,h2,Option.bind_some]
   ·rw [hk,Option.bind_some]
    rfl
   ·rw [hk,Option.bind_some,if_pos rfl]
   ·simp only [laws_FnSealKnown.j0]
    rw [if_neg (by simp)]
    rfl
  ·refine Ev.rounds (g:=fun k=>laws_FnSealKnown.f k l0) (Ev.cb hd (f:=fun k=>(spec_SealKnown.f k l).bind fun bt811=>((laws_mnTexts.f k [] bt811.1).bind fun t815=>(if t815 = true then (laws_FnSealKnown.j0 k l [] false (false != bt811.2)) else (laws_FnSealKnown.j0 k l [] false true)))) (fun k hk=>?_) (Ev.cb h1 (f:=fun k=>(laws_mnTexts.f k [] []).bind fun t815=>(if t815 = true then (laws_FnSealKnown.j0 k l [] false false) else (laws_FnSealKnown.j0 k l [] false true))) (fun k hk=>?_) (Ev.cb (mnTexts_ev (ss:=[]) (Nat.zero_le _)) (f:=fun k=>laws_FnSealKnown.j0 k l [] false false) (fun k hk=>?_) (Ev.step (fun k=>?_) (known_none (l:=l))))))
   ·simp only [laws_FnSealKnown.f]
    rw [if_neg hl,hk,Option.bind_some,h2,Option.bind_some]
   ·rw [hk,Option.bind_some]
    rfl
   ·rw [hk,Option.bind_some,if_pos rfl]
   ·simp only [laws_FnSealKnown.j0]
    rw [if_neg (by simp)]
end Go.Proofs.YtbcjpdahdecehaaDoor.Pure
