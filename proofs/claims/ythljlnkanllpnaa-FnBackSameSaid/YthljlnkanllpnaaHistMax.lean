/- Going back takes no more than it must: what is left holds every part that may be left; so it is the same, in whatever order it was done. Plain; no condition. -/
import Derived.Test.YthljlnkanllpnaaHistBk
import Derived.Test.YthljlnkanllpnaaHistI
namespace Go.Proofs.Ythljlnkanllpnaa.P
open Go.RowKit Go.Proofs.YthljlnkanllpnaaW.PrintWords Go.Proofs.YthljlnkanllpnaaW.PrintLast Go.Proofs.YthljlnkanllpnaaW.PrintMore
set_option linter.unusedVariables false
set_option linter.unusedSimpArgs false
theorem ofP_append (g h:List S32) (k:Int):ofP (g ++ h) k = ofP g k ++ ofP h k:=List.filter_append ..
theorem split_at {h:List S32} {j:Nat} (hj:j < h.length):h = h.take j ++ h[j] :: h.drop (j + 1):=by
 rw [List.getElem_cons_drop,List.take_append_drop]
theorem ofP_split {h:List S32} {j:Nat} (hj:j < h.length) {k:Int} (hb:hasB h[j] k = true):ofP h k = (ofP (h.take j) k ++ [h[j]]) ++ ofP (h.drop (j + 1)) k:=by
 conv=>lhs;rw [split_at hj]
 rw [ofP_append,ofP_cons,if_pos hb]
 simp
theorem ofP_take_le (h:List S32) {i j:Nat} (hij:i ≤ j) (k:Int):(ofP (h.take i) k).length ≤ (ofP (h.take j) k).length:=by
 have e:h.take i = (h.take j).take i:=by rw [List.take_take,Nat.min_eq_left hij]
 rw [e]
 exact (List.Sublist.filter _ (List.take_sublist i (h.take j))).length_le
theorem both_comm (l:List S32) (a b:Int):(ofP l a).filter (fun f=>hasB f b) = (ofP l b).filter (fun f=>hasB f a):=by
 simp only [ofP,List.filter_filter]
 congr 1
 funext f
 rw [Bool.and_comm]
theorem lacks_both {s h:List S32} {j:Nat} (hj:j < h.length) {a b:Int} (ha:hasB h[j] a = true) (hb:hasB h[j] b = true) (sa:ofP s a <+: ofP h a) (sb:ofP s b <+: ofP h b) (hl:(ofP s a).length ≤ (ofP (h.take j) a).length):(ofP s b).length ≤ (ofP (h.take j) b).length:=by
 rcases Nat.lt_or_ge (ofP (h.take j) b).length (ofP s b).length with hc | hc
 ·exfalso
  have p1:ofP s a <+: ofP (h.take j) a:=by
   refine List.prefix_of_prefix_length_le sa ?_ hl
   rw [ofP_split hj ha,List.append_assoc]
   exact List.prefix_append _ _
  have p2:ofP (h.take j) b ++ [h[j]] <+: ofP s b:=by
   refine List.prefix_of_prefix_length_le ?_ sb (by rw [List.length_append,List.length_singleton];omega)
   rw [ofP_split hj hb]
   exact List.prefix_append _ _
  have l1:=(p1.sublist.filter (fun f=>hasB f b)).length_le
  have l2:=(p2.sublist.filter (fun f=>hasB f a)).length_le
  rw [List.filter_append,List.length_append,List.filter_cons,if_pos ha] at l2
  rw [both_comm s a b,both_comm (h.take j) a b] at l1
  simp at l2
  omega
 ·exact hc
def Part (s h:List S32):Prop:=∀ k:Nat,ofP s (k:Int) <+: ofP h (k:Int)
def Lacks (s h:List S32) (j:Nat):Prop:=∀ e,h[j]? = some e → ∀ k:Nat,hasB e (k:Int) = true → (ofP s (k:Int)).length ≤ (ofP (h.take j) (k:Int)).length
theorem lacks_of {s h:List S32} (sp:Part s h) {j:Nat} (hj:j < h.length) {k:Nat} (hk:hasB h[j] (k:Int) = true) (hl:(ofP s (k:Int)).length ≤ (ofP (h.take j) (k:Int)).length):Lacks s h j:=by
 intro e he k' hk'
 rw [List.getElem?_eq_getElem hj] at he
 cases he
 exact lacks_both hj hk hk' (sp k) (sp k') hl
theorem run_low {th:List (List Int)}:∀ (h:List S32) {x a:List Int},run th x h = some a → ∀ f ∈ h,0 ≤ f.f0∧f.f0 < (th.length:Int)∧(f.f1 = -1 ∨ (f.f0 < f.f1∧f.f1 < (th.length:Int)))
 | [],x,a,_,f,hf=>by cases hf
 | e :: t,x,a,hr,f,hf=>by
  rw [run] at hr
  by_cases hc:can th x e.f0 e.f1 = true
  ·rw [if_pos hc] at hr
   rcases List.mem_cons.1 hf with rfl | hf
   ·exact can_low hc
   ·exact run_low t hr f hf
  ·rw [if_neg hc] at hr
   cases hr
theorem okH_low {th:List (List Int)} {h:List S32} (ho:okH th h = true):∀ f ∈ h,0 ≤ f.f0∧f.f0 < (th.length:Int)∧(f.f1 = -1 ∨ (f.f0 < f.f1∧f.f1 < (th.length:Int))):=run_low h (histAt_ok ho).2
theorem ofP_beyond {th:List (List Int)} {h:List S32} (ho:okH th h = true) {k:Nat} (hk:th.length ≤ k):ofP h (k:Int) = []:=by
 rw [ofP,List.filter_eq_nil_iff]
 intro f hf hh
 obtain ⟨a,b,c⟩:=okH_low ho f hf
 rcases hasB_iff.1 hh with h1 | h1 <;> omega
theorem link_common {e f:S32} (he:0 ≤ e.f0) (hl:linkB e f = true):∃ k:Nat,hasB e (k:Int) = true∧hasB f (k:Int) = true:=by
 rcases linkB_iff.1 hl with h1 | ⟨h0,h1⟩
 ·exact ⟨e.f0.toNat,hasB_iff.2 (.inl (by omega)),hasB_iff.2 (by omega)⟩
 ·exact ⟨e.f1.toNat,hasB_iff.2 (.inr (by omega)),hasB_iff.2 (by omega)⟩
theorem DropTo.max {s h r:List S32} {i j:Nat} (d:DropTo h i j r):∀ {e:S32},h[i]? = some e → (∀ k f,j < k → h[k]? = some f → linkB e f = false) → (∀ f ∈ h,0 ≤ f.f0) → Part s h → Lacks s h i → Part s r:=by
 induction d with
 | @stop h i j hn =>
  intro e he hfr hlow sp hl k
  obtain ⟨hi,rfl⟩:=List.getElem?_eq_some_iff.1 he
  have hfr':∀ k f,i < k → h[k]? = some f → linkB h[i] f = false:=fun k f hk=>hfr k f (by omega)
  have hm:=ofP_moved he hfr' k
  rw [ofP_append] at hm
  by_cases hb:hasB h[i] (k:Int) = true
  ·have h1:=hl _ he k hb
   have h2:(ofP (h.take i) (k:Int)).length ≤ (ofP (h.eraseIdx i) (k:Int)).length:=by
    rw [List.eraseIdx_eq_take_drop_succ,ofP_append,List.length_append]
    omega
   refine List.prefix_of_prefix_length_le (sp k) ?_ (by omega)
   rw [← hm]
   exact List.prefix_append _ _
  ·rw [ofP_cons,if_neg hb] at hm
   have:ofP (h.eraseIdx i) (k:Int) = ofP h (k:Int):=by
    rw [← hm]
    simp [ofP]
   rw [this]
   exact sp k
 | @skip h r i j hij hc d ih =>
  intro e he hfr hlow sp hl
  obtain ⟨hi,rfl⟩:=List.getElem?_eq_some_iff.1 he
  refine ih he (fun k f hk hf=>?_) hlow sp hl
  by_cases hkj:k = j
  ·subst hkj
   obtain ⟨hk2,rfl⟩:=List.getElem?_eq_some_iff.1 hf
   rw [getD_at hi,getD_at hk2] at hc
   cases hl:linkB h[i] h[k] with
   | false=>rfl
   | true=>exact absurd ⟨hk2,hl⟩ hc
  ·exact hfr k f (by omega) hf
 | @drop h m r i j hij hj hl d1 d2 ih1 ih2 =>
  intro e he hfr hlow sp hlk
  obtain ⟨hi,rfl⟩:=List.getElem?_eq_some_iff.1 he
  rw [getD_at hi,getD_at hj] at hl
  obtain ⟨k,k1,k2⟩:=link_common (hlow _ (List.getElem_mem hi)) hl
  have sh:=d1.shape hj
  have lj:Lacks s h j:=lacks_of sp hj k2 (Nat.le_trans (hlk _ he k k1) (ofP_take_le h (by omega) _))
  have sm:Part s m:=ih1 (List.getElem?_eq_getElem hj) (fun k f hk hf=>by obtain ⟨hk2,_⟩:=List.getElem?_eq_some_iff.1 hf;omega) hlow sp lj
  have et:m.take i = h.take i:=by
   obtain ⟨t,rfl,ht⟩:=sh
   rw [List.take_append_of_le_length (by rw [List.length_take];omega),List.take_take,Nat.min_eq_left (by omega)]
  refine ih2 (by rw [sh.at_ hj hij];exact he) (fun k f hk hf=>by
   obtain ⟨k',hk',hf'⟩:=sh.behind hj (by omega) hf
   exact hfr k' f (by omega) hf') (fun f hf=>hlow f ((sh.sub hj).1.subset hf)) sm (fun e' he' k hk=>?_)
  rw [et]
  rw [sh.at_ hj hij] at he'
  exact hlk e' he' k hk
theorem BackTo.max {s h r:List S32} {q:Nat} {n:Int} (b:BackTo (q:Int) n h r):(∀ f ∈ h,0 ≤ f.f0) → Part s h → ((ofP s (q:Int)).length:Int) ≤ n → Part s r:=by
 induction b with
 | stop _=>exact fun _ sp _=>sp
 | @go h m r i hc la d b ih =>
  intro hlow sp hn
  have hi:=la.lt
  have h0:ofP (h.drop (i + 1)) (q:Int) = []:=by
   rw [ofP,List.filter_eq_nil_iff]
   intro f hf hh
   obtain ⟨k,hk⟩:=List.mem_iff_getElem?.1 hf
   rw [List.getElem?_drop] at hk
   rw [la.none _ f (by omega) hk] at hh
   cases hh
  have h1:=congrArg List.length (ofP_split hi la.has)
  rw [h0,List.append_nil,List.length_append,List.length_singleton] at h1
  have lk:Lacks s h i:=lacks_of sp hi la.has (by omega)
  have sm:=d.max (List.getElem?_eq_getElem hi) (fun k f hk hf=>by obtain ⟨hk2,_⟩:=List.getElem?_eq_some_iff.1 hf;omega) hlow sp lk
  exact ih (fun f hf=>hlow f (((d.shape hi).sub hi).1.subset hf)) sm hn
theorem back_same {th:List (List Int)} {h h' r r':List S32} {q:Nat} {n:Int} (hs:sameP th h h' = true) (b:BackTo (q:Int) n h r) (b':BackTo (q:Int) n h' r'):sameP th r r' = true:=by
 unfold sameP at hs
 simp only [Bool.and_eq_true] at hs
 obtain ⟨o1,o2,o3⟩:=hs
 have eq:∀ k:Nat,ofP h (k:Int) = ofP h' (k:Int):=fun k=>by
  rcases Nat.lt_or_ge k th.length with hk | hk
  ·exact (sameB_iff _ _ _).1 o3 k hk
  ·rw [ofP_beyond o1 hk,ofP_beyond o2 hk]
 obtain ⟨p1,p2⟩:=b.ok o1
 obtain ⟨p3,p4⟩:=b'.ok o2
 have m1:Part r r':=b'.max (fun f hf=>(okH_low o2 f hf).1) (fun k=>by rw [← eq k];exact p2 k) b.le
 have m2:Part r' r:=b.max (fun f hf=>(okH_low o1 f hf).1) (fun k=>by rw [eq k];exact p4 k) b'.le
 unfold sameP
 rw [p1,p3,(sameB_iff _ _ _).2 (fun j _=>(m1 j).eq_of_length (Nat.le_antisymm (m1 j).length_le (m2 j).length_le))]
 rfl
end Go.Proofs.Ythljlnkanllpnaa.P
