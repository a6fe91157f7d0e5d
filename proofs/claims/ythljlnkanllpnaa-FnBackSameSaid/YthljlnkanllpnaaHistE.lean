/- Histories: events with no thread in common may be exchanged; what may be undone may be taken out; how far each thread is. Plain; no condition. -/
import Derived.Test.YthljlnkanllpnaaHHas
import Derived.Test.YthljlnkanllpnaaHistR
namespace Go.Proofs.Ythljlnkanllpnaa.P
open Go.RowKit Go.Proofs.YthljlnkanllpnaaW.PrintWords Go.Proofs.YthljlnkanllpnaaW.PrintLast Go.Proofs.YthljlnkanllpnaaW.PrintMore
set_option linter.unusedVariables false
set_option linter.unusedSimpArgs false
theorem hasB_iff {e:S32} {j:Int}:hasB e j = true ↔ e.f0 = j ∨ e.f1 = j:=by
 unfold hasB
 rw [Bool.or_eq_true,decide_eq_true_eq,beq_iff_eq]
theorem linkB_iff {e f:S32}:linkB e f = true ↔ (f.f0 = e.f0 ∨ f.f1 = e.f0) ∨ (0 ≤ e.f1∧(f.f0 = e.f1 ∨ f.f1 = e.f1)):=by
 unfold linkB
 rw [Bool.or_eq_true,Bool.and_eq_true,decide_eq_true_eq,hasB_iff,hasB_iff]
theorem linkB_false {e f:S32} (h:linkB e f = false):f.f0 ≠ e.f0∧f.f1 ≠ e.f0∧(0 ≤ e.f1 → f.f0 ≠ e.f1∧f.f1 ≠ e.f1):=by
 have h':¬ linkB e f = true:=by rw [h];simp
 rw [linkB_iff] at h'
 exact ⟨fun e=>h' (.inl (.inl e)),fun e=>h' (.inl (.inr e)),fun p=>⟨fun e=>h' (.inr ⟨p,.inl e⟩),fun e=>h' (.inr ⟨p,.inr e⟩)⟩⟩
theorem stepAt_length (x:List Int) (e:S32):(stepAt x e).length = x.length:=by
 unfold stepAt
 split
 ·rw [bump_length,bump_length]
 ·rw [bump_length]
theorem can_low {th:List (List Int)} {x:List Int} {a b:Int} (h:can th x a b = true):0 ≤ a∧a < (th.length:Int)∧(b = -1 ∨ (a < b∧b < (th.length:Int))):=by
 obtain ⟨ha,hb⟩:=can_ready h
 obtain ⟨a0,a1,a2⟩:=ready_iff.1 ha
 exact ⟨a0,a1,hb.imp id (fun x=>⟨x.1,(ready_iff.1 x.2).2.1⟩)⟩
theorem rd_stepAt {th:List (List Int)} {x:List Int} {e:S32} (hf:Far th x) (hc:can th x e.f0 e.f1 = true) (j:Int) (hj:0 ≤ j):rd (stepAt x e) j = if hasB e j = true then rd x j + 1 else rd x j:=by
 obtain ⟨a0,a1,hb⟩:=can_low hc
 have hl:=hf.len
 unfold stepAt
 rcases hb with hb | ⟨hab,hb⟩
 ·rw [if_neg (by omega),rd_bump a0 (by omega) j hj]
  by_cases h:j = e.f0
  ·rw [if_pos h,if_pos (hasB_iff.2 (.inl h.symm)),h]
  ·rw [if_neg h,if_neg (fun hh=>by rcases hasB_iff.1 hh with h1 | h1 <;> omega)]
 ·rw [if_pos (by omega),rd_bump (by omega) (by rw [bump_length];omega) j hj]
  by_cases h:j = e.f1
  ·rw [if_pos h,if_pos (hasB_iff.2 (.inr h.symm)),rd_bump a0 (by omega) _ (by omega),if_neg (by omega),h]
  ·rw [if_neg h,rd_bump a0 (by omega) j hj]
   by_cases h2:j = e.f0
   ·rw [if_pos h2,if_pos (hasB_iff.2 (.inl h2.symm)),h2]
   ·rw [if_neg h2,if_neg (fun hh=>by rcases hasB_iff.1 hh with h1 | h1 <;> omega)]
theorem rd_ext {a b:List Int} (hl:a.length = b.length) (h:∀ j:Nat,j < a.length → rd a (j:Int) = rd b (j:Int)):a = b:=by
 refine List.ext_getElem hl (fun i h1 h2=>?_)
 have:=h i h1
 rwa [rd_nat _ _ h1,rd_nat _ _ h2] at this
theorem can_congr {th:List (List Int)} {x y:List Int} {a b:Int} (h:∀ j,0 ≤ j → (j = a ∨ j = b) → rd x j = rd y j):can th x a b = can th y a b:=by
 by_cases ha:0 ≤ a
 ·have ea:=h a ha (.inl rfl)
  by_cases hb:0 ≤ b
  ·have eb:=h b hb (.inr rfl)
   simp only [can,ready,ea,eb]
  ·simp only [can,ready,ea,decide_eq_false hb,Bool.false_and,Bool.and_false]
 ·simp only [can,ready,decide_eq_false ha,Bool.false_and]
theorem can_swap {th:List (List Int)} {x:List Int} {e f:S32} (hf:Far th x) (hc:can th x e.f0 e.f1 = true) (hl:linkB e f = false):can th (stepAt x e) f.f0 f.f1 = can th x f.f0 f.f1:=by
 obtain ⟨l0,l1,l2⟩:=linkB_false hl
 refine can_congr (fun j hj hj2=>?_)
 rw [rd_stepAt hf hc j hj,if_neg]
 intro hh
 rcases hasB_iff.1 hh with h1 | h1
 ·rcases hj2 with h2 | h2 <;> omega
 ·have:=l2 (by omega)
  rcases hj2 with h2 | h2 <;> omega
theorem can_swap' {th:List (List Int)} {x:List Int} {e f:S32} (hf:Far th x) (hc:can th x f.f0 f.f1 = true) (hl:linkB e f = false):can th (stepAt x f) e.f0 e.f1 = can th x e.f0 e.f1:=by
 obtain ⟨l0,l1,l2⟩:=linkB_false hl
 refine can_congr (fun j hj hj2=>?_)
 rw [rd_stepAt hf hc j hj,if_neg]
 intro hh
 rcases hj2 with h2 | h2
 ·rcases hasB_iff.1 hh with h1 | h1 <;> omega
 ·have:=l2 (by omega)
  rcases hasB_iff.1 hh with h1 | h1 <;> omega
theorem step_swap {th:List (List Int)} {x:List Int} {e f:S32} (hf:Far th x) (hc:can th x e.f0 e.f1 = true) (hc2:can th x f.f0 f.f1 = true) (hl:linkB e f = false):stepAt (stepAt x e) f = stepAt (stepAt x f) e:=by
 refine rd_ext (by simp only [stepAt_length]) (fun j _=>?_)
 have h1:=can_swap hf hc hl
 have h2:=can_swap' hf hc2 hl
 rw [rd_stepAt (hf.step hc) (by rw [h1];exact hc2) j (by omega),rd_stepAt hf hc j (by omega),rd_stepAt (hf.step hc2) (by rw [h2];exact hc) j (by omega),rd_stepAt hf hc2 j (by omega)]
 by_cases b1:hasB e (j:Int) = true <;> by_cases b2:hasB f (j:Int) = true <;> simp only [b1,b2,if_true,if_false] <;> simp
theorem run_swap {th:List (List Int)} {e:S32}:∀ (t:List S32) {x:List Int},Far th x → can th x e.f0 e.f1 = true → (∀ f ∈ t,linkB e f = false) → run th (stepAt x e) t = (run th x t).map (fun a=>stepAt a e)
 | [],x,_,_,_=>rfl
 | f :: t,x,hf,hc,hl=>by
  have h0:=hl f (List.mem_cons_self ..)
  rw [run,run,can_swap hf hc h0]
  by_cases hcf:can th x f.f0 f.f1 = true
  ·rw [if_pos hcf,if_pos hcf,step_swap hf hc hcf h0]
   exact run_swap t (hf.step hcf) (by rw [can_swap' hf hcf h0];exact hc) (fun g hg=>hl g (List.mem_cons_of_mem _ hg))
  ·rw [if_neg hcf,if_neg hcf]
   rfl
theorem ofP_cons (e:S32) (t:List S32) (j:Int):ofP (e :: t) j = if hasB e j = true then e :: ofP t j else ofP t j:=by
 simp only [ofP,List.filter_cons]
theorem run_count {th:List (List Int)}:∀ (h:List S32) {x a:List Int},Far th x → run th x h = some a → ∀ j:Int,0 ≤ j → rd a j = rd x j + ((ofP h j).length:Int)
 | [],x,a,_,hr,j,_=>by
  rw [run] at hr
  cases hr
  simp [ofP]
 | e :: t,x,a,hf,hr,j,hj=>by
  rw [run] at hr
  by_cases hc:can th x e.f0 e.f1 = true
  ·rw [if_pos hc] at hr
   rw [run_count t (hf.step hc) hr j hj,rd_stepAt hf hc j hj]
   by_cases hb:hasB e j = true
   ·rw [if_pos hb,ofP_cons,if_pos hb,List.length_cons]
    omega
   ·rw [if_neg hb,ofP_cons,if_neg hb]
  ·rw [if_neg hc] at hr
   cases hr
theorem hist_of {th:List (List Int)} {h:List S32} {a:List Int} (hok:okTh th = true) (hr:run th (at0 th) h = some a):histAt th h = (a,true):=by
 unfold histAt
 rw [if_pos hok,hr]
theorem run_erase {th:List (List Int)}:∀ (h:List S32) (i:Nat) {x a:List Int},Far th x → (∀ e,h[i]? = some e → ∀ j f,i < j → h[j]? = some f → linkB e f = false) → run th x h = some a → ∃ b,run th x (h.eraseIdx i) = some b
 | [],i,x,a,_,_,hr=>⟨a,hr⟩
 | e :: t,0,x,a,hf,hfr,hr=>by
  rw [run] at hr
  by_cases hc:can th x e.f0 e.f1 = true
  ·rw [if_pos hc,run_swap t hf hc (fun f hft=>by
    obtain ⟨j,hj⟩:=List.mem_iff_getElem?.1 hft
    exact hfr e rfl (j + 1) f (by omega) (by rw [List.getElem?_cons_succ];exact hj))] at hr
   rw [List.eraseIdx_cons_zero]
   cases hrt:run th x t with
   | none=>rw [hrt] at hr;cases hr
   | some b=>exact ⟨b,rfl⟩
  ·rw [if_neg hc] at hr
   cases hr
 | e :: t,i + 1,x,a,hf,hfr,hr=>by
  rw [run] at hr
  by_cases hc:can th x e.f0 e.f1 = true
  ·rw [if_pos hc] at hr
   obtain ⟨b,hb⟩:=run_erase t i (hf.step hc) (fun e' he j f hij hj=>hfr e' (by rw [List.getElem?_cons_succ];exact he) (j + 1) f (by omega) (by rw [List.getElem?_cons_succ];exact hj)) hr
   refine ⟨b,?_⟩
   rw [List.eraseIdx_cons_succ,run,if_pos hc]
   exact hb
  ·rw [if_neg hc] at hr
   cases hr
theorem ofP_moved {h:List S32} {n:Nat} {e:S32} (he:h[n]? = some e) (hfr:∀ j f,n < j → h[j]? = some f → linkB e f = false) (k:Nat):ofP (h.eraseIdx n ++ [e]) (k:Int) = ofP h (k:Int):=by
 obtain ⟨hn,rfl⟩:=List.getElem?_eq_some_iff.1 he
 have e1:h = h.take n ++ h[n] :: h.drop (n + 1):=by
  rw [List.getElem_cons_drop,List.take_append_drop]
 have e2:h.eraseIdx n = h.take n ++ h.drop (n + 1):=List.eraseIdx_eq_take_drop_succ ..
 rw [e2]
 conv=>rhs;rw [e1]
 simp only [ofP,List.filter_append,List.filter_cons,List.filter_nil,List.append_assoc]
 by_cases hb:hasB h[n] (k:Int) = true
 ·rw [if_pos hb,if_pos hb]
  have e3:(h.drop (n + 1)).filter (fun f=>hasB f (k:Int)) = []:=by
   rw [List.filter_eq_nil_iff]
   intro f hf hh
   obtain ⟨j,hj⟩:=List.mem_iff_getElem?.1 hf
   rw [List.getElem?_drop] at hj
   obtain ⟨a1,a2,a3⟩:=linkB_false (hfr (n + 1 + j) f (by omega) hj)
   rcases hasB_iff.1 hb with h1 | h1
   ·rcases hasB_iff.1 hh with h2 | h2 <;> omega
   ·have:=a3 (by omega)
    rcases hasB_iff.1 hh with h2 | h2 <;> omega
  rw [e3,List.nil_append]
 ·rw [if_neg hb,if_neg hb,List.append_nil]
end Go.Proofs.Ythljlnkanllpnaa.P
