/- The reference's SealKnown: the sorted texts of what can be taken apart. Plain; no condition. -/
import Derived.Test.YtbcjpdahdecehaaDoorP0
import Derived.Test.YtbcjpdahdecehaaDoorP2
import Derived.Test.YtbcjpdahdecehaaDoorP3
import Derived.Sort.Walk0
import Derived.Test.YtbcjpdahdecehaaDoorSpMade
import Derived.Test.YtbcjpdahdecehaaDoorHKnown
namespace Go.Proofs.YtbcjpdahdecehaaDoor.P
open Go.RowKit Go.Proofs.YtbcjpdahdecehaaDoorW.PrintWords Go.Proofs.YtbcjpdahdecehaaDoorW.PrintLast Go.Proofs.YtbcjpdahdecehaaDoorW.PrintMore
set_option linter.unusedVariables false
set_option linter.unusedSimpArgs false
abbrev bl (a b:ByteArray):Prop:=a.data.toList < b.data.toList
theorem ins_sorted {out:List ByteArray} {t:ByteArray} {k:Nat} (hs:out.Pairwise bl) (h1:∀ y,y ∈ out.take k → bl y t) (h2:∀ y,y ∈ out.drop k → bl t y):(out.take k ++ [t] ++ out.drop k).Pairwise bl:=by
 refine List.pairwise_append.2 ⟨List.pairwise_append.2 ⟨hs.sublist (List.take_sublist ..),by simp,fun a ha b hb=>?_⟩,hs.sublist (List.drop_sublist ..),fun a ha b hb=>?_⟩
 ·rw [List.mem_singleton.1 hb]
  exact h1 a ha
 ·rcases List.mem_append.1 ha with ha | ha
  ·exact List.lt_trans (h1 a ha) (h2 b hb)
  ·rw [List.mem_singleton.1 ha]
   exact h2 b hb
theorem ins_mem {out:List ByteArray} {t:ByteArray} {k:Nat} (s:ByteArray):s ∈ out.take k ++ [t] ++ out.drop k ↔ s ∈ out ∨ s = t:=by
 have:s ∈ out ↔ s ∈ out.take k ∨ s ∈ out.drop k:=by rw [← List.mem_append,List.take_append_drop]
 rw [List.mem_append,List.mem_append,List.mem_singleton,this]
 constructor
 ·rintro ((h | h) | h)
  ·exact Or.inl (Or.inl h)
  ·exact Or.inr h
  ·exact Or.inl (Or.inr h)
 ·rintro ((h | h) | h)
  ·exact Or.inl (Or.inl h)
  ·exact Or.inr h
  ·exact Or.inl (Or.inr h)
theorem ins_len {out:List ByteArray} {t:ByteArray} {k:Nat} (hk:k ≤ out.length):(out.take k ++ [t] ++ out.drop k).length = out.length + 1:=by
 simp
 omega
theorem less_bl (a b:ByteArray):Op.bytesLess a.toList b.toList = decide (bl a b):=by
 rw [bytesLess_eq,ByteArray.toList_eq,ByteArray.toList_eq]
theorem rdB_nat (xs:List ByteArray) (i:Nat) (h:i < xs.length):rdOf ByteArray.empty xs (i:Int) = xs[i]:=by
 simp [rdOf,List.getD_eq_getElem?_getD,List.getElem?_eq_getElem h]
theorem l1_known {L:List S25} {t:ByteArray} {i:Int} {out:List ByteArray} (ho:out.length ≤ 100) (hs:out.Pairwise bl) (ht:t ∉ out):∀ (k:Nat),k ≤ out.length → (∀ y,y ∈ out.drop k → bl t y) →
  ∃ out':List ByteArray,out'.Pairwise bl∧(∀ s,s ∈ out' ↔ s ∈ out ∨ s = t)∧out'.length = out.length + 1∧∀ r,Ev (fun n=>spec_SealKnown.l0 n L out' (wrap64 (i + 1))) r → Ev (fun n=>spec_SealKnown.l1 n L out i t k) r:=by
 intro k
 induction k with
 | zero =>
  intro hk hd
  refine ⟨out.take 0 ++ [t] ++ out.drop 0,ins_sorted hs (by simp) hd,ins_mem,ins_len hk,fun r hr=>Ev.step (fun n=>?_) hr⟩
  simp only [spec_SealKnown.l1,Option.bind_some,List.nil_append,List.length_nil]
  rw [if_neg (by simp),if_pos (by simp),if_pos (by omega)]
  simp only [List.take_zero,List.length_nil,List.nil_append,List.length_singleton,Int.toNat_natCast,List.drop_zero,List.append_nil]
  rw [if_pos (by omega),if_pos (by omega),if_pos (by omega)]
 | succ k ih =>
  intro hk hd
  have hkl:k < out.length:=by omega
  have hw:wrap64 (((k + 1:Nat):Int) - 1) = (k:Int):=by rw [wrap_id (by omega) (by omega)];omega
  have e:=rdB_nat out k hkl
  have hn:t ≠ out[k]:=fun h=>ht (h ▸ List.getElem_mem hkl)
  cases hc:decide (bl t out[k]) with
  | true =>
   have hlt:=of_decide_eq_true hc
   obtain ⟨out',a1,a2,a3,a4⟩:=ih (by omega) (fun y hy=>by
    rw [List.drop_eq_getElem_cons hkl] at hy
    rcases List.mem_cons.1 hy with rfl | hy
    ·exact hlt
    ·exact hd y hy)
   refine ⟨out',a1,a2,a3,fun r hr=>Ev.step (fun n=>?_) (a4 r hr)⟩
   simp only [spec_SealKnown.l1]
   rw [if_pos (by omega),hw,if_pos (by omega),if_pos (by omega),e,less_bl,hc,if_pos rfl]
  | false =>
   have hge:bl out[k] t:=by
    have h:=of_decide_eq_false hc
    rcases List.le_iff_lt_or_eq.1 (List.not_lt.1 h) with h | h
    ·exact h
    ·exact absurd (bytes_eq h).symm hn
   have htk:∀ y,y ∈ out.take (k + 1) → bl y t:=by
    intro y hy
    obtain ⟨j,hj,rfl⟩:=List.getElem_of_mem hy
    rw [List.length_take] at hj
    rw [List.getElem_take]
    by_cases hjk:j = k
    ·subst hjk;exact hge
    ·exact List.lt_trans (List.pairwise_iff_getElem.1 hs j k (by omega) hkl (by omega)) hge
   refine ⟨out.take (k + 1) ++ [t] ++ out.drop (k + 1),ins_sorted hs htk hd,ins_mem,ins_len hk,fun r hr=>Ev.step (fun n=>?_) hr⟩
   have hl:=ins_len (t:=t) hk
   simp only [spec_SealKnown.l1,Option.bind_some,List.nil_append,List.length_nil]
   rw [if_pos (by omega),hw,if_pos (by omega),if_pos (by omega),e,less_bl,hc,if_neg (by simp),if_pos (by omega),if_pos (by omega)]
   simp only [Int.toNat_natCast,List.length_singleton,List.length_append]
   rw [List.length_append,List.length_append,List.length_singleton] at hl
   rw [if_pos (by omega),if_pos (by omega),if_pos (by omega)]
theorem l0_known {K L:List S25} (hI:InvL K L) (hl:L.length ≤ 72):∀ (d i:Nat) (out:List ByteArray),i + d = L.length → out.length = i → out.Pairwise bl → (∀ s,s ∈ out ↔ ∃ x,x ∈ L.take i∧s = x.tx) →
  ∃ ss:List ByteArray,ss.Pairwise bl∧(∀ s,s ∈ ss ↔ ∃ x,x ∈ L∧s = x.tx)∧Ev (fun k=>spec_SealKnown.l0 k L out i) (ss,true):=by
 intro d
 induction d with
 | zero =>
  intro i out hi ho hs hm
  rw [List.take_of_length_le (by omega)] at hm
  refine ⟨out,hs,hm,Ev.step (f:=fun _=>some (out,true)) (fun k=>?_) (Ev.now _)⟩
  simp only [spec_SealKnown.l0]
  rw [if_neg (by omega)]
 | succ d ih =>
  intro i out hi ho hs hm
  have hil:i < L.length:=by omega
  have hx:=hI.ok _ (List.getElem_mem hil)
  have ht:L[i].tx ∉ out:=by
   intro h
   obtain ⟨x,hx',e⟩:=(hm _).1 h
   obtain ⟨j,hj,rfl⟩:=List.getElem_of_mem hx'
   rw [List.length_take] at hj
   rw [List.getElem_take] at e
   have hjl:j < L.length:=by omega
   have:=tx_inj hx.1 (hI.ok _ (List.getElem_mem hjl)).1 e
   exact List.pairwise_iff_getElem.1 hI.nd j i hjl hil (by omega) this.symm
  obtain ⟨out',a1,a2,a3,a4⟩:=l1_known (L:=L) (i:=(i:Int)) (by omega) hs ht out.length (Nat.le_refl _) (fun y hy=>by rw [List.drop_eq_nil_of_le (Nat.le_refl _)] at hy;cases hy)
  obtain ⟨ss,b1,b2,b3⟩:=ih (i + 1) out' (by omega) (by omega) a1 (fun s=>by
   rw [a2,hm,List.take_succ_eq_append_getElem hil]
   constructor
   ·rintro (⟨x,hx,e⟩ | e)
    ·exact ⟨x,List.mem_append_left _ hx,e⟩
    ·exact ⟨_,List.mem_append_right _ (List.mem_singleton.2 rfl),e⟩
   ·rintro ⟨x,hx,e⟩
    rcases List.mem_append.1 hx with hx | hx
    ·exact Or.inl ⟨x,hx,e⟩
    ·rw [List.mem_singleton.1 hx] at e
     exact Or.inr e)
  refine ⟨ss,b1,b2,Ev.sb (l20Text_ev hx.1 hx.2) (fun k hk=>?_) (a4 _ (by rw [wrap_succ hil (by omega)];exact b3))⟩
  simp only [spec_SealKnown.l0]
  rw [if_pos (by omega),if_pos (by omega),rd25_nat _ _ hil,hk,Option.bind_some]
theorem specKnown_ev {l:List S25} (hl:l.length ≤ 1048576) (hW:∀ y,y ∈ l → W25 y) :
  (knownOk l = true∧∃ ss,IsKnown l ss∧Ev (fun k=>spec_SealKnown.f k l) (ss,true)∧impl_SealKnown.f l = some (ss,true)) ∨ (knownOk l = false∧Ev (fun k=>spec_SealKnown.f k l) ([],false)∧impl_SealKnown.f l = some ([],false)):=by
 have hk:=known_ev hl hW
 cases c1:knownOk l with
 | false =>
  refine Or.inr ⟨rfl,Ev.cb hk (f:=fun _=>some ([],false)) (fun k hk=>?_) (Ev.now _),?_⟩
  ·simp only [spec_SealKnown.f]
   rw [hk,c1,Option.bind_some,if_neg (by simp)]
  ·unfold impl_SealKnown.f
   rw [if_pos hW,c1,if_neg (by simp)]
 | true =>
  obtain ⟨L,hI,hC,hE⟩:=apart_ev c1 hW
  have hlen:=hI.len (nodes_known c1)
  obtain ⟨ss,b1,b2,b3⟩:=l0_known hI hlen L.length 0 [] (by omega) rfl (by simp) (by simp)
  have hok:=knownOkT c1 hW
  have hLo:∀ y,y ∈ L → OkT y:=fun y hy=>(hI.ok y hy).1
  have hK:IsKnown l ss:=⟨b1,fun s=>(b2 s).trans ⟨fun ⟨x,hx,e⟩=>⟨x,(hI.el x hx).1,e⟩,fun ⟨x,hx,e⟩=>⟨x,(Ls_iff hLo (der_all hok hC hx).1).1 (der_all hok hC hx).2,e⟩⟩⟩
  refine Or.inl ⟨rfl,ss,hK,Ev.cb hk (f:=fun k=>(spec_l20Apart.f k l).bind fun t743=>spec_SealKnown.l0 k t743 [] 0) (fun k hk=>?_) (Ev.cb hE (fun k hk=>?_) b3),?_⟩
  ·simp only [spec_SealKnown.f]
   rw [hk,c1,Option.bind_some,if_pos rfl]
  ·rw [hk,Option.bind_some]
   rfl
  ·unfold impl_SealKnown.f
   have hex:∃ ss,IsKnown l ss:=⟨ss,hK⟩
   rw [if_pos hW,c1,if_pos rfl,dif_pos hex,known_one (Classical.choose_spec hex) hK]
end Go.Proofs.YtbcjpdahdecehaaDoor.P
