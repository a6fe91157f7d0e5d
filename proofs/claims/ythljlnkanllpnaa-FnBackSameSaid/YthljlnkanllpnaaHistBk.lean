/- Going back: what the program and the reference compute: one and the same, and what it leaves. Plain; no condition but sizes. -/
import Derived.Test.YthljlnkanllpnaaP0
import Derived.Test.YthljlnkanllpnaaP2
import Derived.Test.YthljlnkanllpnaaP3
import Derived.Test.YthljlnkanllpnaaHistF
import Derived.Test.YthljlnkanllpnaaHistL
import Derived.Test.YthljlnkanllpnaaHDelC
import Derived.Test.YthljlnkanllpnaaHistN
namespace Go.Proofs.Ythljlnkanllpnaa.P
open Go.RowKit Go.Proofs.YthljlnkanllpnaaW.PrintWords Go.Proofs.YthljlnkanllpnaaW.PrintLast Go.Proofs.YthljlnkanllpnaaW.PrintMore
set_option linter.unusedVariables false
set_option linter.unusedSimpArgs false
inductive DropTo:List S32 → Nat → Nat → List S32 → Prop
 | stop {h:List S32} {i j:Nat}:¬ i < j → DropTo h i j (h.eraseIdx i)
 | skip {h r:List S32} {i j:Nat}:i < j → ¬ (j < h.length∧linkB (h.getD i z32) (h.getD j z32) = true) → DropTo h i (j - 1) r → DropTo h i j r
 | drop {h m r:List S32} {i j:Nat}:i < j → j < h.length → linkB (h.getD i z32) (h.getD j z32) = true → DropTo h j (h.length - 1) m → DropTo m i (j - 1) r → DropTo h i j r
def Shape (h:List S32) (i:Nat) (r:List S32):Prop:=∃ t,r = h.take i ++ t∧t.Sublist (h.drop (i + 1))
theorem Shape.sub {h r:List S32} {i:Nat} (s:Shape h i r) (hi:i < h.length):r.Sublist h∧r.length < h.length:=by
 obtain ⟨t,rfl,ht⟩:=s
 refine ⟨?_,?_⟩
 ·have h1:h = h.take i ++ h.drop i:=(List.take_append_drop i h).symm
  have h2:(h.drop (i + 1)).Sublist (h.drop i):=by
   rw [List.drop_eq_getElem_cons hi]
   exact List.sublist_cons_self _ _
  conv=>rhs;rw [h1]
  exact (List.Sublist.refl _).append (ht.trans h2)
 ·have:=ht.length_le
  rw [List.length_drop] at this
  rw [List.length_append,List.length_take]
  omega
theorem Shape.at_ {h r:List S32} {i:Nat} (s:Shape h i r) (hi:i < h.length) {k:Nat} (hk:k < i):r[k]? = h[k]?:=by
 obtain ⟨t,rfl,ht⟩:=s
 rw [List.getElem?_append_left (by rw [List.length_take];omega),List.getElem?_take,if_pos hk]
theorem Shape.len {h r:List S32} {i:Nat} (s:Shape h i r) (hi:i < h.length):i ≤ r.length:=by
 obtain ⟨t,rfl,ht⟩:=s
 rw [List.length_append,List.length_take]
 omega
theorem Shape.behind {h r:List S32} {i:Nat} (s:Shape h i r) (hi:i < h.length) {k:Nat} {f:S32} (hk:i ≤ k) (hf:r[k]? = some f):∃ k',i < k'∧h[k']? = some f:=by
 obtain ⟨t,rfl,ht⟩:=s
 rw [List.getElem?_append_right (by rw [List.length_take];omega)] at hf
 obtain ⟨q,hq⟩:=List.mem_iff_getElem?.1 (ht.subset (List.mem_iff_getElem?.2 ⟨_,hf⟩))
 rw [List.getElem?_drop] at hq
 exact ⟨_,by omega,hq⟩
theorem Shape.then_ {h m r:List S32} {i j:Nat} (hij:i < j) (hj:j < h.length) (s:Shape h j m) (s2:Shape m i r):Shape h i r:=by
 obtain ⟨t,rfl,ht⟩:=s
 obtain ⟨u,rfl,hu⟩:=s2
 refine ⟨u,?_,hu.trans ?_⟩
 ·rw [List.take_append_of_le_length (by rw [List.length_take];omega),List.take_take,Nat.min_eq_left (by omega)]
 ·rw [List.drop_append_of_le_length (by rw [List.length_take];omega)]
  have h1:h.drop (i + 1) = (h.take j).drop (i + 1) ++ h.drop j:=by
   conv=>lhs;rw [← List.take_append_drop j h]
   rw [List.drop_append_of_le_length (by rw [List.length_take];omega)]
  rw [h1]
  refine (List.Sublist.refl _).append (ht.trans ?_)
  rw [List.drop_eq_getElem_cons hj]
  exact List.sublist_cons_self _ _
theorem DropTo.shape {h r:List S32} {i j:Nat} (d:DropTo h i j r):i < h.length → Shape h i r:=by
 induction d with
 | stop hn=>exact fun hi=>⟨_,List.eraseIdx_eq_take_drop_succ ..,List.Sublist.refl _⟩
 | skip _ _ _ ih=>exact ih
 | drop hij hj _ _ _ ih1 ih2=>exact fun hi=>Shape.then_ hij hj (ih1 hj) (ih2 (by have:=(ih1 hj).len hj;omega))
theorem drop_ex:∀ (n:Nat) (h:List S32) (i j:Nat),h.length - i ≤ n → i < h.length → ∃ r,DropTo h i j r:=by
 intro n
 induction n with
 | zero=>intro h i j h1 h2;omega
 | succ n ihn =>
  intro h i j
  induction j generalizing h with
  | zero=>exact fun _ _=>⟨_,.stop (by omega)⟩
  | succ j ihj =>
   intro hl hi
   by_cases hij:i < j + 1
   ·by_cases hc:j + 1 < h.length∧linkB (h.getD i z32) (h.getD (j + 1) z32) = true
    ·obtain ⟨m,hm⟩:=ihn h (j + 1) (h.length - 1) (by omega) hc.1
     have sh:=hm.shape hc.1
     have:=(sh.sub hc.1).2
     have:=sh.len hc.1
     obtain ⟨r,hr⟩:=ihj m (by omega) (by omega)
     exact ⟨r,.drop hij hc.1 hc.2 hm hr⟩
    ·obtain ⟨r,hr⟩:=ihj h hl hi
     exact ⟨r,.skip hij hc hr⟩
   ·exact ⟨_,.stop hij⟩
theorem getD_at {h:List S32} {i:Nat} (hi:i < h.length):h.getD i z32 = h[i]:=by rw [List.getD_eq_getElem?_getD,List.getElem?_eq_getElem hi];rfl
theorem DropTo.ok {th:List (List Int)} {h r:List S32} {i j:Nat} (d:DropTo h i j r):∀ {e:S32},h[i]? = some e → (∀ k f,j < k → h[k]? = some f → linkB e f = false) → okH th h = true → okH th r = true∧∀ k:Nat,ofP r (k:Int) <+: ofP h (k:Int):=by
 induction d with
 | @stop h i j hn =>
  intro e he hfr ho
  obtain ⟨hi,rfl⟩:=List.getElem?_eq_some_iff.1 he
  have hfr':∀ k f,i < k → h[k]? = some f → linkB h[i] f = false:=fun k f hk=>hfr k f (by omega)
  refine ⟨okH_erase ho hi ((freeB_iff he).2 hfr'),fun k=>?_⟩
  have hm:=ofP_moved he hfr' k
  rw [← hm,ofP,ofP,List.filter_append]
  exact List.prefix_append _ _
 | @skip h r i j hij hc d ih =>
  intro e he hfr ho
  obtain ⟨hi,rfl⟩:=List.getElem?_eq_some_iff.1 he
  refine ih he (fun k f hk hf=>?_) ho
  by_cases hkj:k = j
  ·subst hkj
   obtain ⟨hk2,rfl⟩:=List.getElem?_eq_some_iff.1 hf
   rw [getD_at hi,getD_at hk2] at hc
   cases hl:linkB h[i] h[k] with
   | false=>rfl
   | true=>exact absurd ⟨hk2,hl⟩ hc
  ·exact hfr k f (by omega) hf
 | @drop h m r i j hij hj hl d1 d2 ih1 ih2 =>
  intro e he hfr ho
  obtain ⟨o1,p1⟩:=ih1 (List.getElem?_eq_getElem hj) (fun k f hk hf=>by obtain ⟨hk2,_⟩:=List.getElem?_eq_some_iff.1 hf;omega) ho
  have sh:=d1.shape hj
  obtain ⟨o2,p2⟩:=ih2 (by rw [sh.at_ hj hij];exact he) (fun k f hk hf=>by
   obtain ⟨k',hk',hf'⟩:=sh.behind hj (by omega) hf
   exact hfr k' f (by omega) hf') o1
  exact ⟨o2,fun k=>(p2 k).trans (p1 k)⟩
theorem DropTo.ok' {th:List (List Int)} {h r:List S32} {i:Nat} (d:DropTo h i (h.length - 1) r) (hi:i < h.length) (ho:okH th h = true):okH th r = true∧∀ k:Nat,ofP r (k:Int) <+: ofP h (k:Int) :=
 d.ok (List.getElem?_eq_getElem hi) (fun k f hk hf=>by obtain ⟨hk2,_⟩:=List.getElem?_eq_some_iff.1 hf;omega) ho
theorem DropTo.impl {h r:List S32} {i j:Nat} (d:DropTo h i j r):i < h.length → h.length ≤ 1048576 → j ≤ 1048576 → Ev (fun k=>impl_drop.l0 k h i j) r:=by
 induction d with
 | @stop h i j hn =>
  intro hi hh hjm
  have e0:wrap64 ((i:Int) + 1) = (i:Int) + 1:=wrap_id (by omega) (by omega)
  refine Ev.step (f:=fun _=>some (h.eraseIdx i)) (fun k=>?_) (Ev.now _)
  simp only [impl_drop.l0]
  rw [if_neg (by omega),e0,impl_Event_69.f,if_pos (by omega),if_pos (by omega),if_pos rfl,Int.toNat_natCast,Option.bind_some]
 | @skip h r i j hij hc d ih =>
  intro hi hh hjm
  have e0:wrap64 ((j:Int) - 1) = ((j - 1:Nat):Int):=by rw [wrap_pred (by omega) (by omega)];omega
  by_cases hj:j < h.length
  ·have hl:linkB h[i] h[j] = false:=by
    rw [getD_at hi,getD_at hj] at hc
    cases hl:linkB h[i] h[j] with
    | false=>rfl
    | true=>exact absurd ⟨hj,hl⟩ hc
   refine Ev.step (fun k=>?_) (ih hi hh (by omega))
   simp only [impl_drop.l0,rdE_at _ _ hi,rdE_at _ _ hj]
   rw [if_pos (by omega),if_pos (by omega),if_pos (by omega),if_pos (by omega),if_pos (by omega),linked_f,hl,Option.bind_some,if_neg (by simp),e0]
  ·refine Ev.step (fun k=>?_) (ih hi hh (by omega))
   simp only [impl_drop.l0]
   rw [if_pos (by omega),if_neg (by omega),e0]
 | @drop h m r i j hij hj hl d1 d2 ih1 ih2 =>
  intro hi hh hjm
  have sh:=d1.shape hj
  have s1:=(sh.sub hj).2
  have s2:=sh.len hj
  have e0:wrap64 ((j:Int) - 1) = ((j - 1:Nat):Int):=by rw [wrap_pred (by omega) (by omega)];omega
  have e1:wrap64 ((h.length:Int) - 1) = ((h.length - 1:Nat):Int):=by rw [wrap_pred (by omega) (by omega)];omega
  have hf:Ev (fun k=>impl_drop.f k h (j:Int)) m:=Ev.step (fun k=>by simp only [impl_drop.f];rw [e1]) (ih1 hj hh (by omega))
  rw [getD_at hi,getD_at hj] at hl
  refine Ev.sb hf (fun k hk=>?_) (ih2 (by omega) (by omega) (by omega))
  simp only [impl_drop.l0,rdE_at _ _ hi,rdE_at _ _ hj]
  rw [if_pos (by omega),if_pos (by omega),if_pos (by omega),if_pos (by omega),if_pos (by omega),linked_f,hl,Option.bind_some,if_pos rfl,hk,Option.bind_some,e0]
theorem DropTo.spec {h r:List S32} {i j:Nat} (d:DropTo h i j r):i < h.length → h.length ≤ 1048576 → j ≤ 1048576 → Ev (fun k=>spec_l19Drop.l0 k h i j) r:=by
 induction d with
 | @stop h i j hn =>
  intro hi hh hjm
  refine Ev.step (f:=fun _=>some (h.eraseIdx i)) (fun k=>?_) (Ev.now _)
  simp only [spec_l19Drop.l0]
  rw [if_neg (by omega),without_f hh hi,Option.bind_some]
 | @skip h r i j hij hc d ih =>
  intro hi hh hjm
  have e0:wrap64 ((j:Int) - 1) = ((j - 1:Nat):Int):=by rw [wrap_pred (by omega) (by omega)];omega
  by_cases hj:j < h.length
  ·have hl:linkB h[i] h[j] = false:=by
    rw [getD_at hi,getD_at hj] at hc
    cases hl:linkB h[i] h[j] with
    | false=>rfl
    | true=>exact absurd ⟨hj,hl⟩ hc
   refine Ev.step (fun k=>?_) (ih hi hh (by omega))
   simp only [spec_l19Drop.l0,rdE_at _ _ hi,rdE_at _ _ hj]
   rw [if_pos (by omega),if_pos (by omega),if_pos (by omega),if_pos (by omega),if_pos (by omega),shares_f,hl,Option.bind_some,if_neg (by simp),e0]
  ·refine Ev.step (fun k=>?_) (ih hi hh (by omega))
   simp only [spec_l19Drop.l0]
   rw [if_pos (by omega),if_neg (by omega),e0]
 | @drop h m r i j hij hj hl d1 d2 ih1 ih2 =>
  intro hi hh hjm
  have sh:=d1.shape hj
  have s1:=(sh.sub hj).2
  have s2:=sh.len hj
  have e0:wrap64 ((j:Int) - 1) = ((j - 1:Nat):Int):=by rw [wrap_pred (by omega) (by omega)];omega
  have e1:wrap64 ((h.length:Int) - 1) = ((h.length - 1:Nat):Int):=by rw [wrap_pred (by omega) (by omega)];omega
  have hf:Ev (fun k=>spec_l19Drop.f k h (j:Int)) m:=Ev.step (fun k=>by simp only [spec_l19Drop.f];rw [e1]) (ih1 hj hh (by omega))
  rw [getD_at hi,getD_at hj] at hl
  refine Ev.sb hf (fun k hk=>?_) (ih2 (by omega) (by omega) (by omega))
  simp only [spec_l19Drop.l0,rdE_at _ _ hi,rdE_at _ _ hj]
  rw [if_pos (by omega),if_pos (by omega),if_pos (by omega),if_pos (by omega),if_pos (by omega),shares_f,hl,Option.bind_some,if_pos rfl,hk,Option.bind_some,e0]
structure LastAt (h:List S32) (q:Int) (i:Nat):Prop where
 lt:i < h.length
 has:hasB h[i] q = true
 none:∀ k f,i < k → h[k]? = some f → hasB f q = false
inductive BackTo (q n:Int):List S32 → List S32 → Prop
 | stop {h:List S32}:¬ ((ofP h q).length:Int) > n → BackTo q n h h
 | go {h m r:List S32} {i:Nat}:((ofP h q).length:Int) > n → LastAt h q i → DropTo h i (h.length - 1) m → BackTo q n m r → BackTo q n h r
theorem last_ex {h:List S32} {q:Int} (hp:0 < (ofP h q).length):∃ i,LastAt h q i:=by
 have loop:∀ d,d ≤ h.length → (∀ k f,d ≤ k → h[k]? = some f → hasB f q = false) → ∃ i,LastAt h q i:=by
  intro d
  induction d with
  | zero =>
   intro _ hn
   have:ofP h q = []:=by
    rw [ofP,List.filter_eq_nil_iff]
    intro f hf hh
    obtain ⟨k,hk⟩:=List.mem_iff_getElem?.1 hf
    rw [hn k f (by omega) hk] at hh
    cases hh
   rw [this] at hp
   simp at hp
  | succ d ih =>
   intro hd hn
   have hl:d < h.length:=by omega
   cases hb:hasB h[d] q with
   | true=>exact ⟨d,hl,hb,fun k f hk=>hn k f (by omega)⟩
   | false =>
    refine ih (by omega) (fun k f hk hf=>?_)
    by_cases e:k = d
    ·subst e
     rw [List.getElem?_eq_getElem hl] at hf
     cases hf
     exact hb
    ·exact hn k f (by omega) hf
 exact loop h.length (Nat.le_refl _) (fun k f hk hf=>by obtain ⟨hk2,_⟩:=List.getElem?_eq_some_iff.1 hf;omega)
theorem back_ex {q n:Int} (hn:0 ≤ n):∀ (d:Nat) (h:List S32),h.length ≤ d → ∃ r,BackTo q n h r:=by
 intro d
 induction d with
 | zero =>
  intro h hl
  obtain rfl:=List.eq_nil_of_length_eq_zero (show h.length = 0 by omega)
  exact ⟨_,.stop (by simp [ofP];omega)⟩
 | succ d ih =>
  intro h hl
  by_cases hc:((ofP h q).length:Int) > n
  ·obtain ⟨i,hi⟩:=last_ex (h:=h) (q:=q) (by omega)
   obtain ⟨m,hm⟩:=drop_ex _ h i (h.length - 1) (Nat.le_refl _) hi.lt
   have:=((hm.shape hi.lt).sub hi.lt).2
   obtain ⟨r,hr⟩:=ih m (by omega)
   exact ⟨r,.go hc hi hm hr⟩
  ·exact ⟨_,.stop hc⟩
theorem BackTo.le {q n:Int} {h r:List S32} (b:BackTo q n h r):((ofP r q).length:Int) ≤ n:=by
 induction b with
 | stop hc=>omega
 | go _ _ _ _ ih=>exact ih
theorem BackTo.sub {q n:Int} {h r:List S32} (b:BackTo q n h r):r.Sublist h:=by
 induction b with
 | stop hc=>exact List.Sublist.refl _
 | go _ hi d _ ih=>exact ih.trans ((d.shape hi.lt).sub hi.lt).1
theorem BackTo.ok {th:List (List Int)} {q n:Int} {h r:List S32} (b:BackTo q n h r) (ho:okH th h = true):okH th r = true∧∀ k:Nat,ofP r (k:Int) <+: ofP h (k:Int):=by
 induction b with
 | stop hc=>exact ⟨ho,fun _=>List.prefix_refl _⟩
 | go _ hi d _ ih =>
  obtain ⟨o1,p1⟩:=d.ok' hi.lt ho
  obtain ⟨o2,p2⟩:=ih o1
  exact ⟨o2,fun k=>(p2 k).trans (p1 k)⟩
theorem last_ev {h:List S32} {q:Int} {i:Nat} (la:LastAt h q i) (hh:h.length ≤ 1048576):∀ (d:Nat),i + d < h.length → Ev (fun k=>spec_l19Last.l0 k h q ((i + d:Nat):Int)) (i:Int):=by
 intro d
 induction d with
 | zero =>
  intro hd
  have hb:=la.has
  refine Ev.step (f:=fun _=>some (i:Int)) (fun k=>?_) (Ev.now _)
  simp only [spec_l19Last.l0,Nat.add_zero,rdE_at _ _ la.lt]
  rw [if_pos (by omega),if_pos (by omega),if_pos (by have:=la.lt;omega)]
  rcases hasB_iff.1 hb with h1 | h1
  ·rw [if_pos h1]
  ·by_cases h2:h[i].f0 = q
   ·rw [if_pos h2]
   ·rw [if_neg h2,if_pos h1]
 | succ d ih =>
  intro hd
  have hb:=la.none (i + (d + 1)) h[i + (d + 1)] (by omega) (List.getElem?_eq_getElem hd)
  have hb':¬ hasB h[i + (d + 1)] q = true:=by rw [hb];simp
  rw [hasB_iff] at hb'
  refine Ev.step (fun k=>?_) (ih (by omega))
  simp only [spec_l19Last.l0,rdE_at _ _ hd]
  rw [if_pos (by omega),if_pos (by omega),if_pos (by omega),if_neg (fun e=>hb' (.inl e)),if_neg (fun e=>hb' (.inr e)),wrap_pred (by omega) (by omega),show (((i + (d + 1):Nat):Int) - 1) = ((i + d:Nat):Int) by omega]
theorem lastF_ev {h:List S32} {q:Int} {i:Nat} (la:LastAt h q i) (hh:h.length ≤ 1048576):Ev (fun k=>spec_l19Last.f k h q) (i:Int):=by
 have:=la.lt
 have e:=last_ev la hh (h.length - 1 - i) (by omega)
 rw [show i + (h.length - 1 - i) = h.length - 1 by omega] at e
 refine Ev.congr (fun k=>?_) e
 simp only [spec_l19Last.f]
 rw [wrap_pred (by omega) (by omega),show ((h.length:Int) - 1) = ((h.length - 1:Nat):Int) by omega]
theorem BackTo.spec {q n:Int} {h r:List S32} (b:BackTo q n h r):h.length ≤ 1048576 → Ev (fun k=>spec_HistoryBack.l0 k q n h) (r,true):=by
 induction b with
 | @stop h hc =>
  intro hh
  refine Ev.sb (of_ev hh q) (fun k hk=>?_) (f:=fun _=>some (h,true)) (Ev.now _)
  simp only [spec_HistoryBack.l0]
  rw [hk,Option.bind_some,if_neg hc]
 | @go h m r i hc la d b ih =>
  intro hh
  have s1:=((d.shape la.lt).sub la.lt).2
  have e1:wrap64 ((h.length:Int) - 1) = ((h.length - 1:Nat):Int):=by rw [wrap_pred (by omega) (by omega)];omega
  have hf:Ev (fun k=>spec_l19Drop.f k h (i:Int)) m:=Ev.step (fun k=>by simp only [spec_l19Drop.f];rw [e1]) (d.spec la.lt hh (by omega))
  refine Ev.sb (of_ev hh q) (fun k hk=>?_) (f:=fun k=>(spec_l19Last.f k h q).bind fun t=>(spec_l19Drop.f k h t).bind fun u=>spec_HistoryBack.l0 k q n u) (Ev.cb (lastF_ev la hh) (fun k hk=>?_) (f:=fun k=>(spec_l19Drop.f k h (i:Int)).bind fun u=>spec_HistoryBack.l0 k q n u) (Ev.cb hf (fun k hk=>?_) (ih (by omega))))
  ·simp only [spec_HistoryBack.l0]
   rw [hk,Option.bind_some,if_pos hc]
  ·rw [hk,Option.bind_some]
  ·rw [hk,Option.bind_some]
theorem hist_count {th:List (List Int)} {h:List S32} (ho:okH th h = true):(histAt th h).1.length = th.length∧∀ j:Nat,rd (histAt th h).1 (j:Int) = ((ofP h (j:Int)).length:Int):=by
 obtain ⟨ok,hr⟩:=histAt_ok ho
 refine ⟨(run_far h (far0 th) hr).len,fun j=>?_⟩
 rw [run_count h (far0 th) hr j (by omega),at0,rd_zeros]
 omega
theorem BackTo.impl {th:List (List Int)} {q:Nat} {n:Int} {h r:List S32} (hs:SmallTh th) (hq:q < th.length) (b:BackTo (q:Int) n h r):okH th h = true → h.length ≤ 1048576 → Ev (fun k=>impl_HistoryBack.l0 k th q n (histAt th h).1 h) (r,true):=by
 induction b with
 | @stop h hc =>
  intro ho hh
  obtain ⟨l1,l2⟩:=hist_count ho
  refine Ev.step (f:=fun _=>some (h,true)) (fun k=>?_) (Ev.now _)
  simp only [impl_HistoryBack.l0]
  rw [if_pos (by omega),if_pos (by omega),l2 q,if_neg hc]
 | @go h m r i hc la d b ih =>
  intro ho hh
  obtain ⟨l1,l2⟩:=hist_count ho
  have s1:=((d.shape la.lt).sub la.lt).2
  have e1:wrap64 ((h.length:Int) - 1) = ((h.length - 1:Nat):Int):=by rw [wrap_pred (by omega) (by omega)];omega
  have hf:Ev (fun k=>impl_drop.f k h (i:Int)) m:=Ev.step (fun k=>by simp only [impl_drop.f];rw [e1]) (d.impl la.lt hh (by omega))
  have om:=(d.ok' (th:=th) la.lt ho).1
  have hat:=implAt_ev (h:=m) hs (by omega)
  have next:=ih om (by omega)
  have scan:∀ (c:Nat),i + c < h.length → Ev (fun k=>impl_HistoryBack.l1 k th q n h ((i + c:Nat):Int)) (r,true):=by
   intro c
   induction c with
   | zero =>
    intro hc2
    refine Ev.sb hf (fun k hk=>?_) (f:=fun k=>(impl_HistoryAt.f k th m).bind fun bt=>impl_HistoryBack.l0 k th q n bt.1 m) (Ev.cb hat (fun k hk=>?_) next)
    ·simp only [impl_HistoryBack.l1,Nat.add_zero,rdE_at _ _ la.lt]
     rw [if_pos (by omega),if_pos (by have:=la.lt;omega),has_f,la.has,Option.bind_some,if_pos rfl,hk,Option.bind_some]
    ·rw [hk,Option.bind_some]
   | succ c ihc =>
    intro hc2
    have hb:=la.none (i + (c + 1)) h[i + (c + 1)] (by omega) (List.getElem?_eq_getElem hc2)
    refine Ev.step (fun k=>?_) (ihc (by omega))
    simp only [impl_HistoryBack.l1,rdE_at _ _ hc2]
    rw [if_pos (by omega),if_pos (by omega),has_f,hb,Option.bind_some,if_neg (by simp),wrap_pred (by omega) (by omega),show (((i + (c + 1):Nat):Int) - 1) = ((i + c:Nat):Int) by omega]
  have sc:=scan (h.length - 1 - i) (by have:=la.lt;omega)
  rw [show i + (h.length - 1 - i) = h.length - 1 by have:=la.lt;omega] at sc
  refine Ev.step (fun k=>?_) sc
  simp only [impl_HistoryBack.l0]
  rw [if_pos (by omega),if_pos (by omega),l2 q,if_pos hc,e1]
def BackIs (th:List (List Int)) (h:List S32) (q n:Int) (r:List S32 × Bool):Prop :=
 (okH th h = true∧0 ≤ q∧q < (th.length:Int)∧0 ≤ n∧r.2 = true∧BackTo q n h r.1) ∨ (¬ (okH th h = true∧0 ≤ q∧q < (th.length:Int)∧0 ≤ n)∧r = ([],false))
theorem backIs_ex (th:List (List Int)) (h:List S32) (q n:Int):∃ r,BackIs th h q n r:=by
 by_cases hc:okH th h = true∧0 ≤ q∧q < (th.length:Int)∧0 ≤ n
 ·obtain ⟨r,hr⟩:=back_ex (q:=q) hc.2.2.2 h.length h (Nat.le_refl _)
  exact ⟨(r,true),.inl ⟨hc.1,hc.2.1,hc.2.2.1,hc.2.2.2,rfl,hr⟩⟩
 ·exact ⟨_,.inr ⟨hc,rfl⟩⟩
theorem BackIs.spec {th:List (List Int)} {h:List S32} {q n:Int} {r:List S32 × Bool} (hs:SmallTh th) (hh:h.length ≤ 1048576) (b:BackIs th h q n r):Ev (fun k=>spec_HistoryBack.f k th h q n) r:=by
 have hn:=hs.len
 have no:Ev (fun k=>spec_HistoryBack.j0 k h q n true) ([],false):=Ev.step (f:=fun _=>some ([],false)) (fun k=>by simp only [spec_HistoryBack.j0];rw [if_pos trivial]) (Ev.now _)
 rcases b with ⟨ho,q0,q1,n0,r2,b⟩ | ⟨hc,rfl⟩
 ·obtain ⟨r1,r2'⟩:=r
  obtain rfl:r2' = true:=r2
  have l1:([]:List S32).length + h.length < 8796093022208:=by rw [List.length_nil];omega
  have hin:(decide (0 ≤ q) && decide (q ≤ wrap64 ((th.length:Int) - 1))) = true:=by
   rw [wrap_id (by omega) (by omega),Bool.and_eq_true,decide_eq_true_eq,decide_eq_true_eq]
   omega
  refine Ev.cb (specOkH_ev hs hh) (fun k hk=>?_) (f:=fun k=>spec_HistoryBack.j0 k h q n false) (Ev.step (fun k=>?_) (b.spec hh))
  ·unfold spec_HistoryBack.f
   rw [hk,ho,Option.bind_some,if_pos rfl,l6In_f,hin,Option.bind_some,if_pos rfl,decide_eq_false (by omega)]
  ·simp only [spec_HistoryBack.j0]
   rw [if_neg (by simp),Option.bind_some,if_pos l1,List.nil_append]
 ·refine Ev.cb (specOkH_ev hs hh) (fun k hk=>?_) no
  unfold spec_HistoryBack.f
  rw [hk,Option.bind_some]
  cases ho:okH th h with
  | false=>rw [if_neg (by simp)]
  | true =>
   rw [if_pos rfl,l6In_f,Option.bind_some]
   cases hin:(decide (0 ≤ q) && decide (q ≤ wrap64 ((th.length:Int) - 1))) with
   | false=>rw [if_neg (by simp)]
   | true =>
    rw [wrap_id (by omega) (by omega),Bool.and_eq_true,decide_eq_true_eq,decide_eq_true_eq] at hin
    rw [if_pos rfl,decide_eq_true (by have:¬ 0 ≤ n:=fun h0=>hc ⟨ho,hin.1,by omega,h0⟩;omega)]
theorem BackIs.impl {th:List (List Int)} {h:List S32} {q n:Int} {r:List S32 × Bool} (hs:SmallTh th) (hh:h.length ≤ 1048576) (b:BackIs th h q n r):Ev (fun k=>impl_HistoryBack.f k th h q n) r:=by
 have hn:=hs.len
 have no:∀ a,Ev (fun k=>impl_HistoryBack.j0 k th h q n a true) ([],false):=fun a=>Ev.step (f:=fun _=>some ([],false)) (fun k=>by simp only [impl_HistoryBack.j0];rw [if_pos trivial]) (Ev.now _)
 rcases b with ⟨ho,q0,q1,n0,r2,b⟩ | ⟨hc,rfl⟩
 ·obtain ⟨r1,r2'⟩:=r
  obtain rfl:r2' = true:=r2
  obtain ⟨q,rfl⟩:∃ q':Nat,q = q':=⟨q.toNat,by omega⟩
  refine Ev.cb (implAt_ev hs hh) (fun k hk=>?_) (f:=fun k=>impl_HistoryBack.j0 k th h q n (histAt th h).1 false) (Ev.step (fun k=>?_) (b.impl hs (by omega) ho hh))
  ·unfold impl_HistoryBack.f
   rw [hk,Option.bind_some,if_pos (show (histAt th h).2 = true from ho),if_neg (by omega),if_neg (by omega),decide_eq_false (by omega)]
  ·simp only [impl_HistoryBack.j0]
   rw [if_neg (by simp),impl_Event_70.f,if_pos (by omega),Option.bind_some]
 ·refine Ev.cb (implAt_ev hs hh) (fun k hk=>?_) (no (histAt th h).1)
  unfold impl_HistoryBack.f
  rw [hk,Option.bind_some]
  by_cases ho:(histAt th h).2 = true
  ·rw [if_pos ho]
   by_cases h1:q < 0
   ·rw [if_pos h1]
   ·rw [if_neg h1]
    by_cases h2:q ≥ (th.length:Int)
    ·rw [if_pos h2]
    ·rw [if_neg h2,decide_eq_true (by have:¬ 0 ≤ n:=fun h0=>hc ⟨ho,by omega,by omega,h0⟩;omega)]
  ·rw [if_neg ho]
end Go.Proofs.Ythljlnkanllpnaa.P
