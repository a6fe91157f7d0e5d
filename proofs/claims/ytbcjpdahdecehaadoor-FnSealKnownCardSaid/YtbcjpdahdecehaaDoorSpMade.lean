/- The reference's SealMade: what can be put together of what can be taken apart. Plain; no condition. -/
import Derived.Test.YtbcjpdahdecehaaDoorP0
import Derived.Test.YtbcjpdahdecehaaDoorP1
import Derived.Test.YtbcjpdahdecehaaDoorP2
import Derived.Test.YtbcjpdahdecehaaDoorExTx
import Derived.Test.YtbcjpdahdecehaaDoorHMade
namespace Go.Proofs.YtbcjpdahdecehaaDoor.P
open Go.RowKit Go.Proofs.YtbcjpdahdecehaaDoorW.PrintWords Go.Proofs.YtbcjpdahdecehaaDoorW.PrintLast Go.Proofs.YtbcjpdahdecehaaDoorW.PrintMore
set_option linter.unusedVariables false
set_option linter.unusedSimpArgs false
theorem known_ev {l:List S25} (hl:l.length ≤ 1048576) (hW:∀ y,y ∈ l → W25 y):Ev (fun k=>spec_l20Known.f k l) (knownOk l):=by
 have loop:∀ (d i:Nat),i + d = l.length → Ev (fun k=>spec_l20Known.l0 k l i) (decide (l.length ≤ 6) && (l.drop i).all sealOk):=by
  intro d
  induction d with
  | zero =>
   intro i hi
   rw [List.drop_eq_nil_of_le (by omega),List.all_nil,Bool.and_true]
   refine Ev.step (f:=fun _=>some (decide ((l.length:Int) ≤ 6))) (fun k=>?_) (Ev.to (Ev.now _) ?_)
   ·simp only [spec_l20Known.l0]
    rw [if_neg (by omega)]
   ·rw [decide_eq_decide]
    omega
  | succ d ih =>
   intro i hi
   have hil:i < l.length:=by omega
   have hy:=specOk_ev (hW _ (List.getElem_mem hil))
   have hw:wrap64 ((i:Int) + 1) = ((i + 1:Nat):Int):=wrap_succ hil (by omega)
   rw [List.drop_eq_getElem_cons hil,List.all_cons]
   cases hc:sealOk l[i] with
   | false =>
    refine Ev.sb hy (f:=fun _=>some false) (fun k hk=>?_) (Ev.to (Ev.now _) (by simp))
    simp only [spec_l20Known.l0]
    rw [if_pos (by omega),if_pos (by omega),rd25_nat _ _ hil,hk,hc,Option.bind_some,if_neg (by simp)]
   | true =>
    refine Ev.sb hy (fun k hk=>?_) (Ev.to (ih (i + 1) (by omega)) (by simp))
    simp only [spec_l20Known.l0]
    rw [if_pos (by omega),if_pos (by omega),rd25_nat _ _ hil,hk,hc,Option.bind_some,if_pos (by trivial),hw]
 exact loop l.length 0 (by omega)
def Ls (L:List S25) (s:ByteArray):Bool:=L.any fun y=>decide (y.tx.toList = s.toList)
theorem bytes_ext {a b:ByteArray} (h:a.toList = b.toList):a = b:=by
 rw [ByteArray.toList_eq,ByteArray.toList_eq] at h
 cases a;cases b
 congr 1
 exact Array.ext' h
theorem Ls_iff {L:List S25} (hL:∀ y,y ∈ L → OkT y) {x:S25} (hx:OkT x):Ls L x.tx = true ↔ x ∈ L:=by
 unfold Ls
 rw [List.any_eq_true]
 constructor
 ·rintro ⟨y,hy,h⟩
  rw [← tx_inj (hL y hy) hx (bytes_ext (of_decide_eq_true h))]
  exact hy
 ·exact fun h=>⟨x,h,decide_eq_true rfl⟩
theorem has_ev {L:List S25} (hl:L.length ≤ 100) (hL:∀ y,y ∈ L → OkT y∧y.nodes ≤ 12) {x:S25} (hx:OkT x) (hn:x.nodes ≤ 12):Ev (fun k=>spec_l20Has.f k L x.f0 x.f1 x.f2) (Ls L x.tx):=by
 have loop:∀ (d i:Nat),i + d = L.length → Ev (fun k=>spec_l20Has.l0 k L i x.f0 x.f1 x.f2) (Ls (L.drop i) x.tx):=by
  intro d
  induction d with
  | zero =>
   intro i hi
   rw [List.drop_eq_nil_of_le (by omega)]
   refine Ev.step (f:=fun _=>some false) (fun k=>?_) (Ev.to (Ev.now _) rfl)
   simp only [spec_l20Has.l0]
   rw [if_neg (by omega)]
  | succ d ih =>
   intro i hi
   have hil:i < L.length:=by omega
   have hy:=hL _ (List.getElem_mem hil)
   have hw:wrap64 ((i:Int) + 1) = ((i + 1:Nat):Int):=wrap_succ hil (by omega)
   rw [List.drop_eq_getElem_cons hil]
   have e:Ls (L[i] :: L.drop (i + 1)) x.tx = (decide (L[i].tx.toList = x.tx.toList) || Ls (L.drop (i + 1)) x.tx):=rfl
   rw [e]
   refine Ev.sb (l20Text_ev hy.1 hy.2) (f:=fun k=>(spec_l20Text.f k x.f0 x.f1 x.f2).bind fun t=>if L[i].tx.toList = t.toList then some true else spec_l20Has.l0 k L ((i + 1:Nat):Int) x.f0 x.f1 x.f2) (fun k hk=>?_) ?_
   ·simp only [spec_l20Has.l0]
    rw [if_pos (by omega),if_pos (by omega),rd25_nat _ _ hil,hk,Option.bind_some,hw]
   ·by_cases hc:L[i].tx.toList = x.tx.toList
    ·refine Ev.cb (l20Text_ev hx hn) (f:=fun _=>some true) (fun k hk=>?_) (Ev.to (Ev.now _) (by simp [hc]))
     rw [hk,Option.bind_some,if_pos hc]
    ·refine Ev.cb (l20Text_ev hx hn) (fun k hk=>?_) (Ev.to (ih (i + 1) (by omega)) (by simp [hc]))
     rw [hk,Option.bind_some,if_neg hc]
 exact loop L.length 0 (by omega)
theorem made_ev {L:List S25} (hl:L.length ≤ 100) (hL:∀ y,y ∈ L → OkT y∧y.nodes ≤ 12) {x:S25} (hx:OkT x):x.nodes ≤ 12 → Ev (fun k=>spec_l20Made.f k L x.f0 x.f1 x.f2) (x.mkb (Ls L)):=by
 have two:∀ (a:Int) (p q:S25),a ≠ 0 → OkT ⟨a,0,[p,q]⟩ → (S25.mk a 0 [p,q]).nodes ≤ 12 → (S25.mk a 0 [p,q]).mkb (Ls L) = (Ls L (S25.mk a 0 [p,q]).tx || (p.mkb (Ls L) && q.mkb (Ls L))) → Ev (fun k=>spec_l20Made.f k L p.f0 p.f1 p.f2) (p.mkb (Ls L)) → Ev (fun k=>spec_l20Made.f k L q.f0 q.f1 q.f2) (q.mkb (Ls L)) → Ev (fun k=>spec_l20Made.f k L a 0 [p,q]) ((S25.mk a 0 [p,q]).mkb (Ls L)):=by
  intro a p q ha hx hn he hp hq
  rw [he]
  have hh:=has_ev hl hL hx hn
  cases hc:Ls L (S25.mk a 0 [p,q]).tx with
  | true =>
   refine Ev.sb hh (f:=fun _=>some true) (fun k hk=>?_) (Ev.to (Ev.now _) (by simp))
   simp only [spec_l20Made.f]
   dsimp only at hk
   rw [hk,hc,Option.bind_some,if_pos rfl]
  | false =>
   refine Ev.sb hh (f:=fun k=>(spec_l20Made.f k L p.f0 p.f1 p.f2).bind fun t=>if t = true then ((spec_l20Made.f k L q.f0 q.f1 q.f2).bind fun t=>some t) else some false) (fun k hk=>?_) ?_
   ·simp only [spec_l20Made.f]
    dsimp only at hk
    rw [hk,hc,Option.bind_some,if_neg (by simp),if_neg ha,if_pos (by simp),if_pos (by simp)]
    rfl
   ·cases h1:p.mkb (Ls L) with
    | false =>
     refine Ev.cb hp (f:=fun _=>some false) (fun k hk=>?_) (Ev.to (Ev.now _) (by simp))
     rw [hk,h1,Option.bind_some,if_neg (by simp)]
    | true =>
     refine Ev.cb hp (f:=fun k=>(spec_l20Made.f k L q.f0 q.f1 q.f2).bind fun t=>some t) (fun k hk=>?_) (Ev.cb hq (f:=fun _=>some (q.mkb (Ls L))) (fun k hk=>?_) (Ev.to (Ev.now _) (by simp)))
     ·rw [hk,h1,Option.bind_some,if_pos rfl]
     ·rw [hk,Option.bind_some]
 induction hx with
 | name b h0 h1 =>
  intro hn
  have hh:=has_ev hl hL (OkT.name b h0 h1) hn
  rw [mkb_name]
  cases hc:Ls L (S25.mk 0 b []).tx with
  | true =>
   refine Ev.sb hh (f:=fun _=>some true) (fun k hk=>?_) (Ev.to (Ev.now _) rfl)
   simp only [spec_l20Made.f]
   dsimp only at hk
   rw [hk,hc,Option.bind_some,if_pos rfl]
  | false =>
   refine Ev.sb hh (f:=fun _=>some false) (fun k hk=>?_) (Ev.to (Ev.now _) rfl)
   simp only [spec_l20Made.f]
   dsimp only at hk
   rw [hk,hc,Option.bind_some,if_neg (by simp),if_pos trivial]
 | pair p q hp hq i1 i2 =>
  intro hn
  have hn':=hn
  rw [nodes2] at hn'
  exact two 1 p q (by decide) (.pair p q hp hq) hn (mkb_pair _ p q) (i1 (by omega)) (i2 (by omega))
 | shut p q hp hq i1 i2 =>
  intro hn
  have hn':=hn
  rw [nodes2] at hn'
  exact two 2 p q (by decide) (.shut p q hp hq) hn (mkb_shut _ p q) (i1 (by omega)) (i2 (by omega))
structure InvL (K L:List S25):Prop where
 el:∀ y,y ∈ L → Der K y∧OkT y∧y.nodes ≤ 12
 nd:L.Pairwise (fun a b=>a ≠ b)
theorem InvL.ok {K L:List S25} (h:InvL K L):∀ y,y ∈ L → OkT y∧y.nodes ≤ 12:=fun y hy=>(h.el y hy).2
theorem InvL.len {K L:List S25} (h:InvL K L) (hK:nodesL K ≤ 72):L.length ≤ 72:=by
 haveI:DecidableEq S25:=fun a b=>Classical.propDecidable _
 refine Nat.le_trans (nodup_len h.nd fun y hy=>der_subs (h.el y hy).1) ?_
 rw [subsL_len]
 exact hK
theorem InvL.add {K L:List S25} (h:InvL K L) {x:S25} (hx:Der K x∧OkT x∧x.nodes ≤ 12) (hn:x ∉ L):InvL K (L ++ [x]):=by
 refine ⟨fun y hy=>?_,List.pairwise_append.2 ⟨h.nd,by simp,fun a ha b hb=>?_⟩⟩
 ·rcases List.mem_append.1 hy with hy | hy
  ·exact h.el y hy
  ·rw [List.mem_singleton.1 hy]
   exact hx
 ·rw [List.mem_singleton.1 hb]
  exact fun e=>hn (e ▸ ha)
theorem l0_ev {K:List S25} (hK:nodesL K ≤ 72) (hl:K.length ≤ 6) (hok:∀ y,y ∈ K → OkT y∧y.nodes ≤ 12):∀ (d i:Nat),i + d = K.length → ∀ L,InvL K L →
  ∃ L',InvL K L'∧(∀ x,x ∈ L → x ∈ L')∧(∀ y,y ∈ K.drop i → y ∈ L')∧∀ r,Ev (fun k=>spec_l20Apart.l1 k L' true) r → Ev (fun k=>spec_l20Apart.l0 k K L i) r:=by
 intro d
 induction d with
 | zero =>
  intro i hi L hL
  refine ⟨L,hL,fun _ h=>h,fun y hy=>by rw [List.drop_eq_nil_of_le (by omega)] at hy;simp at hy,fun r hr=>Ev.step (fun k=>?_) hr⟩
  simp only [spec_l20Apart.l0]
  rw [if_neg (by omega)]
 | succ d ih =>
  intro i hi L hL
  have hil:i < K.length:=by omega
  have hlen:=hL.len hK
  have hy:=hok _ (List.getElem_mem hil)
  have hw:wrap64 ((i:Int) + 1) = ((i + 1:Nat):Int):=wrap_succ hil (by omega)
  have hh:=has_ev (by omega) hL.ok hy.1 hy.2
  rw [List.drop_eq_getElem_cons hil]
  have hiff:=Ls_iff (fun y hy=>(hL.ok y hy).1) hy.1
  cases hc:Ls L K[i].tx with
  | true =>
   obtain ⟨L',h1,h2,h3,h4⟩:=ih (i + 1) (by omega) L hL
   refine ⟨L',h1,h2,fun y hy=>?_,fun r hr=>Ev.sb hh (fun k hk=>?_) (h4 r hr)⟩
   ·rcases List.mem_cons.1 hy with rfl | hy
    ·exact h2 _ (hiff.1 hc)
    ·exact h3 y hy
   ·simp only [spec_l20Apart.l0]
    rw [if_pos (by omega),if_pos (by omega),rd25_nat _ _ hil,hk,hc,Option.bind_some,if_pos rfl,hw]
  | false =>
   obtain ⟨L',h1,h2,h3,h4⟩:=ih (i + 1) (by omega) (L ++ [K[i]]) (hL.add ⟨.base (List.getElem_mem hil),hy⟩ (fun h=>by rw [hiff.2 h] at hc;cases hc))
   refine ⟨L',h1,fun x hx=>h2 x (List.mem_append_left _ hx),fun y hy=>?_,fun r hr=>Ev.sb hh (fun k hk=>?_) (h4 r hr)⟩
   ·rcases List.mem_cons.1 hy with rfl | hy
    ·exact h2 _ (by simp)
    ·exact h3 y hy
   ·simp only [spec_l20Apart.l0]
    rw [if_pos (by omega),if_pos (by omega),rd25_nat _ _ hil,hk,hc,Option.bind_some,if_neg (by simp),if_pos (by omega),hw,eta25]
theorem l3_ev {K:List S25} (hK:nodesL K ≤ 72) (n:Int) {ps:List S25} (hpl:ps.length ≤ 2) (hp:∀ y,y ∈ ps → Der K y∧OkT y∧y.nodes ≤ 12):∀ (d i:Nat),i + d = ps.length → ∀ L b,InvL K L →
  ∃ L' b',InvL K L'∧(∀ x,x ∈ L → x ∈ L')∧(∀ y,y ∈ ps.drop i → y ∈ L')∧L.length ≤ L'.length∧(b' = true → b = true ∨ L.length < L'.length)∧(b' = false → b = false∧L' = L)∧∀ r,Ev (fun k=>spec_l20Apart.l2 k L' b' (wrap64 (n + 1))) r → Ev (fun k=>spec_l20Apart.l3 k L b n ps i) r:=by
 intro d
 induction d with
 | zero =>
  intro i hi L b hL
  refine ⟨L,b,hL,fun _ h=>h,fun y hy=>by rw [List.drop_eq_nil_of_le (by omega)] at hy;simp at hy,Nat.le_refl _,fun h=>Or.inl h,fun h=>⟨h,rfl⟩,fun r hr=>Ev.step (fun k=>?_) hr⟩
  simp only [spec_l20Apart.l3]
  rw [if_neg (by omega)]
 | succ d ih =>
  intro i hi L b hL
  have hil:i < ps.length:=by omega
  have hlen:=hL.len hK
  have hy:=hp _ (List.getElem_mem hil)
  have hw:wrap64 ((i:Int) + 1) = ((i + 1:Nat):Int):=wrap_succ hil (by omega)
  have hh:=has_ev (by omega) hL.ok hy.2.1 hy.2.2
  rw [List.drop_eq_getElem_cons hil]
  have hiff:=Ls_iff (fun y hy=>(hL.ok y hy).1) hy.2.1
  cases hc:Ls L ps[i].tx with
  | true =>
   obtain ⟨L',b',h1,h2,h3,h5,h6,h7,h4⟩:=ih (i + 1) (by omega) L b hL
   refine ⟨L',b',h1,h2,fun y hy=>?_,h5,h6,h7,fun r hr=>Ev.sb hh (fun k hk=>?_) (h4 r hr)⟩
   ·rcases List.mem_cons.1 hy with rfl | hy
    ·exact h2 _ (hiff.1 hc)
    ·exact h3 y hy
   ·simp only [spec_l20Apart.l3]
    rw [if_pos (by omega),if_pos (by omega),rd25_nat _ _ hil,hk,hc,Option.bind_some,if_pos rfl,hw]
  | false =>
   obtain ⟨L',b',h1,h2,h3,h5,h6,h7,h4⟩:=ih (i + 1) (by omega) (L ++ [ps[i]]) true (hL.add hy (fun h=>by rw [hiff.2 h] at hc;cases hc))
   rw [List.length_append] at h5
   simp only [List.length_singleton] at h5
   refine ⟨L',b',h1,fun x hx=>h2 x (List.mem_append_left _ hx),fun y hy=>?_,by omega,fun _=>Or.inr (by omega),fun h=>?_,fun r hr=>Ev.sb hh (fun k hk=>?_) (h4 r hr)⟩
   ·rcases List.mem_cons.1 hy with rfl | hy
    ·exact h2 _ (by simp)
    ·exact h3 y hy
   ·cases (h7 h).1
   ·simp only [spec_l20Apart.l3]
    rw [if_pos (by omega),if_pos (by omega),rd25_nat _ _ hil,hk,hc,Option.bind_some,if_neg (by simp),if_pos (by omega),hw,eta25]
def VisL (L:List S25) (x:S25):Prop:=(∀ p q,x = ⟨1,0,[p,q]⟩ → p ∈ L∧q ∈ L)∧(∀ p q,x = ⟨2,0,[p,q]⟩ → p.mkb (Ls L) = true → q ∈ L)
theorem l2_step {K L:List S25} (hK:nodesL K ≤ 72) (hKo:∀ y,y ∈ K → OkT y) (hL:InvL K L) (b:Bool) {i:Nat} (hi:i < L.length) :
  ∃ ps:List S25,ps.length ≤ 2∧(∀ y,y ∈ ps → Der K y∧OkT y∧y.nodes ≤ 12)∧((∀ y,y ∈ ps → y ∈ L) → VisL L L[i])∧∀ r,Ev (fun k=>spec_l20Apart.l3 k L b i ps 0) r → Ev (fun k=>spec_l20Apart.l2 k L b i) r:=by
 have hlen:=hL.len hK
 have hx:=hL.el _ (List.getElem_mem hi)
 have e:=rd25_nat L i hi
 generalize hxe:L[i] = x at *
 obtain ⟨hd,ho,hn⟩:=hx
 have hn':=hn
 cases ho with
 | name c h0 h1 =>
  refine ⟨[],by simp,by simp,fun _=>⟨fun p q e=>(by cases e),fun p q e=>(by cases e)⟩,fun r hr=>?_⟩
  obtain ⟨M,hr⟩:=hr
  refine ⟨M + 4,fun k hk=>?_⟩
  obtain ⟨k,rfl⟩:∃ m,k = m + 4:=⟨k - 4,by omega⟩
  have:=hr k (by omega)
  simp only [spec_l20Apart.l2]
  rw [if_pos (by omega),if_pos (by omega),e,if_neg (by simp)]
  simp only [spec_l20Apart.j3]
  rw [if_neg (by simp)]
  simp only [spec_l20Apart.j4]
  rw [if_neg (by simp)]
  simp only [spec_l20Apart.j5]
  exact this
 | pair p q hp hq =>
  rw [nodes2] at hn'
  refine ⟨[p,q],by simp,?_,fun h=>⟨fun p' q' e=>by cases e;exact ⟨h p (by simp),h q (by simp)⟩,fun p' q' e=>by cases e⟩,fun r hr=>?_⟩
  ·intro y hy
   simp only [List.mem_cons,List.not_mem_nil,or_false] at hy
   rcases hy with rfl | rfl
   ·exact ⟨.fst hd,hp,by omega⟩
   ·exact ⟨.snd hd,hq,by omega⟩
  obtain ⟨M,hr⟩:=hr
  refine ⟨M + 4,fun k hk=>?_⟩
  obtain ⟨k,rfl⟩:∃ m,k = m + 4:=⟨k - 4,by omega⟩
  have:=hr k (by omega)
  simp only [spec_l20Apart.l2]
  rw [if_pos (by omega),if_pos (by omega),e,if_pos (by trivial)]
  simp only [spec_l20Apart.j3]
  rw [if_neg (by simp)]
  simp only [spec_l20Apart.j4]
  rw [if_neg (by simp)]
  simp only [spec_l20Apart.j5]
  exact this
 | shut p q hp hq =>
  rw [nodes2] at hn'
  obtain ⟨M1,hm⟩:=made_ev (by omega) hL.ok hp (by omega)
  cases hc:p.mkb (Ls L) with
  | true =>
   refine ⟨[q],by simp,?_,fun h=>⟨fun p' q' e=>(by cases e),fun p' q' e _=>by cases e;exact h q (by simp)⟩,fun r hr=>?_⟩
   ·intro y hy
    rw [List.mem_singleton.1 hy]
    exact ⟨.open hd (mkb_sound (fun z hz h=>(hL.el z ((Ls_iff (fun y hy=>(hL.ok y hy).1) hz).1 h)).1) hp hc),hq,by omega⟩
   obtain ⟨M,hr⟩:=hr
   refine ⟨M + M1 + 4,fun k hk=>?_⟩
   obtain ⟨k,rfl⟩:∃ m,k = m + 4:=⟨k - 4,by omega⟩
   have:=hr k (by omega)
   have hm2:=hm (k + 2) (by omega)
   dsimp only at hm2
   simp only [spec_l20Apart.l2]
   rw [if_pos (by omega),if_pos (by omega),e,if_neg (by simp)]
   simp only [spec_l20Apart.j3]
   rw [if_pos trivial,if_pos (by simp),show rd_T25 [p,q] 0 = p from rfl,hm2,Option.bind_some,hc]
   simp only [spec_l20Apart.j4]
   rw [if_pos trivial,if_pos (by simp)]
   simp only [spec_l20Apart.j5]
   exact this
  | false =>
   refine ⟨[],by simp,by simp,fun h=>⟨fun p' q' e=>(by cases e),fun p' q' e h=>by cases e;rw [hc] at h;cases h⟩,fun r hr=>?_⟩
   obtain ⟨M,hr⟩:=hr
   refine ⟨M + M1 + 4,fun k hk=>?_⟩
   obtain ⟨k,rfl⟩:∃ m,k = m + 4:=⟨k - 4,by omega⟩
   have:=hr k (by omega)
   have hm2:=hm (k + 2) (by omega)
   dsimp only at hm2
   simp only [spec_l20Apart.l2]
   rw [if_pos (by omega),if_pos (by omega),e,if_neg (by simp)]
   simp only [spec_l20Apart.j3]
   rw [if_pos trivial,if_pos (by simp),show rd_T25 [p,q] 0 = p from rfl,hm2,Option.bind_some,hc]
   simp only [spec_l20Apart.j4]
   rw [if_neg (by simp)]
   simp only [spec_l20Apart.j5]
   exact this
theorem l2_ev {K:List S25} (hK:nodesL K ≤ 72) (hKo:∀ y,y ∈ K → OkT y):∀ (d i:Nat),i + d = 73 → ∀ L b,InvL K L → i ≤ L.length →
  ∃ L' b',InvL K L'∧(∀ x,x ∈ L → x ∈ L')∧L.length ≤ L'.length∧(b' = true → b = true ∨ L.length < L'.length)∧(b' = false → b = false∧L' = L∧∀ j (hj:j < L.length),i ≤ j → VisL L L[j])∧∀ r,Ev (fun k=>spec_l20Apart.l1 k L' b') r → Ev (fun k=>spec_l20Apart.l2 k L b i) r:=by
 intro d
 induction d with
 | zero =>
  intro i hi L b hL hil
  have:=hL.len hK
  omega
 | succ d ih =>
  intro i hi L b hL hil
  have hlen:=hL.len hK
  by_cases hlt:i < L.length
  ·obtain ⟨ps,p1,p2,p3,p4⟩:=l2_step hK hKo hL b hlt
   obtain ⟨L1,b1,a1,a2,a3,a4,a5,a6,a7⟩:=l3_ev hK i p1 p2 ps.length 0 (by omega) L b hL
   obtain ⟨L2,b2,c1,c2,c3,c4,c5,c6⟩:=ih (i + 1) (by omega) L1 b1 a1 (by omega)
   refine ⟨L2,b2,c1,fun x hx=>c2 x (a2 x hx),by omega,fun h=>?_,fun h=>?_,fun r hr=>p4 r (a7 r ?_)⟩
   ·rcases c4 h with h | h
    ·rcases a5 h with h | h
     ·exact Or.inl h
     ·exact Or.inr (by omega)
    ·exact Or.inr (by omega)
   ·obtain ⟨h1,h2,h3⟩:=c5 h
    obtain ⟨h4,h5⟩:=a6 h1
    subst h5
    refine ⟨h4,h2,fun j hj hij=>?_⟩
    by_cases e:i = j
    ·subst e
     exact p3 fun y hy=>a3 y (by rwa [List.drop_zero])
    ·exact h3 j hj (by omega)
   ·rw [wrap_succ hlt (by omega)]
    exact c6 r hr
  ·refine ⟨L,b,hL,fun _ h=>h,Nat.le_refl _,fun h=>Or.inl h,fun h=>⟨h,rfl,fun j hj hij=>by omega⟩,fun r hr=>Ev.step (fun k=>?_) hr⟩
   simp only [spec_l20Apart.l2]
   rw [if_neg (by omega)]
theorem l1_ev {K:List S25} (hK:nodesL K ≤ 72) (hKo:∀ y,y ∈ K → OkT y):∀ (d:Nat) (L:List S25),InvL K L → 73 ≤ L.length + d →
  ∃ L',InvL K L'∧(∀ x,x ∈ L → x ∈ L')∧(∀ y,y ∈ L' → VisL L' y)∧Ev (fun k=>spec_l20Apart.l1 k L true) L':=by
 intro d
 induction d with
 | zero =>
  intro L hL h
  have:=hL.len hK
  omega
 | succ d ih =>
  intro L hL h
  obtain ⟨L1,b1,a1,a2,a3,a4,a5,a6⟩:=l2_ev hK hKo 73 0 (by omega) L false hL (by omega)
  have st:∀ r,Ev (fun k=>spec_l20Apart.l1 k L1 b1) r → Ev (fun k=>spec_l20Apart.l1 k L true) r:=fun r hr=>by
   refine Ev.step (fun k=>?_) (a6 r hr)
   simp only [spec_l20Apart.l1]
   rw [if_pos trivial]
   rfl
  cases b1 with
  | true =>
   have hlt:L.length < L1.length:=by
    rcases a4 rfl with h | h
    ·cases h
    ·exact h
   obtain ⟨L2,c1,c2,c3,c4⟩:=ih L1 a1 (by omega)
   exact ⟨L2,c1,fun x hx=>c2 x (a2 x hx),c3,st _ c4⟩
  | false =>
   obtain ⟨_,h2,h3⟩:=a5 rfl
   subst h2
   refine ⟨L1,a1,fun _ h=>h,fun y hy=>?_,st _ (Ev.step (f:=fun _=>some L1) (fun k=>?_) (Ev.now _))⟩
   ·obtain ⟨j,hj,rfl⟩:=List.getElem_of_mem hy
    exact h3 j hj (by omega)
   ·simp only [spec_l20Apart.l1]
    rw [if_neg (by simp)]
theorem knownOkN {l:List S25} (h:knownOk l = true) (hW:∀ y,y ∈ l → W25 y):∀ y,y ∈ l → OkT y∧y.nodes ≤ 12:=by
 unfold knownOk at h
 rw [Bool.and_eq_true,List.all_eq_true] at h
 exact fun y hy=>sealOk_t (hW y hy) (h.2 y hy)
theorem apart_ev {l:List S25} (hk:knownOk l = true) (hW:∀ y,y ∈ l → W25 y):∃ L,InvL l L∧Closed l (Ls L)∧Ev (fun k=>spec_l20Apart.f k l) L:=by
 have hN:=nodes_known hk
 have hok:=knownOkN hk hW
 have h6:l.length ≤ 6:=by
  unfold knownOk at hk
  rw [Bool.and_eq_true] at hk
  exact of_decide_eq_true hk.1
 obtain ⟨L0,a1,_,a3,a4⟩:=l0_ev hN h6 hok l.length 0 (by omega) [] ⟨by simp,by simp⟩
 obtain ⟨L,c1,c2,c3,c4⟩:=l1_ev hN (fun y hy=>(hok y hy).1) 73 L0 a1 (by omega)
 have iff:∀ {x},OkT x → (Ls L x.tx = true ↔ x ∈ L):=fun hx=>Ls_iff (fun y hy=>(c1.ok y hy).1) hx
 refine ⟨L,c1,⟨fun x hx=>(iff (hok x hx).1).2 (c2 x (a3 x (by rwa [List.drop_zero]))),fun p q hp hq h=>?_,fun p q hp hq h hm=>?_⟩,Ev.congr (fun k=>rfl) (a4 _ c4)⟩
 ·have:=(c3 _ ((iff (.pair p q hp hq)).1 h)).1 p q rfl
  exact ⟨(iff hp).2 this.1,(iff hq).2 this.2⟩
 ·exact (iff hq).2 ((c3 _ ((iff (.shut p q hp hq)).1 h)).2 p q rfl hm)
end Go.Proofs.YtbcjpdahdecehaaDoor.P
