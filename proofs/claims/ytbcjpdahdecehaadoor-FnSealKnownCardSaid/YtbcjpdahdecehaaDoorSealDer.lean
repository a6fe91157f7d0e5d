/- What can be taken apart of known messages, in plain Lean; a message is told by its text. No condition. -/
import Derived.Test.YtbcjpdahdecehaaDoorMapW
namespace Go.Proofs.YtbcjpdahdecehaaDoor.P
open Go.RowKit Go.Proofs.YtbcjpdahdecehaaDoorW.PrintWords Go.Proofs.YtbcjpdahdecehaaDoorW.PrintLast Go.Proofs.YtbcjpdahdecehaaDoorW.PrintMore
set_option linter.unusedVariables false
set_option linter.unusedSimpArgs false
def S25.tb (x:S25):List UInt8:=x.tx.data.toList
theorem digit_of {b:Int} (h0:0 ≤ b) (h1:b ≤ 9):(strOfNums [(wrap64 (48 + b)) % 256]).data.toList = [UInt8.ofNat (48 + b.toNat)]:=by
 obtain h | h | h | h | h | h | h | h | h | h:b = 0 ∨ b = 1 ∨ b = 2 ∨ b = 3 ∨ b = 4 ∨ b = 5 ∨ b = 6 ∨ b = 7 ∨ b = 8 ∨ b = 9:=by omega
 all_goals subst h;kernel_rfl
theorem tb_name {b:Int} (h0:0 ≤ b) (h1:b ≤ 9):(S25.mk 0 b []).tb = [109,UInt8.ofNat (48 + b.toNat)]:=by
 rw [S25.tb,tx_name,ByteArray.data_append,Array.toList_append,digit_of h0 h1]
 rfl
theorem tb_pair (p q:S25):(S25.mk 1 0 [p,q]).tb = 40 :: (p.tb ++ 32 :: (q.tb ++ [41])):=by
 simp [S25.tb,tx_pair,ByteArray.data_append,Array.toList_append]
theorem tb_shut (p q:S25):(S25.mk 2 0 [p,q]).tb = 123 :: (q.tb ++ 125 :: p.tb):=by
 simp [S25.tb,tx_shut,ByteArray.data_append,Array.toList_append]
theorem tb_cut {x:S25} (hx:OkT x):∀ {y:S25} {u v:List UInt8},OkT y → x.tb ++ u = y.tb ++ v → x = y∧u = v:=by
 induction hx with
 | name b h0 h1 =>
  intro y u v hy h
  cases hy with
  | name b' g0 g1 =>
   rw [tb_name h0 h1,tb_name g0 g1] at h
   simp only [List.cons_append,List.nil_append,List.cons.injEq,true_and] at h
   obtain ⟨h2,h3⟩:=h
   have:b = b':=by
    have e:(UInt8.ofNat (48 + b.toNat)).toNat = (UInt8.ofNat (48 + b'.toNat)).toNat:=by rw [h2]
    rw [UInt8.toNat_ofNat',UInt8.toNat_ofNat'] at e
    omega
   exact ⟨by rw [this],h3⟩
  | pair p q hp hq=>rw [tb_name h0 h1,tb_pair] at h;simp at h
  | shut p q hp hq=>rw [tb_name h0 h1,tb_shut] at h;simp at h
 | pair p q hp hq i1 i2 =>
  intro y u v hy h
  cases hy with
  | name b' g0 g1=>rw [tb_name g0 g1,tb_pair] at h;simp at h
  | pair p' q' hp' hq' =>
   rw [tb_pair,tb_pair] at h
   simp only [List.cons_append,List.append_assoc,List.cons.injEq,true_and] at h
   obtain ⟨rfl,h2⟩:=i1 hp' h
   simp only [List.cons.injEq,true_and] at h2
   obtain ⟨rfl,h3⟩:=i2 hq' h2
   simp only [List.nil_append,List.cons.injEq,true_and] at h3
   exact ⟨rfl,h3⟩
  | shut p' q' hp' hq'=>rw [tb_pair,tb_shut] at h;simp at h
 | shut p q hp hq i1 i2 =>
  intro y u v hy h
  cases hy with
  | name b' g0 g1=>rw [tb_name g0 g1,tb_shut] at h;simp at h
  | pair p' q' hp' hq'=>rw [tb_pair,tb_shut] at h;simp at h
  | shut p' q' hp' hq' =>
   rw [tb_shut,tb_shut] at h
   simp only [List.cons_append,List.append_assoc,List.cons.injEq,true_and] at h
   obtain ⟨rfl,h2⟩:=i2 hq' h
   simp only [List.cons.injEq,true_and] at h2
   obtain ⟨rfl,h3⟩:=i1 hp' h2
   exact ⟨rfl,h3⟩
theorem tb_inj {x y:S25} (hx:OkT x) (hy:OkT y) (h:x.tb = y.tb):x = y:=(tb_cut hx (u:=[]) (v:=[]) hy (by rw [h])).1
theorem tx_inj {x y:S25} (hx:OkT x) (hy:OkT y) (h:x.tx = y.tx):x = y:=tb_inj hx hy (by rw [S25.tb,S25.tb,h])
mutual
inductive Der (K:List S25):S25 → Prop where
 | base {x:S25} (h:x ∈ K):Der K x
 | fst {p q:S25} (h:Der K ⟨1,0,[p,q]⟩):Der K p
 | snd {p q:S25} (h:Der K ⟨1,0,[p,q]⟩):Der K q
 | open {p q:S25} (h:Der K ⟨2,0,[p,q]⟩) (hk:Cmp K p):Der K q
inductive Cmp (K:List S25):S25 → Prop where
 | own {x:S25} (h:Der K x):Cmp K x
 | pair {p q:S25} (hp:Cmp K p) (hq:Cmp K q):Cmp K ⟨1,0,[p,q]⟩
 | shut {p q:S25} (hp:Cmp K p) (hq:Cmp K q):Cmp K ⟨2,0,[p,q]⟩
end
theorem mkb_pair (S:ByteArray → Bool) (p q:S25):(S25.mk 1 0 [p,q]).mkb S = (S (S25.mk 1 0 [p,q]).tx || (p.mkb S && q.mkb S)):=by rw [S25.mkb];simp [mkL,mkH]
theorem mkb_shut (S:ByteArray → Bool) (p q:S25):(S25.mk 2 0 [p,q]).mkb S = (S (S25.mk 2 0 [p,q]).tx || (p.mkb S && q.mkb S)):=by rw [S25.mkb];simp [mkL,mkH]
theorem mkb_name (S:ByteArray → Bool) (b:Int):(S25.mk 0 b []).mkb S = S (S25.mk 0 b []).tx:=by rw [S25.mkb];simp
theorem mkb_sound {K:List S25} {S:ByteArray → Bool} (hS:∀ x,OkT x → S x.tx = true → Der K x) {x:S25} (hx:OkT x):x.mkb S = true → Cmp K x:=by
 induction hx with
 | name b h0 h1 =>
  intro h
  rw [mkb_name] at h
  exact .own (hS _ (.name b h0 h1) h)
 | pair p q hp hq i1 i2 =>
  intro h
  rw [mkb_pair,Bool.or_eq_true,Bool.and_eq_true] at h
  rcases h with h | h
  ·exact .own (hS _ (.pair p q hp hq) h)
  ·exact .pair (i1 h.1) (i2 h.2)
 | shut p q hp hq i1 i2 =>
  intro h
  rw [mkb_shut,Bool.or_eq_true,Bool.and_eq_true] at h
  rcases h with h | h
  ·exact .own (hS _ (.shut p q hp hq) h)
  ·exact .shut (i1 h.1) (i2 h.2)
structure Closed (K:List S25) (S:ByteArray → Bool):Prop where
 base:∀ x,x ∈ K → S x.tx = true
 pair:∀ p q,OkT p → OkT q → S (S25.mk 1 0 [p,q]).tx = true → S p.tx = true∧S q.tx = true
 shut:∀ p q,OkT p → OkT q → S (S25.mk 2 0 [p,q]).tx = true → p.mkb S = true → S q.tx = true
theorem mkb_own {S:ByteArray → Bool} {x:S25} (h:S x.tx = true):x.mkb S = true:=by
 obtain ⟨a,b,l⟩:=x
 rw [S25.mkb,h,Bool.true_or]
theorem okT_pair {p q:S25} (h:OkT ⟨1,0,[p,q]⟩):OkT p∧OkT q:=by cases h;exact ⟨by assumption,by assumption⟩
theorem okT_shut {p q:S25} (h:OkT ⟨2,0,[p,q]⟩):OkT p∧OkT q:=by cases h;exact ⟨by assumption,by assumption⟩
mutual
theorem der_all {K:List S25} {S:ByteArray → Bool} (hK:∀ x,x ∈ K → OkT x) (hc:Closed K S):∀ {x:S25},Der K x → OkT x∧S x.tx = true
 | _,.base h=>⟨hK _ h,hc.base _ h⟩
 | _,.fst h=>by
  have:=der_all hK hc h
  have ho:=okT_pair this.1
  exact ⟨ho.1,(hc.pair _ _ ho.1 ho.2 this.2).1⟩
 | _,.snd h=>by
  have:=der_all hK hc h
  have ho:=okT_pair this.1
  exact ⟨ho.2,(hc.pair _ _ ho.1 ho.2 this.2).2⟩
 | _,.open h hk=>by
  have:=der_all hK hc h
  have ho:=okT_shut this.1
  exact ⟨ho.2,hc.shut _ _ ho.1 ho.2 this.2 (cmp_all hK hc hk)⟩
theorem cmp_all {K:List S25} {S:ByteArray → Bool} (hK:∀ x,x ∈ K → OkT x) (hc:Closed K S):∀ {x:S25},Cmp K x → x.mkb S = true
 | _,.own h=>mkb_own (der_all hK hc h).2
 | _,.pair hp hq=>by rw [mkb_pair,cmp_all hK hc hp,cmp_all hK hc hq];simp
 | _,.shut hp hq=>by rw [mkb_shut,cmp_all hK hc hp,cmp_all hK hc hq];simp
end
theorem closed_der {K:List S25} {S:ByteArray → Bool} (hK:∀ x,x ∈ K → OkT x) (hc:Closed K S) (hS:∀ x,OkT x → S x.tx = true → Der K x) {x:S25} (hx:OkT x):(S x.tx = true ↔ Der K x)∧(x.mkb S = true ↔ Cmp K x) :=
 ⟨⟨hS x hx,fun h=>(der_all hK hc h).2⟩,⟨mkb_sound hS hx,cmp_all hK hc⟩⟩
mutual
def S25.subs:S25 → List S25
 | ⟨a,b,l⟩=>⟨a,b,l⟩ :: subsL l
def subsL:List S25 → List S25
 | []=>[]
 | x :: xs=>S25.subs x ++ subsL xs
end
theorem subs_self (x:S25):x ∈ x.subs:=by obtain ⟨a,b,l⟩:=x;rw [S25.subs];exact List.mem_cons_self ..
mutual
theorem subs_len:∀ x:S25,x.subs.length = x.nodes
 | ⟨a,b,l⟩=>by rw [S25.subs,S25.nodes,List.length_cons,subsL_len l,Nat.add_comm]
theorem subsL_len:∀ l:List S25,(subsL l).length = nodesL l
 | []=>rfl
 | x :: xs=>by rw [subsL,nodesL,List.length_append,subs_len x,subsL_len xs]
end
theorem subsL_mem {y:S25}:∀ {l:List S25},y ∈ subsL l ↔ ∃ x,x ∈ l∧y ∈ x.subs
 | []=>by simp [subsL]
 | x :: xs=>by rw [subsL,List.mem_append,subsL_mem (l:=xs)];simp
mutual
theorem subs_trans:∀ {x y z:S25},z ∈ y.subs → y ∈ x.subs → z ∈ x.subs
 | ⟨a,b,l⟩,y,z,hz,hy=>by
  rw [S25.subs] at hy ⊢
  rcases List.mem_cons.1 hy with rfl | hy
  ·rw [S25.subs] at hz;exact hz
  ·exact List.mem_cons_of_mem _ (subsL_trans hz hy)
theorem subsL_trans:∀ {l:List S25} {y z:S25},z ∈ y.subs → y ∈ subsL l → z ∈ subsL l
 | [],_,_,_,hy=>by simp [subsL] at hy
 | x :: xs,y,z,hz,hy=>by
  rw [subsL] at hy ⊢
  rcases List.mem_append.1 hy with hy | hy
  ·exact List.mem_append_left _ (subs_trans hz hy)
  ·exact List.mem_append_right _ (subsL_trans hz hy)
end
theorem part_subs {a b:Int} {l:List S25} {y:S25} (h:y ∈ l):y ∈ (S25.mk a b l).subs:=by
 rw [S25.subs]
 exact List.mem_cons_of_mem _ (subsL_mem.2 ⟨y,h,subs_self y⟩)
theorem der_subs {K:List S25}:∀ {x:S25},Der K x → x ∈ subsL K
 | _,.base h=>subsL_mem.2 ⟨_,h,subs_self _⟩
 | _,.fst h=>subsL_trans (part_subs (by simp)) (der_subs h)
 | _,.snd h=>subsL_trans (part_subs (by simp)) (der_subs h)
 | _,.open h _=>subsL_trans (part_subs (by simp)) (der_subs h)
end Go.Proofs.YtbcjpdahdecehaaDoor.P
