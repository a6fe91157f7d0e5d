/- Messages: their texts, and what stands in them, in plain Lean. No condition. -/
import Derived.Test.YtbcjpdahdecehaaDoorP0
import Derived.Test.YtbcjpdahdecehaaDoorP1
import Derived.Test.YtbcjpdahdecehaaDoorP3
import Derived.Test.YtbcjpdahdecehaaDoorHItoa
import Derived.Test.YtbcjpdahdecehaaDoorOkPure
import Derived.Test.YtbcjpdahdecehaaDoorHUnder
import Derived.Laws.Strings
namespace Go.Proofs.YtbcjpdahdecehaaDoor.P
open Go.RowKit Go.Proofs.YtbcjpdahdecehaaDoorW.PrintWords Go.Proofs.YtbcjpdahdecehaaDoorW.PrintLast Go.Proofs.YtbcjpdahdecehaaDoorW.PrintMore Go.Proofs.YtbcjpdahdecehaaDoor.Any
set_option linter.unusedVariables false
set_option linter.unusedSimpArgs false
inductive OkT:S25 → Prop where
 | name (b:Int) (h0:0 ≤ b) (h1:b ≤ 9):OkT ⟨0,b,[]⟩
 | pair (p q:S25) (hp:OkT p) (hq:OkT q):OkT ⟨1,0,[p,q]⟩
 | shut (p q:S25) (hp:OkT p) (hq:OkT q):OkT ⟨2,0,[p,q]⟩
theorem len2 {α:Type} {l:List α} (h:l.length = 2):∃ p q,l = [p,q]:=by
 match l,h with
 | [p,q],_=>exact ⟨p,q,rfl⟩
theorem okT_of {x:S25} (h:W25 x):x.ok = true → OkT x:=by
 induction h with
 | mk a b l hl hx ih =>
  intro hok
  rw [S25.ok,Bool.and_eq_true,okL_all,List.all_eq_true] at hok
  obtain ⟨hh,ha⟩:=hok
  unfold okHead at hh
  split at hh
  ·rw [Bool.and_eq_true,Bool.and_eq_true,decide_eq_true_eq,decide_eq_true_eq,decide_eq_true_eq] at hh
   obtain ⟨⟨h0,h1⟩,h2⟩:=hh
   cases List.eq_nil_of_length_eq_zero h2
   subst a
   exact .name b h0 h1
  ·split at hh
   ·rename_i hc
    rw [Bool.and_eq_true,decide_eq_true_eq,decide_eq_true_eq] at hh
    obtain ⟨rfl,h2⟩:=hh
    obtain ⟨p,q,rfl⟩:=len2 h2
    rcases hc with rfl | rfl
    ·exact .pair p q (ih p (by simp) (ha p (by simp))) (ih q (by simp) (ha q (by simp)))
    ·exact .shut p q (ih p (by simp) (ha p (by simp))) (ih q (by simp) (ha q (by simp)))
   ·cases hh
theorem sealOk_t {x:S25} (h:W25 x) (hc:sealOk x = true):OkT x∧x.nodes ≤ 12:=by
 unfold sealOk at hc
 rw [Bool.and_eq_true,decide_eq_true_eq] at hc
 exact ⟨okT_of h hc.1,hc.2⟩
theorem nodes2 (a b:Int) (p q:S25):(S25.mk a b [p,q]).nodes = 1 + (p.nodes + q.nodes):=by simp [S25.nodes,nodesL]
theorem okImpl_ev {x:S25} (h:W25 x):Ev (fun k=>impl_SealOk.f k x.f0 x.f1 x.f2) (sealOk x):=by
 refine Ev.cb (implNodes_ev h 12 (by omega) (by omega)) (fun k hk=>by simp only [impl_SealOk.f,hk,Option.bind_some]) (f:=fun k=>if min (x.nodes:Int) (12 + 1) ≤ 12 then ((impl_sealShape.f k x.f0 x.f1 x.f2).bind fun t=>some t) else some false) ?_
 by_cases hn:x.nodes ≤ 12
 ·refine Ev.cb (shape_ev h) (fun k hk=>?_) (Ev.to (Ev.now x.ok) (by simp [sealOk,hn]))
  simp only [hk,Option.bind_some]
  rw [if_pos (by omega)]
 ·refine Ev.cb (Ev.now ()) (fun k hk=>?_) (Ev.to (Ev.now false) (by simp [sealOk,hn]))
  rw [if_neg (by omega)]
def txH (a b:Int):List ByteArray → ByteArray
 | [p,q]=>if a = 1 then (((((⟨#[40]⟩:ByteArray) ++ p) ++ (⟨#[32]⟩:ByteArray)) ++ q) ++ (⟨#[41]⟩:ByteArray)) else ((((⟨#[123]⟩:ByteArray) ++ q) ++ (⟨#[125]⟩:ByteArray)) ++ p)
 | _=>(⟨#[109]⟩:ByteArray) ++ strOfNums [(wrap64 (48 + b)) % 256]
mutual
def S25.tx:S25 → ByteArray
 | ⟨a,b,l⟩=>txH a b (txL l)
def txL:List S25 → List ByteArray
 | []=>[]
 | x :: xs=>S25.tx x :: txL xs
end
theorem tx_name (b:Int):(S25.mk 0 b []).tx = (⟨#[109]⟩:ByteArray) ++ strOfNums [(wrap64 (48 + b)) % 256]:=by simp [S25.tx,txL,txH]
theorem tx_pair (p q:S25):(S25.mk 1 0 [p,q]).tx = (((((⟨#[40]⟩:ByteArray) ++ p.tx) ++ (⟨#[32]⟩:ByteArray)) ++ q.tx) ++ (⟨#[41]⟩:ByteArray)):=by simp [S25.tx,txL,txH]
theorem tx_shut (p q:S25):(S25.mk 2 0 [p,q]).tx = ((((⟨#[123]⟩:ByteArray) ++ q.tx) ++ (⟨#[125]⟩:ByteArray)) ++ p.tx):=by simp [S25.tx,txL,txH]
theorem z40:(⟨#[40]⟩:ByteArray).size = 1:=rfl
theorem z32:(⟨#[32]⟩:ByteArray).size = 1:=rfl
theorem z41:(⟨#[41]⟩:ByteArray).size = 1:=rfl
theorem z123:(⟨#[123]⟩:ByteArray).size = 1:=rfl
theorem z125:(⟨#[125]⟩:ByteArray).size = 1:=rfl
theorem z109:(⟨#[109]⟩:ByteArray).size = 1:=rfl
theorem tx_size {x:S25} (h:OkT x):1 ≤ x.tx.size∧x.tx.size ≤ 3 * x.nodes:=by
 induction h with
 | name b h0 h1 =>
  rw [tx_name,ByteArray.size_append,z109,strOfNums_size]
  have:=nodes_pos (S25.mk 0 b [])
  simp only [List.length_singleton]
  omega
 | pair p q hp hq i1 i2 =>
  rw [tx_pair,nodes2]
  simp only [ByteArray.size_append,z40,z32,z41]
  omega
 | shut p q hp hq i1 i2 =>
  rw [tx_shut,nodes2]
  simp only [ByteArray.size_append,z123,z125]
  omega
theorem text_ev {x:S25} (h:OkT x):x.nodes ≤ 12 → Ev (fun k=>impl_sealText.f k x.f0 x.f1 x.f2) x.tx:=by
 induction h with
 | name b h0 h1 =>
  intro _
  rw [tx_name]
  refine Ev.step (fun k=>?_) (Ev.now _)
  simp only [impl_sealText.f]
  rw [if_neg (by decide),if_neg (by decide),strconv_Itoa_59.f,if_pos h0,if_pos (by omega),Option.bind_some,if_pos (by rw [strOfNums_size];simp)]
 | pair p q hp hq i1 i2 =>
  intro hn
  rw [nodes2] at hn
  have s1:=tx_size hp
  have s2:=tx_size hq
  obtain ⟨K1,h1⟩:=i1 (by omega)
  obtain ⟨K2,h2⟩:=i2 (by omega)
  refine ⟨K1 + K2 + 1,fun k hk=>?_⟩
  obtain ⟨k,rfl⟩:∃ m,k = m + 1:=⟨k - 1,by omega⟩
  have a1:=h1 k (by omega)
  have a2:=h2 k (by omega)
  dsimp only at a1 a2
  simp only [impl_sealText.f]
  rw [if_pos (by trivial),if_pos (by simp),show rd_T25 [p,q] 0 = p from rfl,show rd_T25 [p,q] 1 = q from rfl,a1,Option.bind_some,if_pos (by omega),if_pos (by simp only [ByteArray.size_append,z40];omega),if_pos (by simp),a2,Option.bind_some,if_pos (by simp only [ByteArray.size_append,z40,z32];omega),if_pos (by simp only [ByteArray.size_append,z40,z32];omega),tx_pair]
 | shut p q hp hq i1 i2 =>
  intro hn
  rw [nodes2] at hn
  have s1:=tx_size hp
  have s2:=tx_size hq
  obtain ⟨K1,h1⟩:=i1 (by omega)
  obtain ⟨K2,h2⟩:=i2 (by omega)
  refine ⟨K1 + K2 + 1,fun k hk=>?_⟩
  obtain ⟨k,rfl⟩:∃ m,k = m + 1:=⟨k - 1,by omega⟩
  have a1:=h1 k (by omega)
  have a2:=h2 k (by omega)
  dsimp only at a1 a2
  simp only [impl_sealText.f]
  rw [if_neg (by decide),if_pos (by trivial),if_pos (by simp),show rd_T25 [p,q] 0 = p from rfl,show rd_T25 [p,q] 1 = q from rfl,a2,Option.bind_some,if_pos (by omega),if_pos (by simp only [ByteArray.size_append,z123];omega),if_pos (by simp),a1,Option.bind_some,if_pos (by simp only [ByteArray.size_append,z123,z125];omega),tx_shut]
theorem implText_ev {x:S25} (h:W25 x):Ev (fun k=>impl_SealText.f k x.f0 x.f1 x.f2) (if sealOk x = true then x.tx else ⟨#[]⟩):=by
 cases hc:sealOk x with
 | false =>
  refine Ev.cb (okImpl_ev h) (f:=fun _=>some ⟨#[]⟩) (fun k hk=>?_) (Ev.to (Ev.now _) (by simp))
  simp only [impl_SealText.f]
  rw [hk,hc,Option.bind_some,if_neg (by simp)]
 | true =>
  obtain ⟨ht,hn⟩:=sealOk_t h hc
  refine Ev.cb (okImpl_ev h) (f:=fun k=>(impl_sealText.f k x.f0 x.f1 x.f2).bind fun t=>some t) (fun k hk=>?_) (Ev.cb (text_ev ht hn) (f:=fun _=>some x.tx) (fun k hk=>?_) (Ev.to (Ev.now _) (by simp)))
  ·simp only [impl_SealText.f]
   rw [hk,hc,Option.bind_some,if_pos (by trivial)]
  ·rw [hk,Option.bind_some]
theorem OkT.part {x:S25} (h:OkT x):∀ y,y ∈ x.f2 → OkT y:=by
 cases h with
 | name b h0 h1=>simp
 | pair p q hp hq=>simpa using ⟨hp,hq⟩
 | shut p q hp hq=>simpa using ⟨hp,hq⟩
end Go.Proofs.YtbcjpdahdecehaaDoor.P
