/- The reference's texts of messages, and the laws on texts and on what stands in a message, as the program's machine side tells them. No condition. -/
import Derived.Test.YtbcjpdahdecehaaDoorP0
import Derived.Test.YtbcjpdahdecehaaDoorP1
import Derived.Test.YtbcjpdahdecehaaDoorP3
import Derived.Test.YtbcjpdahdecehaaDoorSealTx
import Derived.Test.YtbcjpdahdecehaaDoorWWords
import Derived.Test.YtbcjpdahdecehaaDoorWLast
import Derived.Test.YtbcjpdahdecehaaDoorWMore
import Derived.Deep.Slices
import Derived.SizedLaws
import Derived.WideShapes
import Derived.Test.YtbcjpdahdecehaaDoorSB
namespace Go.Proofs.YtbcjpdahdecehaaDoor.P
open Go.RowKit Go.Proofs.YtbcjpdahdecehaaDoorW.PrintWords Go.Proofs.YtbcjpdahdecehaaDoorW.PrintLast Go.Proofs.YtbcjpdahdecehaaDoorW.PrintMore
set_option linter.unusedVariables false
set_option linter.unusedSimpArgs false
theorem l20Text_ev {x:S25} (h:OkT x):x.nodes ≤ 12 → Ev (fun k=>spec_l20Text.f k x.f0 x.f1 x.f2) x.tx:=by
 induction h with
 | name b h0 h1 =>
  intro _
  rw [tx_name]
  refine ⟨2,fun k hk=>?_⟩
  obtain ⟨k,rfl⟩:∃ m,k = m + 2:=⟨k - 2,by omega⟩
  show spec_l20Text.f (k + 1 + 1) 0 b [] = _
  rw [spec_l20Text.f,if_pos (by trivial),spec_l6Dec.f,if_neg (by omega),if_neg (by omega),if_pos (by omega),Option.bind_some,if_pos (by rw [strOfNums_size];simp)]
 | pair p q hp hq i1 i2 =>
  intro hn
  rw [nodes2] at hn
  have s1:=tx_size hp
  have s2:=tx_size hq
  obtain ⟨K1,h1⟩:=i1 (by omega)
  obtain ⟨K2,h2⟩:=i2 (by omega)
  refine ⟨K1 + K2 + 1,fun k hk=>?_⟩
  obtain ⟨k,rfl⟩:∃ m,k = m + 1:=⟨k - 1,by omega⟩
  have a1:=h1 k (by omega)
  have a2:=h2 k (by omega)
  dsimp only at a1 a2
  simp only [spec_l20Text.f]
  rw [if_neg (by decide),if_pos (by trivial),if_pos (by simp),show rd_T25 [p,q] 0 = p from rfl,show rd_T25 [p,q] 1 = q from rfl,a1,Option.bind_some,if_pos (by omega),if_pos (by simp only [ByteArray.size_append,z40];omega),if_pos (by simp),a2,Option.bind_some,if_pos (by simp only [ByteArray.size_append,z40,z32];omega),if_pos (by simp only [ByteArray.size_append,z40,z32];omega),tx_pair]
 | shut p q hp hq i1 i2 =>
  intro hn
  rw [nodes2] at hn
  have s1:=tx_size hp
  have s2:=tx_size hq
  obtain ⟨K1,h1⟩:=i1 (by omega)
  obtain ⟨K2,h2⟩:=i2 (by omega)
  refine ⟨K1 + K2 + 1,fun k hk=>?_⟩
  obtain ⟨k,rfl⟩:∃ m,k = m + 1:=⟨k - 1,by omega⟩
  have a1:=h1 k (by omega)
  have a2:=h2 k (by omega)
  dsimp only at a1 a2
  simp only [spec_l20Text.f]
  rw [if_neg (by decide),if_neg (by decide),if_pos (by simp),show rd_T25 [p,q] 0 = p from rfl,show rd_T25 [p,q] 1 = q from rfl,a2,Option.bind_some,if_pos (by omega),if_pos (by simp only [ByteArray.size_append,z123];omega),if_pos (by simp),a1,Option.bind_some,if_pos (by simp only [ByteArray.size_append,z123,z125];omega),tx_shut]
theorem OkT.w2 {x:S25} (h:OkT x):x.f2.length ≤ 2:=by
 cases h <;> simp
theorem specUnder_l {m:S25} (hm:OkT m) (hmn:m.nodes ≤ 12) {x:S25} (h:OkT x):x.nodes ≤ 12 → Ev (fun k=>spec_l20Under.f k m.f0 m.f1 m.f2 x.f0 x.f1 x.f2) (m.un x):=by
 have main:∀ (x:S25),OkT x → x.nodes ≤ 12 → (∀ y,y ∈ x.f2 → Ev (fun k=>spec_l20Under.f k m.f0 m.f1 m.f2 y.f0 y.f1 y.f2) (m.un y)) → Ev (fun k=>spec_l20Under.f k m.f0 m.f1 m.f2 x.f0 x.f1 x.f2) (m.un x):=by
  intro x hx hn ih
  have hl:=hx.w2
  have hu:m.un x = (decide (m.tx.toList = x.tx.toList) || (x.f2.drop 0).any m.un):=by
   obtain ⟨a,b,l⟩:=x
   rw [S25.un,unL_any,List.drop_zero]
  have loop:∀ (d i:Nat),i + d = x.f2.length → Ev (fun k=>spec_l20Under.l0 k i m.f0 m.f1 m.f2 x.f0 x.f1 x.f2) (decide (m.tx.toList = x.tx.toList) || (x.f2.drop i).any m.un):=by
   intro d
   induction d with
   | zero =>
    intro i hi
    obtain ⟨K1,h1⟩:=l20Text_ev hm hmn
    obtain ⟨K2,h2⟩:=l20Text_ev hx hn
    refine ⟨K1 + K2 + 1,fun k hk=>?_⟩
    obtain ⟨k,rfl⟩:∃ m,k = m + 1:=⟨k - 1,by omega⟩
    have a1:=h1 k (by omega)
    have a2:=h2 k (by omega)
    dsimp only at a1 a2
    rw [List.drop_eq_nil_of_le (by omega),List.any_nil,Bool.or_false]
    simp only [spec_l20Under.l0]
    rw [if_neg (by omega),a1,Option.bind_some,a2,Option.bind_some]
    congr 1
    rw [Bool.eq_iff_iff]
    simp
   | succ d ihd =>
    intro i hi
    have hil:i < x.f2.length:=by omega
    have hy:=ih x.f2[i] (List.getElem_mem hil)
    have hw:wrap64 ((i:Int) + 1) = ((i + 1:Nat):Int):=wrap_succ hil (by omega)
    rw [List.drop_eq_getElem_cons hil,List.any_cons]
    cases hc:m.un x.f2[i] with
    | true =>
     refine Ev.sb hy (f:=fun _=>some true) (fun k hk=>?_) (Ev.to (Ev.now _) (by simp))
     simp only [spec_l20Under.l0]
     rw [if_pos (by omega),if_pos (by omega),rd25_nat _ _ hil,hk,hc,Option.bind_some,if_pos (by trivial)]
    | false =>
     refine Ev.sb hy (fun k hk=>?_) (Ev.to (ihd (i + 1) (by omega)) (by simp))
     simp only [spec_l20Under.l0]
     rw [if_pos (by omega),if_pos (by omega),rd25_nat _ _ hil,hk,hc,Option.bind_some,if_neg (by simp),hw]
  rw [hu]
  refine Ev.step (fun k=>?_) (loop x.f2.length 0 (by omega))
  simp only [spec_l20Under.f]
  rfl
 induction h with
 | name b h0 h1=>exact fun hn=>main _ (.name b h0 h1) hn (by simp)
 | pair p q hp hq i1 i2 =>
  intro hn
  have hn':=hn
  rw [nodes2] at hn'
  refine main _ (.pair p q hp hq) hn ?_
  simpa using ⟨i1 (by omega),i2 (by omega)⟩
 | shut p q hp hq i1 i2 =>
  intro hn
  have hn':=hn
  rw [nodes2] at hn'
  refine main _ (.shut p q hp hq) hn ?_
  simpa using ⟨i1 (by omega),i2 (by omega)⟩
theorem specUnder_ev {m x:S25} (hm:W25 m) (h:W25 x):Ev (fun k=>spec_SealUnder.f k m.f0 m.f1 m.f2 x.f0 x.f1 x.f2) (sealOk m && (sealOk x && m.un x)):=by
 cases c1:sealOk m with
 | false =>
  refine Ev.cb (specOk_ev hm) (f:=fun _=>some false) (fun k hk=>?_) (Ev.to (Ev.now _) (by simp))
  simp only [spec_SealUnder.f]
  rw [hk,c1,Option.bind_some,if_neg (by simp)]
 | true =>
  cases c2:sealOk x with
  | false =>
   refine Ev.cb (specOk_ev hm) (f:=fun k=>(spec_SealOk.f k x.f0 x.f1 x.f2).bind fun t200=>(if t200 = true then ((spec_l20Under.f k m.f0 m.f1 m.f2 x.f0 x.f1 x.f2).bind fun t201=>(some t201)) else (some false))) (fun k hk=>?_) (Ev.cb (specOk_ev h) (f:=fun _=>some false) (fun k hk=>?_) (Ev.to (Ev.now _) (by simp)))
   ·simp only [spec_SealUnder.f]
    rw [hk,c1,Option.bind_some,if_pos (by trivial)]
   ·rw [hk,c2,Option.bind_some,if_neg (by simp)]
  | true =>
   obtain ⟨t1,n1⟩:=sealOk_t hm c1
   obtain ⟨t2,n2⟩:=sealOk_t h c2
   refine Ev.cb (specOk_ev hm) (f:=fun k=>(spec_SealOk.f k x.f0 x.f1 x.f2).bind fun t200=>(if t200 = true then ((spec_l20Under.f k m.f0 m.f1 m.f2 x.f0 x.f1 x.f2).bind fun t201=>(some t201)) else (some false))) (fun k hk=>?_) (Ev.cb (specOk_ev h) (f:=fun k=>(spec_l20Under.f k m.f0 m.f1 m.f2 x.f0 x.f1 x.f2).bind fun t201=>(some t201)) (fun k hk=>?_) (Ev.cb (specUnder_l t1 n1 t2 n2) (f:=fun _=>some (m.un x)) (fun k hk=>?_) (Ev.to (Ev.now _) (by simp))))
   ·simp only [spec_SealUnder.f]
    rw [hk,c1,Option.bind_some,if_pos (by trivial)]
   ·rw [hk,c2,Option.bind_some,if_pos (by trivial)]
   ·rw [hk,Option.bind_some]
end Go.Proofs.YtbcjpdahdecehaaDoor.P
