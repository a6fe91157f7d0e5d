/- The reference's texts of messages, and the laws on texts and on what stands in a message, as the program's machine side tells them. No condition. -/
import Derived.Test.YtbcjpdahdecehaaDoorP0
import Derived.Test.YtbcjpdahdecehaaDoorP1
import Derived.Test.YtbcjpdahdecehaaDoorSealTx
import Derived.Test.YtbcjpdahdecehaaDoorTree
namespace Go.Proofs.YtbcjpdahdecehaaDoor.P
open Go.RowKit Go.Proofs.YtbcjpdahdecehaaDoorW.PrintWords Go.Proofs.YtbcjpdahdecehaaDoorW.PrintLast Go.Proofs.YtbcjpdahdecehaaDoorW.PrintMore
set_option linter.unusedVariables false
set_option linter.unusedSimpArgs false
theorem l20Text_ev {x:S25} (h:OkT x):x.nodes ≤ 12 → Ev (fun k=>spec_l20Text.f k x.f0 x.f1 x.f2) x.tx:=by
 induction h with
 | name b h0 h1 =>
  intro _
  rw [tx_name]
  refine ⟨2,fun k hk=>?_⟩
  obtain ⟨k,rfl⟩:∃ m,k = m + 2:=⟨k - 2,by omega⟩
  show spec_l20Text.f (k + 1 + 1) 0 b [] = _
  rw [spec_l20Text.f,if_pos (by trivial),spec_l6Dec.f,if_neg (by omega),if_neg (by omega),if_pos (by omega),Option.bind_some,if_pos (by rw [strOfNums_size];simp)]
 | pair p q hp hq i1 i2 =>
  intro hn
  rw [nodes2] at hn
  have s1:=tx_size hp
  have s2:=tx_size hq
  obtain ⟨K1,h1⟩:=i1 (by omega)
  obtain ⟨K2,h2⟩:=i2 (by omega)
  refine ⟨K1 + K2 + 1,fun k hk=>?_⟩
  obtain ⟨k,rfl⟩:∃ m,k = m + 1:=⟨k - 1,by omega⟩
  have a1:=h1 k (by omega)
  have a2:=h2 k (by omega)
  dsimp only at a1 a2
  simp only [spec_l20Text.f]
  rw [if_neg (by decide),if_pos (by trivial),if_pos (by simp),show rd_T25 [p,q] 0 = p from rfl,show rd_T25 [p,q] 1 = q from rfl,a1,Option.bind_some,if_pos (by omega),if_pos (by simp only [ByteArray.size_append,z40];omega),if_pos (by simp),a2,Option.bind_some,if_pos (by simp only [ByteArray.size_append,z40,z32];omega),if_pos (by simp only [ByteArray.size_append,z40,z32];omega),tx_pair]
 | shut p q hp hq i1 i2 =>
  intro hn
  rw [nodes2] at hn
  have s1:=tx_size hp
  have s2:=tx_size hq
  obtain ⟨K1,h1⟩:=i1 (by omega)
  obtain ⟨K2,h2⟩:=i2 (by omega)
  refine ⟨K1 + K2 + 1,fun k hk=>?_⟩
  obtain ⟨k,rfl⟩:∃ m,k = m + 1:=⟨k - 1,by omega⟩
  have a1:=h1 k (by omega)
  have a2:=h2 k (by omega)
  dsimp only at a1 a2
  simp only [spec_l20Text.f]
  rw [if_neg (by decide),if_neg (by decide),if_pos (by simp),show rd_T25 [p,q] 0 = p from rfl,show rd_T25 [p,q] 1 = q from rfl,a2,Option.bind_some,if_pos (by omega),if_pos (by simp only [ByteArray.size_append,z123];omega),if_pos (by simp),a1,Option.bind_some,if_pos (by simp only [ByteArray.size_append,z123,z125];omega),tx_shut]
theorem OkT.w2 {x:S25} (h:OkT x):x.f2.length ≤ 2:=by
 cases h <;> simp
end Go.Proofs.YtbcjpdahdecehaaDoor.P
