/- Messages in a map by their texts: what the map holds, and whether a message can be put together of what it holds. No condition. -/
import Derived.Test.YtbcjpdahdecehaaDoorSealTx
import Derived.Maps.OwnSet
import Derived.Maps.RangeWalk
namespace Go.Proofs.YtbcjpdahdecehaaDoor.P
open Go.RowKit Go.Proofs.YtbcjpdahdecehaaDoorW.PrintWords Go.Proofs.YtbcjpdahdecehaaDoorW.PrintLast Go.Proofs.YtbcjpdahdecehaaDoorW.PrintMore
open Go.Maps (Keyed)
set_option linter.unusedVariables false
set_option linter.unusedSimpArgs false
def mv (a b:Int) (A:Option Addr) (n c:Nat):Value:=.agg #[.int .i64 a,.int .i64 b,.slice A n c]
open Classical in
noncomputable def RV (v:Value):Option (DataW Value × List MemPlace):=if ∃ a b A n c,v = mv a b A n c then some (.held v,[]) else none
theorem RV_mk (a b:Int) (A:Option Addr) (n c:Nat):RV (mv a b A n c) = some (.held (mv a b A n c),[]):=if_pos ⟨a,b,A,n,c,rfl⟩
theorem RV_inv {v:Value} {y:DataW Value × List MemPlace} (h:RV v = some y):(∃ a b A n c,v = mv a b A n c)∧y = (.held v,[]):=by
 unfold RV at h
 split at h
 ·rename_i hv
  injection h with h
  exact ⟨hv,h.symm⟩
 ·cases h
theorem lawK:Keyed Tryd.prog 9:=Go.Maps.string_keyed Tryd.underlying9
theorem key_of {s:ByteArray} (hs:s.size ≤ maxLen):keyOf Tryd.prog 9 (.string s) = some (.string s.data.toList):=by
 simp [keyOf,Tryd.underlying9,mapKey,hs]
mutual
def S25.mkb (S:ByteArray → Bool):S25 → Bool
 | ⟨a,b,l⟩=>S (S25.mk a b l).tx || (a != 0 && mkH (mkL S l))
def mkL (S:ByteArray → Bool):List S25 → List Bool
 | []=>[]
 | x :: xs=>S25.mkb S x :: mkL S xs
def mkH:List Bool → Bool
 | [x,y]=>x && y
 | _=>false
end
theorem zeroE (w:World):(zeroValue 25).run Tryd.prog w = .ok (mv 0 0 none 0 0) w:=by kernel_rfl
end Go.Proofs.YtbcjpdahdecehaaDoor.P
