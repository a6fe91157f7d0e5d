/- strconv.Itoa of a number of one digit. No condition. -/
import Derived.Test.YtbcjpdahdecehaaDoorP0
namespace Go.Proofs.YtbcjpdahdecehaaDoor.P
open Go.RowKit Go.Proofs.YtbcjpdahdecehaaDoorW.PrintWords Go.Proofs.YtbcjpdahdecehaaDoorW.PrintLast Go.Proofs.YtbcjpdahdecehaaDoorW.PrintMore
set_option linter.unusedVariables false
set_option linter.unusedSimpArgs false
def strconv_Itoa_59.f (a0:Int):Option ByteArray:=if 0 ≤ a0 then (if a0 < 10 then some (strOfNums [(wrap64 (48 + a0)) % 256]) else none) else none
set_option maxHeartbeats 8000000 in
set_option maxRecDepth 100000 in
theorem strconv_Itoa_59.calls (a0:Int) (r:ByteArray) (w:World) (h:strconv_Itoa_59.f a0 = some r) :
  Calls Tryd.prog 59 #[.int .i64 a0] w fun e w'=>e = .returned (.string r)∧Below w.heap.size w w':=by
 unfold strconv_Itoa_59.f at h
 split at h
 ·rename_i h0
  split at h
  ·rename_i h1
   obtain rfl:=Option.some.inj h
   have hc:a0 = 0 ∨ a0 = 1 ∨ a0 = 2 ∨ a0 = 3 ∨ a0 = 4 ∨ a0 = 5 ∨ a0 = 6 ∨ a0 = 7 ∨ a0 = 8 ∨ a0 = 9:=by omega
   clear h h0 h1
   rcases hc with rfl | rfl | rfl | rfl | rfl | rfl | rfl | rfl | rfl | rfl <;> (
    go_enter Tryd.func59,Tryd.ntmps59
    go_wp2
    go_ret
    exact ⟨by kernel_rfl,Below.refl _ _⟩)
  ·cases h
 ·cases h
end Go.Proofs.YtbcjpdahdecehaaDoor.P
