/-
  No cell of these rows narrows 'for every input' (looked for: loops, veiled, ifaces, maps, wideKeys, modest, calm, conditions, laid).
  DERIVED. THE GIVEN ROWS OF THIS SEAT. 15 by the template 'for every input the law returns true; each argument reads behind the call as it read before'; 0 by the template 'total and deterministic' (their statements: YthljlnkanllpnaaTotals.lean).
  GIVEN WITH THE SEED: the statements are not yours to turn. If you find one false, say at which input.
  Laid BY PROGRAM, IN A SANDBOX (cutbox-rows.mjs): the forced cells as the released guide's own fill.sh prints them over the translation 455f0a189024dc28… (all of the seat's roots in one cut). By AI agents, Wed Nov 11 2026. No macro, syntax, notation, axiom, sorry.
-/
import Derived.Test.YthljlnkanllpnaaChecked
import GoSem.Claim
import GoSem.ClaimJoined
import GoSem.ClaimMapViews
import Derived.JoinedTies
import Derived.KernelRfl
namespace Go.Proofs.Ythljlnkanllpnaa
/- THE CELL 'sum', in the pinned program and in every row, IS THE sha256 OF THE DUMP (.gsa) THAT YthljlnkanllpnaaProg.lean LOADS. Nothing in Lean hashes anything: it is a label: what it is worth is what the hold of that sum in a sandbox is worth. -/
noncomputable def Try.pinned : Pinned := { name := "ythljlnkanllpnaa", sum := "455f0a189024dc2806a6688ef317fa23aab697e4df0a6e0a7bbaa7e8e2ff5309", checked := Try.checked }
namespace Rows
def none {H : Type} : Left H := { results := [], args := [] }

/-- 'laws.FnHistoryAt': WHATEVER THE INPUT: true; the input reads as it did. -/
def fnHistoryAtSpec : ChangeSpec := { name := "fnHistoryAt", fn := fun _ => fun
  | [d] => { results := [.lit (.bool true)], args := [d] }
  | _ => none }
def fnHistoryAtRow : OpenClaim := { program := "ythljlnkanllpnaa", sum := "455f0a189024dc2806a6688ef317fa23aab697e4df0a6e0a7bbaa7e8e2ff5309", func := "loop.example/mobilenames/laws.FnHistoryAt", spec := "fnHistoryAt", unfollowed := true, recurses := true, apart := false }
def FnHistoryAtSaid : Prop := fnHistoryAtRow.holds Try.pinned (OpenSpec.ofChange fnHistoryAtSpec)

/-- ITS FALSE NEIGHBOUR: 'it returns false'. Refute it at one input. -/
def fnHistoryAtWrong : ChangeSpec := { name := "fnHistoryAt", fn := fun _ => fun
  | [d] => { results := [.lit (.bool false)], args := [d] }
  | _ => none }
def FnHistoryAtWrongFalsely : Prop := fnHistoryAtRow.holds Try.pinned (OpenSpec.ofChange fnHistoryAtWrong)

/-- 'laws.FnExactHistoryOk': WHATEVER THE INPUT: true; the input reads as it did. -/
def fnExactHistoryOkSpec : ChangeSpec := { name := "fnExactHistoryOk", fn := fun _ => fun
  | [d1, d2] => { results := [.lit (.bool true)], args := [d1, d2] }
  | _ => none }
def fnExactHistoryOkRow : OpenClaim := { program := "ythljlnkanllpnaa", sum := "455f0a189024dc2806a6688ef317fa23aab697e4df0a6e0a7bbaa7e8e2ff5309", func := "loop.example/mobilenames/laws.FnExactHistoryOk", spec := "fnExactHistoryOk", unfollowed := true, recurses := true, apart := false }
def FnExactHistoryOkSaid : Prop := fnExactHistoryOkRow.holds Try.pinned (OpenSpec.ofChange fnExactHistoryOkSpec)

/-- ITS FALSE NEIGHBOUR: 'it returns false'. Refute it at one input. -/
def fnExactHistoryOkWrong : ChangeSpec := { name := "fnExactHistoryOk", fn := fun _ => fun
  | [d1, d2] => { results := [.lit (.bool false)], args := [d1, d2] }
  | _ => none }
def FnExactHistoryOkWrongFalsely : Prop := fnExactHistoryOkRow.holds Try.pinned (OpenSpec.ofChange fnExactHistoryOkWrong)

/-- 'laws.FnHistoryOk': WHATEVER THE INPUT: true; the input reads as it did. -/
def fnHistoryOkSpec : ChangeSpec := { name := "fnHistoryOk", fn := fun _ => fun
  | [d] => { results := [.lit (.bool true)], args := [d] }
  | _ => none }
def fnHistoryOkRow : OpenClaim := { program := "ythljlnkanllpnaa", sum := "455f0a189024dc2806a6688ef317fa23aab697e4df0a6e0a7bbaa7e8e2ff5309", func := "loop.example/mobilenames/laws.FnHistoryOk", spec := "fnHistoryOk", unfollowed := true, recurses := true, apart := false }
def FnHistoryOkSaid : Prop := fnHistoryOkRow.holds Try.pinned (OpenSpec.ofChange fnHistoryOkSpec)

/-- ITS FALSE NEIGHBOUR: 'it returns false'. Refute it at one input. -/
def fnHistoryOkWrong : ChangeSpec := { name := "fnHistoryOk", fn := fun _ => fun
  | [d] => { results := [.lit (.bool false)], args := [d] }
  | _ => none }
def FnHistoryOkWrongFalsely : Prop := fnHistoryOkRow.holds Try.pinned (OpenSpec.ofChange fnHistoryOkWrong)

/-- 'laws.FnHistoryMay': WHATEVER THE INPUT: true; the input reads as it did. -/
def fnHistoryMaySpec : ChangeSpec := { name := "fnHistoryMay", fn := fun _ => fun
  | [d] => { results := [.lit (.bool true)], args := [d] }
  | _ => none }
def fnHistoryMayRow : OpenClaim := { program := "ythljlnkanllpnaa", sum := "455f0a189024dc2806a6688ef317fa23aab697e4df0a6e0a7bbaa7e8e2ff5309", func := "loop.example/mobilenames/laws.FnHistoryMay", spec := "fnHistoryMay", unfollowed := true, recurses := true, apart := false }
def FnHistoryMaySaid : Prop := fnHistoryMayRow.holds Try.pinned (OpenSpec.ofChange fnHistoryMaySpec)

/-- ITS FALSE NEIGHBOUR: 'it returns false'. Refute it at one input. -/
def fnHistoryMayWrong : ChangeSpec := { name := "fnHistoryMay", fn := fun _ => fun
  | [d] => { results := [.lit (.bool false)], args := [d] }
  | _ => none }
def FnHistoryMayWrongFalsely : Prop := fnHistoryMayRow.holds Try.pinned (OpenSpec.ofChange fnHistoryMayWrong)

/-- 'laws.FnExactHistoryAt': WHATEVER THE INPUT: true; the input reads as it did. -/
def fnExactHistoryAtSpec : ChangeSpec := { name := "fnExactHistoryAt", fn := fun _ => fun
  | [d1, d2] => { results := [.lit (.bool true)], args := [d1, d2] }
  | _ => none }
def fnExactHistoryAtRow : OpenClaim := { program := "ythljlnkanllpnaa", sum := "455f0a189024dc2806a6688ef317fa23aab697e4df0a6e0a7bbaa7e8e2ff5309", func := "loop.example/mobilenames/laws.FnExactHistoryAt", spec := "fnExactHistoryAt", unfollowed := true, recurses := true, apart := false }
def FnExactHistoryAtSaid : Prop := fnExactHistoryAtRow.holds Try.pinned (OpenSpec.ofChange fnExactHistoryAtSpec)

/-- ITS FALSE NEIGHBOUR: 'it returns false'. Refute it at one input. -/
def fnExactHistoryAtWrong : ChangeSpec := { name := "fnExactHistoryAt", fn := fun _ => fun
  | [d1, d2] => { results := [.lit (.bool false)], args := [d1, d2] }
  | _ => none }
def FnExactHistoryAtWrongFalsely : Prop := fnExactHistoryAtRow.holds Try.pinned (OpenSpec.ofChange fnExactHistoryAtWrong)

/-- 'laws.FnUndoAny': WHATEVER THE INPUT: true; the input reads as it did. -/
def fnUndoAnySpec : ChangeSpec := { name := "fnUndoAny", fn := fun _ => fun
  | [d] => { results := [.lit (.bool true)], args := [d] }
  | _ => none }
def fnUndoAnyRow : OpenClaim := { program := "ythljlnkanllpnaa", sum := "455f0a189024dc2806a6688ef317fa23aab697e4df0a6e0a7bbaa7e8e2ff5309", func := "loop.example/mobilenames/laws.FnUndoAny", spec := "fnUndoAny", unfollowed := true, recurses := true, apart := false }
def FnUndoAnySaid : Prop := fnUndoAnyRow.holds Try.pinned (OpenSpec.ofChange fnUndoAnySpec)

/-- ITS FALSE NEIGHBOUR: 'it returns false'. Refute it at one input. -/
def fnUndoAnyWrong : ChangeSpec := { name := "fnUndoAny", fn := fun _ => fun
  | [d] => { results := [.lit (.bool false)], args := [d] }
  | _ => none }
def FnUndoAnyWrongFalsely : Prop := fnUndoAnyRow.holds Try.pinned (OpenSpec.ofChange fnUndoAnyWrong)

/-- 'laws.FnExactHistoryMay': WHATEVER THE INPUT: true; the input reads as it did. -/
def fnExactHistoryMaySpec : ChangeSpec := { name := "fnExactHistoryMay", fn := fun _ => fun
  | [d1, d2] => { results := [.lit (.bool true)], args := [d1, d2] }
  | _ => none }
def fnExactHistoryMayRow : OpenClaim := { program := "ythljlnkanllpnaa", sum := "455f0a189024dc2806a6688ef317fa23aab697e4df0a6e0a7bbaa7e8e2ff5309", func := "loop.example/mobilenames/laws.FnExactHistoryMay", spec := "fnExactHistoryMay", unfollowed := true, recurses := true, apart := false }
def FnExactHistoryMaySaid : Prop := fnExactHistoryMayRow.holds Try.pinned (OpenSpec.ofChange fnExactHistoryMaySpec)

/-- ITS FALSE NEIGHBOUR: 'it returns false'. Refute it at one input. -/
def fnExactHistoryMayWrong : ChangeSpec := { name := "fnExactHistoryMay", fn := fun _ => fun
  | [d1, d2] => { results := [.lit (.bool false)], args := [d1, d2] }
  | _ => none }
def FnExactHistoryMayWrongFalsely : Prop := fnExactHistoryMayRow.holds Try.pinned (OpenSpec.ofChange fnExactHistoryMayWrong)

/-- 'laws.FnExactHistorySame': WHATEVER THE INPUT: true; the input reads as it did. -/
def fnExactHistorySameSpec : ChangeSpec := { name := "fnExactHistorySame", fn := fun _ => fun
  | [d1, d2, d3] => { results := [.lit (.bool true)], args := [d1, d2, d3] }
  | _ => none }
def fnExactHistorySameRow : OpenClaim := { program := "ythljlnkanllpnaa", sum := "455f0a189024dc2806a6688ef317fa23aab697e4df0a6e0a7bbaa7e8e2ff5309", func := "loop.example/mobilenames/laws.FnExactHistorySame", spec := "fnExactHistorySame", unfollowed := true, recurses := true, apart := false }
def FnExactHistorySameSaid : Prop := fnExactHistorySameRow.holds Try.pinned (OpenSpec.ofChange fnExactHistorySameSpec)

/-- ITS FALSE NEIGHBOUR: 'it returns false'. Refute it at one input. -/
def fnExactHistorySameWrong : ChangeSpec := { name := "fnExactHistorySame", fn := fun _ => fun
  | [d1, d2, d3] => { results := [.lit (.bool false)], args := [d1, d2, d3] }
  | _ => none }
def FnExactHistorySameWrongFalsely : Prop := fnExactHistorySameRow.holds Try.pinned (OpenSpec.ofChange fnExactHistorySameWrong)

/-- 'laws.FnHistoryBack': WHATEVER THE INPUT: true; the input reads as it did. -/
def fnHistoryBackSpec : ChangeSpec := { name := "fnHistoryBack", fn := fun _ => fun
  | [d] => { results := [.lit (.bool true)], args := [d] }
  | _ => none }
def fnHistoryBackRow : OpenClaim := { program := "ythljlnkanllpnaa", sum := "455f0a189024dc2806a6688ef317fa23aab697e4df0a6e0a7bbaa7e8e2ff5309", func := "loop.example/mobilenames/laws.FnHistoryBack", spec := "fnHistoryBack", unfollowed := true, recurses := true, apart := false }
def FnHistoryBackSaid : Prop := fnHistoryBackRow.holds Try.pinned (OpenSpec.ofChange fnHistoryBackSpec)

/-- ITS FALSE NEIGHBOUR: 'it returns false'. Refute it at one input. -/
def fnHistoryBackWrong : ChangeSpec := { name := "fnHistoryBack", fn := fun _ => fun
  | [d] => { results := [.lit (.bool false)], args := [d] }
  | _ => none }
def FnHistoryBackWrongFalsely : Prop := fnHistoryBackRow.holds Try.pinned (OpenSpec.ofChange fnHistoryBackWrong)

/-- 'laws.FnExactHistoryUndo': WHATEVER THE INPUT: true; the input reads as it did. -/
def fnExactHistoryUndoSpec : ChangeSpec := { name := "fnExactHistoryUndo", fn := fun _ => fun
  | [d1, d2, d3] => { results := [.lit (.bool true)], args := [d1, d2, d3] }
  | _ => none }
def fnExactHistoryUndoRow : OpenClaim := { program := "ythljlnkanllpnaa", sum := "455f0a189024dc2806a6688ef317fa23aab697e4df0a6e0a7bbaa7e8e2ff5309", func := "loop.example/mobilenames/laws.FnExactHistoryUndo", spec := "fnExactHistoryUndo", unfollowed := true, recurses := true, apart := false }
def FnExactHistoryUndoSaid : Prop := fnExactHistoryUndoRow.holds Try.pinned (OpenSpec.ofChange fnExactHistoryUndoSpec)

/-- ITS FALSE NEIGHBOUR: 'it returns false'. Refute it at one input. -/
def fnExactHistoryUndoWrong : ChangeSpec := { name := "fnExactHistoryUndo", fn := fun _ => fun
  | [d1, d2, d3] => { results := [.lit (.bool false)], args := [d1, d2, d3] }
  | _ => none }
def FnExactHistoryUndoWrongFalsely : Prop := fnExactHistoryUndoRow.holds Try.pinned (OpenSpec.ofChange fnExactHistoryUndoWrong)

/-- 'laws.FnHistoryUndo': WHATEVER THE INPUT: true; the input reads as it did. -/
def fnHistoryUndoSpec : ChangeSpec := { name := "fnHistoryUndo", fn := fun _ => fun
  | [d] => { results := [.lit (.bool true)], args := [d] }
  | _ => none }
def fnHistoryUndoRow : OpenClaim := { program := "ythljlnkanllpnaa", sum := "455f0a189024dc2806a6688ef317fa23aab697e4df0a6e0a7bbaa7e8e2ff5309", func := "loop.example/mobilenames/laws.FnHistoryUndo", spec := "fnHistoryUndo", unfollowed := true, recurses := true, apart := false }
def FnHistoryUndoSaid : Prop := fnHistoryUndoRow.holds Try.pinned (OpenSpec.ofChange fnHistoryUndoSpec)

/-- ITS FALSE NEIGHBOUR: 'it returns false'. Refute it at one input. -/
def fnHistoryUndoWrong : ChangeSpec := { name := "fnHistoryUndo", fn := fun _ => fun
  | [d] => { results := [.lit (.bool false)], args := [d] }
  | _ => none }
def FnHistoryUndoWrongFalsely : Prop := fnHistoryUndoRow.holds Try.pinned (OpenSpec.ofChange fnHistoryUndoWrong)

/-- 'laws.FnHistoryWhole': WHATEVER THE INPUT: true; the input reads as it did. -/
def fnHistoryWholeSpec : ChangeSpec := { name := "fnHistoryWhole", fn := fun _ => fun
  | [d1, d2, d3, d4] => { results := [.lit (.bool true)], args := [d1, d2, d3, d4] }
  | _ => none }
def fnHistoryWholeRow : OpenClaim := { program := "ythljlnkanllpnaa", sum := "455f0a189024dc2806a6688ef317fa23aab697e4df0a6e0a7bbaa7e8e2ff5309", func := "loop.example/mobilenames/laws.FnHistoryWhole", spec := "fnHistoryWhole", unfollowed := true, recurses := true, apart := false }
def FnHistoryWholeSaid : Prop := fnHistoryWholeRow.holds Try.pinned (OpenSpec.ofChange fnHistoryWholeSpec)

/-- ITS FALSE NEIGHBOUR: 'it returns false'. Refute it at one input. -/
def fnHistoryWholeWrong : ChangeSpec := { name := "fnHistoryWhole", fn := fun _ => fun
  | [d1, d2, d3, d4] => { results := [.lit (.bool false)], args := [d1, d2, d3, d4] }
  | _ => none }
def FnHistoryWholeWrongFalsely : Prop := fnHistoryWholeRow.holds Try.pinned (OpenSpec.ofChange fnHistoryWholeWrong)

/-- 'laws.FnExactHistoryBack': WHATEVER THE INPUT: true; the input reads as it did. -/
def fnExactHistoryBackSpec : ChangeSpec := { name := "fnExactHistoryBack", fn := fun _ => fun
  | [d1, d2, d3, d4] => { results := [.lit (.bool true)], args := [d1, d2, d3, d4] }
  | _ => none }
def fnExactHistoryBackRow : OpenClaim := { program := "ythljlnkanllpnaa", sum := "455f0a189024dc2806a6688ef317fa23aab697e4df0a6e0a7bbaa7e8e2ff5309", func := "loop.example/mobilenames/laws.FnExactHistoryBack", spec := "fnExactHistoryBack", unfollowed := true, recurses := true, apart := false }
def FnExactHistoryBackSaid : Prop := fnExactHistoryBackRow.holds Try.pinned (OpenSpec.ofChange fnExactHistoryBackSpec)

/-- ITS FALSE NEIGHBOUR: 'it returns false'. Refute it at one input. -/
def fnExactHistoryBackWrong : ChangeSpec := { name := "fnExactHistoryBack", fn := fun _ => fun
  | [d1, d2, d3, d4] => { results := [.lit (.bool false)], args := [d1, d2, d3, d4] }
  | _ => none }
def FnExactHistoryBackWrongFalsely : Prop := fnExactHistoryBackRow.holds Try.pinned (OpenSpec.ofChange fnExactHistoryBackWrong)

/-- 'laws.FnHistorySame': WHATEVER THE INPUT: true; the input reads as it did. -/
def fnHistorySameSpec : ChangeSpec := { name := "fnHistorySame", fn := fun _ => fun
  | [d] => { results := [.lit (.bool true)], args := [d] }
  | _ => none }
def fnHistorySameRow : OpenClaim := { program := "ythljlnkanllpnaa", sum := "455f0a189024dc2806a6688ef317fa23aab697e4df0a6e0a7bbaa7e8e2ff5309", func := "loop.example/mobilenames/laws.FnHistorySame", spec := "fnHistorySame", unfollowed := true, recurses := true, apart := false }
def FnHistorySameSaid : Prop := fnHistorySameRow.holds Try.pinned (OpenSpec.ofChange fnHistorySameSpec)

/-- ITS FALSE NEIGHBOUR: 'it returns false'. Refute it at one input. -/
def fnHistorySameWrong : ChangeSpec := { name := "fnHistorySame", fn := fun _ => fun
  | [d] => { results := [.lit (.bool false)], args := [d] }
  | _ => none }
def FnHistorySameWrongFalsely : Prop := fnHistorySameRow.holds Try.pinned (OpenSpec.ofChange fnHistorySameWrong)

/-- 'laws.FnBackSame': WHATEVER THE INPUT: true; the input reads as it did. -/
def fnBackSameSpec : ChangeSpec := { name := "fnBackSame", fn := fun _ => fun
  | [d] => { results := [.lit (.bool true)], args := [d] }
  | _ => none }
def fnBackSameRow : OpenClaim := { program := "ythljlnkanllpnaa", sum := "455f0a189024dc2806a6688ef317fa23aab697e4df0a6e0a7bbaa7e8e2ff5309", func := "loop.example/mobilenames/laws.FnBackSame", spec := "fnBackSame", unfollowed := true, recurses := true, apart := false }
def FnBackSameSaid : Prop := fnBackSameRow.holds Try.pinned (OpenSpec.ofChange fnBackSameSpec)

/-- ITS FALSE NEIGHBOUR: 'it returns false'. Refute it at one input. -/
def fnBackSameWrong : ChangeSpec := { name := "fnBackSame", fn := fun _ => fun
  | [d] => { results := [.lit (.bool false)], args := [d] }
  | _ => none }
def FnBackSameWrongFalsely : Prop := fnBackSameRow.holds Try.pinned (OpenSpec.ofChange fnBackSameWrong)

/- THE SECOND FORM. 'bulk': how many values and letters a reading holds, each counted each time it is reached (what is shared counts as often as it is met; a slice's spare places count too). A statement '..UptoSaid' is the law's where the arguments, and the package variables that the reading takes, are together of bulk at most 1048576: NARROWER than '..Said'. Prove '..Said' where nothing that the law and all that it calls make is longer than what came in: it says more and counts as full. Else prove '..UptoSaid'. A law counts once. -/
mutual
def uptoBulk {H : Type} : DataW H → Nat
  | .lit (.string bytes) => bytes.length + 1
  | .lit _ => 1
  | .nil => 1
  | .ptr d => uptoBulk d + 1
  | .slice elems spare => uptoBulkAll elems + uptoBulkAll spare + 1
  | .agg parts => uptoBulkAll parts + 1
  | .iface _ d => uptoBulk d + 1
  | .map entries => uptoBulkEntries entries + 1
  | .held _ => 1
def uptoBulkAll {H : Type} : List (DataW H) → Nat
  | [] => 0
  | d :: r => uptoBulk d + uptoBulkAll r
def uptoBulkEntries {H : Type} : List (Lit × DataW H) → Nat
  | [] => 0
  | x :: r => uptoBulkEntry x + uptoBulkEntries r
def uptoBulkEntry {H : Type} : Lit × DataW H → Nat
  | (.string bytes, d) => bytes.length + uptoBulk d + 1
  | (_, d) => uptoBulk d + 1
 end
def uptoSmall : (H : Type) → List (DataW H) → Bool := fun _ ds => decide (uptoBulkAll ds ≤ 1048576)
def OpenSpec.upto (s : _root_.Go.ChangeSpec) : _root_.Go.OpenSpec := { _root_.Go.OpenSpec.ofChange s with cond := some uptoSmall }

/-- 'laws.FnHistoryAt', WHERE WHAT IT READS IS OF BULK AT MOST 1048576: true; the input reads as it did. -/
def fnHistoryAtUptoRow : OpenClaim := { program := "ythljlnkanllpnaa", sum := "455f0a189024dc2806a6688ef317fa23aab697e4df0a6e0a7bbaa7e8e2ff5309", func := "loop.example/mobilenames/laws.FnHistoryAt", spec := "fnHistoryAt", unfollowed := true, recurses := true, apart := false, narrowed := true }
def FnHistoryAtUptoSaid : Prop := fnHistoryAtUptoRow.holds Try.pinned (OpenSpec.upto fnHistoryAtSpec)

/-- 'laws.FnExactHistoryOk', WHERE WHAT IT READS IS OF BULK AT MOST 1048576: true; the input reads as it did. -/
def fnExactHistoryOkUptoRow : OpenClaim := { program := "ythljlnkanllpnaa", sum := "455f0a189024dc2806a6688ef317fa23aab697e4df0a6e0a7bbaa7e8e2ff5309", func := "loop.example/mobilenames/laws.FnExactHistoryOk", spec := "fnExactHistoryOk", unfollowed := true, recurses := true, apart := false, narrowed := true }
def FnExactHistoryOkUptoSaid : Prop := fnExactHistoryOkUptoRow.holds Try.pinned (OpenSpec.upto fnExactHistoryOkSpec)

/-- 'laws.FnHistoryOk', WHERE WHAT IT READS IS OF BULK AT MOST 1048576: true; the input reads as it did. -/
def fnHistoryOkUptoRow : OpenClaim := { program := "ythljlnkanllpnaa", sum := "455f0a189024dc2806a6688ef317fa23aab697e4df0a6e0a7bbaa7e8e2ff5309", func := "loop.example/mobilenames/laws.FnHistoryOk", spec := "fnHistoryOk", unfollowed := true, recurses := true, apart := false, narrowed := true }
def FnHistoryOkUptoSaid : Prop := fnHistoryOkUptoRow.holds Try.pinned (OpenSpec.upto fnHistoryOkSpec)

/-- 'laws.FnHistoryMay', WHERE WHAT IT READS IS OF BULK AT MOST 1048576: true; the input reads as it did. -/
def fnHistoryMayUptoRow : OpenClaim := { program := "ythljlnkanllpnaa", sum := "455f0a189024dc2806a6688ef317fa23aab697e4df0a6e0a7bbaa7e8e2ff5309", func := "loop.example/mobilenames/laws.FnHistoryMay", spec := "fnHistoryMay", unfollowed := true, recurses := true, apart := false, narrowed := true }
def FnHistoryMayUptoSaid : Prop := fnHistoryMayUptoRow.holds Try.pinned (OpenSpec.upto fnHistoryMaySpec)

/-- 'laws.FnExactHistoryAt', WHERE WHAT IT READS IS OF BULK AT MOST 1048576: true; the input reads as it did. -/
def fnExactHistoryAtUptoRow : OpenClaim := { program := "ythljlnkanllpnaa", sum := "455f0a189024dc2806a6688ef317fa23aab697e4df0a6e0a7bbaa7e8e2ff5309", func := "loop.example/mobilenames/laws.FnExactHistoryAt", spec := "fnExactHistoryAt", unfollowed := true, recurses := true, apart := false, narrowed := true }
def FnExactHistoryAtUptoSaid : Prop := fnExactHistoryAtUptoRow.holds Try.pinned (OpenSpec.upto fnExactHistoryAtSpec)

/-- 'laws.FnUndoAny', WHERE WHAT IT READS IS OF BULK AT MOST 1048576: true; the input reads as it did. -/
def fnUndoAnyUptoRow : OpenClaim := { program := "ythljlnkanllpnaa", sum := "455f0a189024dc2806a6688ef317fa23aab697e4df0a6e0a7bbaa7e8e2ff5309", func := "loop.example/mobilenames/laws.FnUndoAny", spec := "fnUndoAny", unfollowed := true, recurses := true, apart := false, narrowed := true }
def FnUndoAnyUptoSaid : Prop := fnUndoAnyUptoRow.holds Try.pinned (OpenSpec.upto fnUndoAnySpec)

/-- 'laws.FnExactHistoryMay', WHERE WHAT IT READS IS OF BULK AT MOST 1048576: true; the input reads as it did. -/
def fnExactHistoryMayUptoRow : OpenClaim := { program := "ythljlnkanllpnaa", sum := "455f0a189024dc2806a6688ef317fa23aab697e4df0a6e0a7bbaa7e8e2ff5309", func := "loop.example/mobilenames/laws.FnExactHistoryMay", spec := "fnExactHistoryMay", unfollowed := true, recurses := true, apart := false, narrowed := true }
def FnExactHistoryMayUptoSaid : Prop := fnExactHistoryMayUptoRow.holds Try.pinned (OpenSpec.upto fnExactHistoryMaySpec)

/-- 'laws.FnExactHistorySame', WHERE WHAT IT READS IS OF BULK AT MOST 1048576: true; the input reads as it did. -/
def fnExactHistorySameUptoRow : OpenClaim := { program := "ythljlnkanllpnaa", sum := "455f0a189024dc2806a6688ef317fa23aab697e4df0a6e0a7bbaa7e8e2ff5309", func := "loop.example/mobilenames/laws.FnExactHistorySame", spec := "fnExactHistorySame", unfollowed := true, recurses := true, apart := false, narrowed := true }
def FnExactHistorySameUptoSaid : Prop := fnExactHistorySameUptoRow.holds Try.pinned (OpenSpec.upto fnExactHistorySameSpec)

/-- 'laws.FnHistoryBack', WHERE WHAT IT READS IS OF BULK AT MOST 1048576: true; the input reads as it did. -/
def fnHistoryBackUptoRow : OpenClaim := { program := "ythljlnkanllpnaa", sum := "455f0a189024dc2806a6688ef317fa23aab697e4df0a6e0a7bbaa7e8e2ff5309", func := "loop.example/mobilenames/laws.FnHistoryBack", spec := "fnHistoryBack", unfollowed := true, recurses := true, apart := false, narrowed := true }
def FnHistoryBackUptoSaid : Prop := fnHistoryBackUptoRow.holds Try.pinned (OpenSpec.upto fnHistoryBackSpec)

/-- 'laws.FnExactHistoryUndo', WHERE WHAT IT READS IS OF BULK AT MOST 1048576: true; the input reads as it did. -/
def fnExactHistoryUndoUptoRow : OpenClaim := { program := "ythljlnkanllpnaa", sum := "455f0a189024dc2806a6688ef317fa23aab697e4df0a6e0a7bbaa7e8e2ff5309", func := "loop.example/mobilenames/laws.FnExactHistoryUndo", spec := "fnExactHistoryUndo", unfollowed := true, recurses := true, apart := false, narrowed := true }
def FnExactHistoryUndoUptoSaid : Prop := fnExactHistoryUndoUptoRow.holds Try.pinned (OpenSpec.upto fnExactHistoryUndoSpec)

/-- 'laws.FnHistoryUndo', WHERE WHAT IT READS IS OF BULK AT MOST 1048576: true; the input reads as it did. -/
def fnHistoryUndoUptoRow : OpenClaim := { program := "ythljlnkanllpnaa", sum := "455f0a189024dc2806a6688ef317fa23aab697e4df0a6e0a7bbaa7e8e2ff5309", func := "loop.example/mobilenames/laws.FnHistoryUndo", spec := "fnHistoryUndo", unfollowed := true, recurses := true, apart := false, narrowed := true }
def FnHistoryUndoUptoSaid : Prop := fnHistoryUndoUptoRow.holds Try.pinned (OpenSpec.upto fnHistoryUndoSpec)

/-- 'laws.FnHistoryWhole', WHERE WHAT IT READS IS OF BULK AT MOST 1048576: true; the input reads as it did. -/
def fnHistoryWholeUptoRow : OpenClaim := { program := "ythljlnkanllpnaa", sum := "455f0a189024dc2806a6688ef317fa23aab697e4df0a6e0a7bbaa7e8e2ff5309", func := "loop.example/mobilenames/laws.FnHistoryWhole", spec := "fnHistoryWhole", unfollowed := true, recurses := true, apart := false, narrowed := true }
def FnHistoryWholeUptoSaid : Prop := fnHistoryWholeUptoRow.holds Try.pinned (OpenSpec.upto fnHistoryWholeSpec)

/-- 'laws.FnExactHistoryBack', WHERE WHAT IT READS IS OF BULK AT MOST 1048576: true; the input reads as it did. -/
def fnExactHistoryBackUptoRow : OpenClaim := { program := "ythljlnkanllpnaa", sum := "455f0a189024dc2806a6688ef317fa23aab697e4df0a6e0a7bbaa7e8e2ff5309", func := "loop.example/mobilenames/laws.FnExactHistoryBack", spec := "fnExactHistoryBack", unfollowed := true, recurses := true, apart := false, narrowed := true }
def FnExactHistoryBackUptoSaid : Prop := fnExactHistoryBackUptoRow.holds Try.pinned (OpenSpec.upto fnExactHistoryBackSpec)

/-- 'laws.FnHistorySame', WHERE WHAT IT READS IS OF BULK AT MOST 1048576: true; the input reads as it did. -/
def fnHistorySameUptoRow : OpenClaim := { program := "ythljlnkanllpnaa", sum := "455f0a189024dc2806a6688ef317fa23aab697e4df0a6e0a7bbaa7e8e2ff5309", func := "loop.example/mobilenames/laws.FnHistorySame", spec := "fnHistorySame", unfollowed := true, recurses := true, apart := false, narrowed := true }
def FnHistorySameUptoSaid : Prop := fnHistorySameUptoRow.holds Try.pinned (OpenSpec.upto fnHistorySameSpec)

/-- 'laws.FnBackSame', WHERE WHAT IT READS IS OF BULK AT MOST 1048576: true; the input reads as it did. -/
def fnBackSameUptoRow : OpenClaim := { program := "ythljlnkanllpnaa", sum := "455f0a189024dc2806a6688ef317fa23aab697e4df0a6e0a7bbaa7e8e2ff5309", func := "loop.example/mobilenames/laws.FnBackSame", spec := "fnBackSame", unfollowed := true, recurses := true, apart := false, narrowed := true }
def FnBackSameUptoSaid : Prop := fnBackSameUptoRow.holds Try.pinned (OpenSpec.upto fnBackSameSpec)

end Rows
end Go.Proofs.Ythljlnkanllpnaa
