/-
  NARROWER THAN 'FOR EVERY INPUT', by the rows' own cells (each row's printed sentence says how): FnExactClockOk: loops · FnExactClockUrgent: loops · FnExactClockSteps: loops · FnExactClockPass: loops · FnExactClockLater: loops.
  DERIVED. THE GIVEN ROWS OF THIS SEAT. 10 by the template 'for every input the law returns true; each argument reads behind the call as it read before'; 0 by the template 'total and deterministic' (their statements: YtnkgcjdlfenepaaTotals.lean).
  GIVEN WITH THE SEED: the statements are not yours to turn. If you find one false, say at which input.
  Laid BY PROGRAM, IN A SANDBOX (cutbox-rows.mjs): the forced cells as the released guide's own fill.sh prints them over the translation 1cbdc497cfa6f396… (all of the seat's roots in one cut). By AI agents, Wed Nov 11 2026. No macro, syntax, notation, axiom, sorry.
-/
import Derived.Test.YtnkgcjdlfenepaaChecked
import GoSem.Claim
import GoSem.ClaimJoined
import GoSem.ClaimMapViews
import Derived.JoinedTies
import Derived.KernelRfl
namespace Go.Proofs.Ytnkgcjdlfenepaa
/- THE CELL 'sum', in the pinned program and in every row, IS THE sha256 OF THE DUMP (.gsa) THAT YtnkgcjdlfenepaaProg.lean LOADS. Nothing in Lean hashes anything: it is a label: what it is worth is what the hold of that sum in a sandbox is worth. -/
noncomputable def Try.pinned : Pinned := { name := "ytnkgcjdlfenepaa", sum := "1cbdc497cfa6f3962260ac8b41189a1e16a1de9f5abb7217a66f479d2516ad54", checked := Try.checked }
namespace Rows
def none {H : Type} : Left H := { results := [], args := [] }

/-- 'laws.FnExactClockOk': WHATEVER THE INPUT: true; the input reads as it did. -/
def fnExactClockOkSpec : ChangeSpec := { name := "fnExactClockOk", fn := fun _ => fun
  | [d] => { results := [.lit (.bool true)], args := [d] }
  | _ => none }
def fnExactClockOkRow : OpenClaim := { program := "ytnkgcjdlfenepaa", sum := "1cbdc497cfa6f3962260ac8b41189a1e16a1de9f5abb7217a66f479d2516ad54", func := "loop.example/mobilenames/laws.FnExactClockOk", spec := "fnExactClockOk", unfollowed := true, recurses := true, loops := true, apart := false }
def FnExactClockOkSaid : Prop := fnExactClockOkRow.holds Try.pinned (OpenSpec.ofChange fnExactClockOkSpec)

/-- ITS FALSE NEIGHBOUR: 'it returns false'. Refute it at one input. -/
def fnExactClockOkWrong : ChangeSpec := { name := "fnExactClockOk", fn := fun _ => fun
  | [d] => { results := [.lit (.bool false)], args := [d] }
  | _ => none }
def FnExactClockOkWrongFalsely : Prop := fnExactClockOkRow.holds Try.pinned (OpenSpec.ofChange fnExactClockOkWrong)

/-- 'laws.FnClockOk': WHATEVER THE INPUT: true; the input reads as it did. -/
def fnClockOkSpec : ChangeSpec := { name := "fnClockOk", fn := fun _ => fun
  | [d] => { results := [.lit (.bool true)], args := [d] }
  | _ => none }
def fnClockOkRow : OpenClaim := { program := "ytnkgcjdlfenepaa", sum := "1cbdc497cfa6f3962260ac8b41189a1e16a1de9f5abb7217a66f479d2516ad54", func := "loop.example/mobilenames/laws.FnClockOk", spec := "fnClockOk", unfollowed := true, recurses := true, apart := false }
def FnClockOkSaid : Prop := fnClockOkRow.holds Try.pinned (OpenSpec.ofChange fnClockOkSpec)

/-- ITS FALSE NEIGHBOUR: 'it returns false'. Refute it at one input. -/
def fnClockOkWrong : ChangeSpec := { name := "fnClockOk", fn := fun _ => fun
  | [d] => { results := [.lit (.bool false)], args := [d] }
  | _ => none }
def FnClockOkWrongFalsely : Prop := fnClockOkRow.holds Try.pinned (OpenSpec.ofChange fnClockOkWrong)

/-- 'laws.FnExactClockUrgent': WHATEVER THE INPUT: true; the input reads as it did. -/
def fnExactClockUrgentSpec : ChangeSpec := { name := "fnExactClockUrgent", fn := fun _ => fun
  | [d] => { results := [.lit (.bool true)], args := [d] }
  | _ => none }
def fnExactClockUrgentRow : OpenClaim := { program := "ytnkgcjdlfenepaa", sum := "1cbdc497cfa6f3962260ac8b41189a1e16a1de9f5abb7217a66f479d2516ad54", func := "loop.example/mobilenames/laws.FnExactClockUrgent", spec := "fnExactClockUrgent", unfollowed := true, recurses := true, loops := true, apart := false }
def FnExactClockUrgentSaid : Prop := fnExactClockUrgentRow.holds Try.pinned (OpenSpec.ofChange fnExactClockUrgentSpec)

/-- ITS FALSE NEIGHBOUR: 'it returns false'. Refute it at one input. -/
def fnExactClockUrgentWrong : ChangeSpec := { name := "fnExactClockUrgent", fn := fun _ => fun
  | [d] => { results := [.lit (.bool false)], args := [d] }
  | _ => none }
def FnExactClockUrgentWrongFalsely : Prop := fnExactClockUrgentRow.holds Try.pinned (OpenSpec.ofChange fnExactClockUrgentWrong)

/-- 'laws.FnClockSteps': WHATEVER THE INPUT: true; the input reads as it did. -/
def fnClockStepsSpec : ChangeSpec := { name := "fnClockSteps", fn := fun _ => fun
  | [d] => { results := [.lit (.bool true)], args := [d] }
  | _ => none }
def fnClockStepsRow : OpenClaim := { program := "ytnkgcjdlfenepaa", sum := "1cbdc497cfa6f3962260ac8b41189a1e16a1de9f5abb7217a66f479d2516ad54", func := "loop.example/mobilenames/laws.FnClockSteps", spec := "fnClockSteps", unfollowed := true, recurses := true, apart := false }
def FnClockStepsSaid : Prop := fnClockStepsRow.holds Try.pinned (OpenSpec.ofChange fnClockStepsSpec)

/-- ITS FALSE NEIGHBOUR: 'it returns false'. Refute it at one input. -/
def fnClockStepsWrong : ChangeSpec := { name := "fnClockSteps", fn := fun _ => fun
  | [d] => { results := [.lit (.bool false)], args := [d] }
  | _ => none }
def FnClockStepsWrongFalsely : Prop := fnClockStepsRow.holds Try.pinned (OpenSpec.ofChange fnClockStepsWrong)

/-- 'laws.FnExactClockSteps': WHATEVER THE INPUT: true; the input reads as it did. -/
def fnExactClockStepsSpec : ChangeSpec := { name := "fnExactClockSteps", fn := fun _ => fun
  | [d] => { results := [.lit (.bool true)], args := [d] }
  | _ => none }
def fnExactClockStepsRow : OpenClaim := { program := "ytnkgcjdlfenepaa", sum := "1cbdc497cfa6f3962260ac8b41189a1e16a1de9f5abb7217a66f479d2516ad54", func := "loop.example/mobilenames/laws.FnExactClockSteps", spec := "fnExactClockSteps", unfollowed := true, recurses := true, loops := true, apart := false }
def FnExactClockStepsSaid : Prop := fnExactClockStepsRow.holds Try.pinned (OpenSpec.ofChange fnExactClockStepsSpec)

/-- ITS FALSE NEIGHBOUR: 'it returns false'. Refute it at one input. -/
def fnExactClockStepsWrong : ChangeSpec := { name := "fnExactClockSteps", fn := fun _ => fun
  | [d] => { results := [.lit (.bool false)], args := [d] }
  | _ => none }
def FnExactClockStepsWrongFalsely : Prop := fnExactClockStepsRow.holds Try.pinned (OpenSpec.ofChange fnExactClockStepsWrong)

/-- 'laws.FnClockPass': WHATEVER THE INPUT: true; the input reads as it did. -/
def fnClockPassSpec : ChangeSpec := { name := "fnClockPass", fn := fun _ => fun
  | [d] => { results := [.lit (.bool true)], args := [d] }
  | _ => none }
def fnClockPassRow : OpenClaim := { program := "ytnkgcjdlfenepaa", sum := "1cbdc497cfa6f3962260ac8b41189a1e16a1de9f5abb7217a66f479d2516ad54", func := "loop.example/mobilenames/laws.FnClockPass", spec := "fnClockPass", unfollowed := true, recurses := true, apart := false }
def FnClockPassSaid : Prop := fnClockPassRow.holds Try.pinned (OpenSpec.ofChange fnClockPassSpec)

/-- ITS FALSE NEIGHBOUR: 'it returns false'. Refute it at one input. -/
def fnClockPassWrong : ChangeSpec := { name := "fnClockPass", fn := fun _ => fun
  | [d] => { results := [.lit (.bool false)], args := [d] }
  | _ => none }
def FnClockPassWrongFalsely : Prop := fnClockPassRow.holds Try.pinned (OpenSpec.ofChange fnClockPassWrong)

/-- 'laws.FnClockUrgent': WHATEVER THE INPUT: true; the input reads as it did. -/
def fnClockUrgentSpec : ChangeSpec := { name := "fnClockUrgent", fn := fun _ => fun
  | [d] => { results := [.lit (.bool true)], args := [d] }
  | _ => none }
def fnClockUrgentRow : OpenClaim := { program := "ytnkgcjdlfenepaa", sum := "1cbdc497cfa6f3962260ac8b41189a1e16a1de9f5abb7217a66f479d2516ad54", func := "loop.example/mobilenames/laws.FnClockUrgent", spec := "fnClockUrgent", unfollowed := true, recurses := true, apart := false }
def FnClockUrgentSaid : Prop := fnClockUrgentRow.holds Try.pinned (OpenSpec.ofChange fnClockUrgentSpec)

/-- ITS FALSE NEIGHBOUR: 'it returns false'. Refute it at one input. -/
def fnClockUrgentWrong : ChangeSpec := { name := "fnClockUrgent", fn := fun _ => fun
  | [d] => { results := [.lit (.bool false)], args := [d] }
  | _ => none }
def FnClockUrgentWrongFalsely : Prop := fnClockUrgentRow.holds Try.pinned (OpenSpec.ofChange fnClockUrgentWrong)

/-- 'laws.FnExactClockPass': WHATEVER THE INPUT: true; the input reads as it did. -/
def fnExactClockPassSpec : ChangeSpec := { name := "fnExactClockPass", fn := fun _ => fun
  | [d] => { results := [.lit (.bool true)], args := [d] }
  | _ => none }
def fnExactClockPassRow : OpenClaim := { program := "ytnkgcjdlfenepaa", sum := "1cbdc497cfa6f3962260ac8b41189a1e16a1de9f5abb7217a66f479d2516ad54", func := "loop.example/mobilenames/laws.FnExactClockPass", spec := "fnExactClockPass", unfollowed := true, recurses := true, loops := true, apart := false }
def FnExactClockPassSaid : Prop := fnExactClockPassRow.holds Try.pinned (OpenSpec.ofChange fnExactClockPassSpec)

/-- ITS FALSE NEIGHBOUR: 'it returns false'. Refute it at one input. -/
def fnExactClockPassWrong : ChangeSpec := { name := "fnExactClockPass", fn := fun _ => fun
  | [d] => { results := [.lit (.bool false)], args := [d] }
  | _ => none }
def FnExactClockPassWrongFalsely : Prop := fnExactClockPassRow.holds Try.pinned (OpenSpec.ofChange fnExactClockPassWrong)

/-- 'laws.FnExactClockLater': WHATEVER THE INPUT: true; the input reads as it did. -/
def fnExactClockLaterSpec : ChangeSpec := { name := "fnExactClockLater", fn := fun _ => fun
  | [d1, d2] => { results := [.lit (.bool true)], args := [d1, d2] }
  | _ => none }
def fnExactClockLaterRow : OpenClaim := { program := "ytnkgcjdlfenepaa", sum := "1cbdc497cfa6f3962260ac8b41189a1e16a1de9f5abb7217a66f479d2516ad54", func := "loop.example/mobilenames/laws.FnExactClockLater", spec := "fnExactClockLater", unfollowed := true, recurses := true, loops := true, apart := false }
def FnExactClockLaterSaid : Prop := fnExactClockLaterRow.holds Try.pinned (OpenSpec.ofChange fnExactClockLaterSpec)

/-- ITS FALSE NEIGHBOUR: 'it returns false'. Refute it at one input. -/
def fnExactClockLaterWrong : ChangeSpec := { name := "fnExactClockLater", fn := fun _ => fun
  | [d1, d2] => { results := [.lit (.bool false)], args := [d1, d2] }
  | _ => none }
def FnExactClockLaterWrongFalsely : Prop := fnExactClockLaterRow.holds Try.pinned (OpenSpec.ofChange fnExactClockLaterWrong)

/-- 'laws.FnClockLater': WHATEVER THE INPUT: true; the input reads as it did. -/
def fnClockLaterSpec : ChangeSpec := { name := "fnClockLater", fn := fun _ => fun
  | [d] => { results := [.lit (.bool true)], args := [d] }
  | _ => none }
def fnClockLaterRow : OpenClaim := { program := "ytnkgcjdlfenepaa", sum := "1cbdc497cfa6f3962260ac8b41189a1e16a1de9f5abb7217a66f479d2516ad54", func := "loop.example/mobilenames/laws.FnClockLater", spec := "fnClockLater", unfollowed := true, recurses := true, apart := false }
def FnClockLaterSaid : Prop := fnClockLaterRow.holds Try.pinned (OpenSpec.ofChange fnClockLaterSpec)

/-- ITS FALSE NEIGHBOUR: 'it returns false'. Refute it at one input. -/
def fnClockLaterWrong : ChangeSpec := { name := "fnClockLater", fn := fun _ => fun
  | [d] => { results := [.lit (.bool false)], args := [d] }
  | _ => none }
def FnClockLaterWrongFalsely : Prop := fnClockLaterRow.holds Try.pinned (OpenSpec.ofChange fnClockLaterWrong)

/- THE SECOND FORM. 'bulk': how many values and letters a reading holds, each counted each time it is reached (what is shared counts as often as it is met; a slice's spare places count too). A statement '..UptoSaid' is the law's where the arguments, and the package variables that the reading takes, are together of bulk at most 1048576: NARROWER than '..Said'. Prove '..Said' where nothing that the law and all that it calls make is longer than what came in: it says more and counts as full. Else prove '..UptoSaid'. A law counts once. -/
mutual
def uptoBulk {H : Type} : DataW H → Nat
  | .lit (.string bytes) => bytes.length + 1
  | .lit _ => 1
  | .nil => 1
  | .ptr d => uptoBulk d + 1
  | .slice elems spare => uptoBulkAll elems + uptoBulkAll spare + 1
  | .agg parts => uptoBulkAll parts + 1
  | .iface _ d => uptoBulk d + 1
  | .map entries => uptoBulkEntries entries + 1
  | .held _ => 1
def uptoBulkAll {H : Type} : List (DataW H) → Nat
  | [] => 0
  | d :: r => uptoBulk d + uptoBulkAll r
def uptoBulkEntries {H : Type} : List (Lit × DataW H) → Nat
  | [] => 0
  | x :: r => uptoBulkEntry x + uptoBulkEntries r
def uptoBulkEntry {H : Type} : Lit × DataW H → Nat
  | (.string bytes, d) => bytes.length + uptoBulk d + 1
  | (_, d) => uptoBulk d + 1
 end
def uptoSmall : (H : Type) → List (DataW H) → Bool := fun _ ds => decide (uptoBulkAll ds ≤ 1048576)
def OpenSpec.upto (s : _root_.Go.ChangeSpec) : _root_.Go.OpenSpec := { _root_.Go.OpenSpec.ofChange s with cond := some uptoSmall }

/-- 'laws.FnExactClockOk', WHERE WHAT IT READS IS OF BULK AT MOST 1048576: true; the input reads as it did. -/
def fnExactClockOkUptoRow : OpenClaim := { program := "ytnkgcjdlfenepaa", sum := "1cbdc497cfa6f3962260ac8b41189a1e16a1de9f5abb7217a66f479d2516ad54", func := "loop.example/mobilenames/laws.FnExactClockOk", spec := "fnExactClockOk", unfollowed := true, recurses := true, loops := true, apart := false, narrowed := true }
def FnExactClockOkUptoSaid : Prop := fnExactClockOkUptoRow.holds Try.pinned (OpenSpec.upto fnExactClockOkSpec)

/-- 'laws.FnClockOk', WHERE WHAT IT READS IS OF BULK AT MOST 1048576: true; the input reads as it did. -/
def fnClockOkUptoRow : OpenClaim := { program := "ytnkgcjdlfenepaa", sum := "1cbdc497cfa6f3962260ac8b41189a1e16a1de9f5abb7217a66f479d2516ad54", func := "loop.example/mobilenames/laws.FnClockOk", spec := "fnClockOk", unfollowed := true, recurses := true, apart := false, narrowed := true }
def FnClockOkUptoSaid : Prop := fnClockOkUptoRow.holds Try.pinned (OpenSpec.upto fnClockOkSpec)

/-- 'laws.FnExactClockUrgent', WHERE WHAT IT READS IS OF BULK AT MOST 1048576: true; the input reads as it did. -/
def fnExactClockUrgentUptoRow : OpenClaim := { program := "ytnkgcjdlfenepaa", sum := "1cbdc497cfa6f3962260ac8b41189a1e16a1de9f5abb7217a66f479d2516ad54", func := "loop.example/mobilenames/laws.FnExactClockUrgent", spec := "fnExactClockUrgent", unfollowed := true, recurses := true, loops := true, apart := false, narrowed := true }
def FnExactClockUrgentUptoSaid : Prop := fnExactClockUrgentUptoRow.holds Try.pinned (OpenSpec.upto fnExactClockUrgentSpec)

/-- 'laws.FnClockSteps', WHERE WHAT IT READS IS OF BULK AT MOST 1048576: true; the input reads as it did. -/
def fnClockStepsUptoRow : OpenClaim := { program := "ytnkgcjdlfenepaa", sum := "1cbdc497cfa6f3962260ac8b41189a1e16a1de9f5abb7217a66f479d2516ad54", func := "loop.example/mobilenames/laws.FnClockSteps", spec := "fnClockSteps", unfollowed := true, recurses := true, apart := false, narrowed := true }
def FnClockStepsUptoSaid : Prop := fnClockStepsUptoRow.holds Try.pinned (OpenSpec.upto fnClockStepsSpec)

/-- 'laws.FnExactClockSteps', WHERE WHAT IT READS IS OF BULK AT MOST 1048576: true; the input reads as it did. -/
def fnExactClockStepsUptoRow : OpenClaim := { program := "ytnkgcjdlfenepaa", sum := "1cbdc497cfa6f3962260ac8b41189a1e16a1de9f5abb7217a66f479d2516ad54", func := "loop.example/mobilenames/laws.FnExactClockSteps", spec := "fnExactClockSteps", unfollowed := true, recurses := true, loops := true, apart := false, narrowed := true }
def FnExactClockStepsUptoSaid : Prop := fnExactClockStepsUptoRow.holds Try.pinned (OpenSpec.upto fnExactClockStepsSpec)

/-- 'laws.FnClockPass', WHERE WHAT IT READS IS OF BULK AT MOST 1048576: true; the input reads as it did. -/
def fnClockPassUptoRow : OpenClaim := { program := "ytnkgcjdlfenepaa", sum := "1cbdc497cfa6f3962260ac8b41189a1e16a1de9f5abb7217a66f479d2516ad54", func := "loop.example/mobilenames/laws.FnClockPass", spec := "fnClockPass", unfollowed := true, recurses := true, apart := false, narrowed := true }
def FnClockPassUptoSaid : Prop := fnClockPassUptoRow.holds Try.pinned (OpenSpec.upto fnClockPassSpec)

/-- 'laws.FnClockUrgent', WHERE WHAT IT READS IS OF BULK AT MOST 1048576: true; the input reads as it did. -/
def fnClockUrgentUptoRow : OpenClaim := { program := "ytnkgcjdlfenepaa", sum := "1cbdc497cfa6f3962260ac8b41189a1e16a1de9f5abb7217a66f479d2516ad54", func := "loop.example/mobilenames/laws.FnClockUrgent", spec := "fnClockUrgent", unfollowed := true, recurses := true, apart := false, narrowed := true }
def FnClockUrgentUptoSaid : Prop := fnClockUrgentUptoRow.holds Try.pinned (OpenSpec.upto fnClockUrgentSpec)

/-- 'laws.FnExactClockPass', WHERE WHAT IT READS IS OF BULK AT MOST 1048576: true; the input reads as it did. -/
def fnExactClockPassUptoRow : OpenClaim := { program := "ytnkgcjdlfenepaa", sum := "1cbdc497cfa6f3962260ac8b41189a1e16a1de9f5abb7217a66f479d2516ad54", func := "loop.example/mobilenames/laws.FnExactClockPass", spec := "fnExactClockPass", unfollowed := true, recurses := true, loops := true, apart := false, narrowed := true }
def FnExactClockPassUptoSaid : Prop := fnExactClockPassUptoRow.holds Try.pinned (OpenSpec.upto fnExactClockPassSpec)

/-- 'laws.FnExactClockLater', WHERE WHAT IT READS IS OF BULK AT MOST 1048576: true; the input reads as it did. -/
def fnExactClockLaterUptoRow : OpenClaim := { program := "ytnkgcjdlfenepaa", sum := "1cbdc497cfa6f3962260ac8b41189a1e16a1de9f5abb7217a66f479d2516ad54", func := "loop.example/mobilenames/laws.FnExactClockLater", spec := "fnExactClockLater", unfollowed := true, recurses := true, loops := true, apart := false, narrowed := true }
def FnExactClockLaterUptoSaid : Prop := fnExactClockLaterUptoRow.holds Try.pinned (OpenSpec.upto fnExactClockLaterSpec)

/-- 'laws.FnClockLater', WHERE WHAT IT READS IS OF BULK AT MOST 1048576: true; the input reads as it did. -/
def fnClockLaterUptoRow : OpenClaim := { program := "ytnkgcjdlfenepaa", sum := "1cbdc497cfa6f3962260ac8b41189a1e16a1de9f5abb7217a66f479d2516ad54", func := "loop.example/mobilenames/laws.FnClockLater", spec := "fnClockLater", unfollowed := true, recurses := true, apart := false, narrowed := true }
def FnClockLaterUptoSaid : Prop := fnClockLaterUptoRow.holds Try.pinned (OpenSpec.upto fnClockLaterSpec)

end Rows
end Go.Proofs.Ytnkgcjdlfenepaa
