/-
  No cell of these rows narrows 'for every input' (looked for: loops, veiled, ifaces, maps, wideKeys, modest, calm, conditions, laid).
  DERIVED. THE GIVEN ROWS OF THIS SEAT. 10 by the template 'for every input the law returns true; each argument reads behind the call as it read before'; 0 by the template 'total and deterministic' (their statements: YtablnoddkllhmaaTotals.lean).
  GIVEN WITH THE SEED: the statements are not yours to turn. If you find one false, say at which input.
  Laid BY PROGRAM, IN A SANDBOX (cutbox-rows.mjs): the forced cells as the released guide's own fill.sh prints them over the translation 5aefbeb103ae4fdc… (all of the seat's roots in one cut). By AI agents, Wed Nov 11 2026. No macro, syntax, notation, axiom, sorry.
-/
import Derived.Test.YtablnoddkllhmaaChecked
import GoSem.Claim
import GoSem.ClaimJoined
import GoSem.ClaimMapViews
import Derived.JoinedTies
import Derived.KernelRfl
namespace Go.Proofs.Ytablnoddkllhmaa
/- THE CELL 'sum', in the pinned program and in every row, IS THE sha256 OF THE DUMP (.gsa) THAT YtablnoddkllhmaaProg.lean LOADS. Nothing in Lean hashes anything: it is a label: what it is worth is what the hold of that sum in a sandbox is worth. -/
noncomputable def Try.pinned : Pinned := { name := "ytablnoddkllhmaa", sum := "5aefbeb103ae4fdcf19ca3be8734a59f91c2a4216f19556c203b976d17b016f1", checked := Try.checked }
namespace Rows
def none {H : Type} : Left H := { results := [], args := [] }

/-- 'laws.FnExactChancesOk': WHATEVER THE INPUT: true; the input reads as it did. -/
def fnExactChancesOkSpec : ChangeSpec := { name := "fnExactChancesOk", fn := fun _ => fun
  | [d] => { results := [.lit (.bool true)], args := [d] }
  | _ => none }
def fnExactChancesOkRow : OpenClaim := { program := "ytablnoddkllhmaa", sum := "5aefbeb103ae4fdcf19ca3be8734a59f91c2a4216f19556c203b976d17b016f1", func := "loop.example/mobilenames/laws.FnExactChancesOk", spec := "fnExactChancesOk", apart := false }
def FnExactChancesOkSaid : Prop := fnExactChancesOkRow.holds Try.pinned (OpenSpec.ofChange fnExactChancesOkSpec)

/-- ITS FALSE NEIGHBOUR: 'it returns false'. Refute it at one input. -/
def fnExactChancesOkWrong : ChangeSpec := { name := "fnExactChancesOk", fn := fun _ => fun
  | [d] => { results := [.lit (.bool false)], args := [d] }
  | _ => none }
def FnExactChancesOkWrongFalsely : Prop := fnExactChancesOkRow.holds Try.pinned (OpenSpec.ofChange fnExactChancesOkWrong)

/-- 'laws.FnChancesOk': WHATEVER THE INPUT: true; the input reads as it did. -/
def fnChancesOkSpec : ChangeSpec := { name := "fnChancesOk", fn := fun _ => fun
  | [d] => { results := [.lit (.bool true)], args := [d] }
  | _ => none }
def fnChancesOkRow : OpenClaim := { program := "ytablnoddkllhmaa", sum := "5aefbeb103ae4fdcf19ca3be8734a59f91c2a4216f19556c203b976d17b016f1", func := "loop.example/mobilenames/laws.FnChancesOk", spec := "fnChancesOk", unfollowed := true, recurses := true, apart := false }
def FnChancesOkSaid : Prop := fnChancesOkRow.holds Try.pinned (OpenSpec.ofChange fnChancesOkSpec)

/-- ITS FALSE NEIGHBOUR: 'it returns false'. Refute it at one input. -/
def fnChancesOkWrong : ChangeSpec := { name := "fnChancesOk", fn := fun _ => fun
  | [d] => { results := [.lit (.bool false)], args := [d] }
  | _ => none }
def FnChancesOkWrongFalsely : Prop := fnChancesOkRow.holds Try.pinned (OpenSpec.ofChange fnChancesOkWrong)

/-- 'laws.FnChancesAfter': WHATEVER THE INPUT: true; the input reads as it did. -/
def fnChancesAfterSpec : ChangeSpec := { name := "fnChancesAfter", fn := fun _ => fun
  | [d] => { results := [.lit (.bool true)], args := [d] }
  | _ => none }
def fnChancesAfterRow : OpenClaim := { program := "ytablnoddkllhmaa", sum := "5aefbeb103ae4fdcf19ca3be8734a59f91c2a4216f19556c203b976d17b016f1", func := "loop.example/mobilenames/laws.FnChancesAfter", spec := "fnChancesAfter", apart := false }
def FnChancesAfterSaid : Prop := fnChancesAfterRow.holds Try.pinned (OpenSpec.ofChange fnChancesAfterSpec)

/-- ITS FALSE NEIGHBOUR: 'it returns false'. Refute it at one input. -/
def fnChancesAfterWrong : ChangeSpec := { name := "fnChancesAfter", fn := fun _ => fun
  | [d] => { results := [.lit (.bool false)], args := [d] }
  | _ => none }
def FnChancesAfterWrongFalsely : Prop := fnChancesAfterRow.holds Try.pinned (OpenSpec.ofChange fnChancesAfterWrong)

/-- 'laws.FnExactChancesAfter': WHATEVER THE INPUT: true; the input reads as it did. -/
def fnExactChancesAfterSpec : ChangeSpec := { name := "fnExactChancesAfter", fn := fun _ => fun
  | [d1, d2, d3] => { results := [.lit (.bool true)], args := [d1, d2, d3] }
  | _ => none }
def fnExactChancesAfterRow : OpenClaim := { program := "ytablnoddkllhmaa", sum := "5aefbeb103ae4fdcf19ca3be8734a59f91c2a4216f19556c203b976d17b016f1", func := "loop.example/mobilenames/laws.FnExactChancesAfter", spec := "fnExactChancesAfter", apart := false }
def FnExactChancesAfterSaid : Prop := fnExactChancesAfterRow.holds Try.pinned (OpenSpec.ofChange fnExactChancesAfterSpec)

/-- ITS FALSE NEIGHBOUR: 'it returns false'. Refute it at one input. -/
def fnExactChancesAfterWrong : ChangeSpec := { name := "fnExactChancesAfter", fn := fun _ => fun
  | [d1, d2, d3] => { results := [.lit (.bool false)], args := [d1, d2, d3] }
  | _ => none }
def FnExactChancesAfterWrongFalsely : Prop := fnExactChancesAfterRow.holds Try.pinned (OpenSpec.ofChange fnExactChancesAfterWrong)

/-- 'laws.FnChancesClasses': WHATEVER THE INPUT: true; the input reads as it did. -/
def fnChancesClassesSpec : ChangeSpec := { name := "fnChancesClasses", fn := fun _ => fun
  | [d] => { results := [.lit (.bool true)], args := [d] }
  | _ => none }
def fnChancesClassesRow : OpenClaim := { program := "ytablnoddkllhmaa", sum := "5aefbeb103ae4fdcf19ca3be8734a59f91c2a4216f19556c203b976d17b016f1", func := "loop.example/mobilenames/laws.FnChancesClasses", spec := "fnChancesClasses", unfollowed := true, recurses := true, apart := false }
def FnChancesClassesSaid : Prop := fnChancesClassesRow.holds Try.pinned (OpenSpec.ofChange fnChancesClassesSpec)

/-- ITS FALSE NEIGHBOUR: 'it returns false'. Refute it at one input. -/
def fnChancesClassesWrong : ChangeSpec := { name := "fnChancesClasses", fn := fun _ => fun
  | [d] => { results := [.lit (.bool false)], args := [d] }
  | _ => none }
def FnChancesClassesWrongFalsely : Prop := fnChancesClassesRow.holds Try.pinned (OpenSpec.ofChange fnChancesClassesWrong)

/-- 'laws.FnExactChancesMark': WHATEVER THE INPUT: true; the input reads as it did. -/
def fnExactChancesMarkSpec : ChangeSpec := { name := "fnExactChancesMark", fn := fun _ => fun
  | [d1, d2, d3, d4] => { results := [.lit (.bool true)], args := [d1, d2, d3, d4] }
  | _ => none }
def fnExactChancesMarkRow : OpenClaim := { program := "ytablnoddkllhmaa", sum := "5aefbeb103ae4fdcf19ca3be8734a59f91c2a4216f19556c203b976d17b016f1", func := "loop.example/mobilenames/laws.FnExactChancesMark", spec := "fnExactChancesMark", apart := false }
def FnExactChancesMarkSaid : Prop := fnExactChancesMarkRow.holds Try.pinned (OpenSpec.ofChange fnExactChancesMarkSpec)

/-- ITS FALSE NEIGHBOUR: 'it returns false'. Refute it at one input. -/
def fnExactChancesMarkWrong : ChangeSpec := { name := "fnExactChancesMark", fn := fun _ => fun
  | [d1, d2, d3, d4] => { results := [.lit (.bool false)], args := [d1, d2, d3, d4] }
  | _ => none }
def FnExactChancesMarkWrongFalsely : Prop := fnExactChancesMarkRow.holds Try.pinned (OpenSpec.ofChange fnExactChancesMarkWrong)

/-- 'laws.FnChancesMark': WHATEVER THE INPUT: true; the input reads as it did. -/
def fnChancesMarkSpec : ChangeSpec := { name := "fnChancesMark", fn := fun _ => fun
  | [d] => { results := [.lit (.bool true)], args := [d] }
  | _ => none }
def fnChancesMarkRow : OpenClaim := { program := "ytablnoddkllhmaa", sum := "5aefbeb103ae4fdcf19ca3be8734a59f91c2a4216f19556c203b976d17b016f1", func := "loop.example/mobilenames/laws.FnChancesMark", spec := "fnChancesMark", unfollowed := true, recurses := true, apart := false }
def FnChancesMarkSaid : Prop := fnChancesMarkRow.holds Try.pinned (OpenSpec.ofChange fnChancesMarkSpec)

/-- ITS FALSE NEIGHBOUR: 'it returns false'. Refute it at one input. -/
def fnChancesMarkWrong : ChangeSpec := { name := "fnChancesMark", fn := fun _ => fun
  | [d] => { results := [.lit (.bool false)], args := [d] }
  | _ => none }
def FnChancesMarkWrongFalsely : Prop := fnChancesMarkRow.holds Try.pinned (OpenSpec.ofChange fnChancesMarkWrong)

/-- 'laws.FnExactChancesClasses': WHATEVER THE INPUT: true; the input reads as it did. -/
def fnExactChancesClassesSpec : ChangeSpec := { name := "fnExactChancesClasses", fn := fun _ => fun
  | [d] => { results := [.lit (.bool true)], args := [d] }
  | _ => none }
def fnExactChancesClassesRow : OpenClaim := { program := "ytablnoddkllhmaa", sum := "5aefbeb103ae4fdcf19ca3be8734a59f91c2a4216f19556c203b976d17b016f1", func := "loop.example/mobilenames/laws.FnExactChancesClasses", spec := "fnExactChancesClasses", unfollowed := true, recurses := true, apart := false }
def FnExactChancesClassesSaid : Prop := fnExactChancesClassesRow.holds Try.pinned (OpenSpec.ofChange fnExactChancesClassesSpec)

/-- ITS FALSE NEIGHBOUR: 'it returns false'. Refute it at one input. -/
def fnExactChancesClassesWrong : ChangeSpec := { name := "fnExactChancesClasses", fn := fun _ => fun
  | [d] => { results := [.lit (.bool false)], args := [d] }
  | _ => none }
def FnExactChancesClassesWrongFalsely : Prop := fnExactChancesClassesRow.holds Try.pinned (OpenSpec.ofChange fnExactChancesClassesWrong)

/-- 'laws.FnChancesFold': WHATEVER THE INPUT: true; the input reads as it did. -/
def fnChancesFoldSpec : ChangeSpec := { name := "fnChancesFold", fn := fun _ => fun
  | [d] => { results := [.lit (.bool true)], args := [d] }
  | _ => none }
def fnChancesFoldRow : OpenClaim := { program := "ytablnoddkllhmaa", sum := "5aefbeb103ae4fdcf19ca3be8734a59f91c2a4216f19556c203b976d17b016f1", func := "loop.example/mobilenames/laws.FnChancesFold", spec := "fnChancesFold", unfollowed := true, recurses := true, apart := false }
def FnChancesFoldSaid : Prop := fnChancesFoldRow.holds Try.pinned (OpenSpec.ofChange fnChancesFoldSpec)

/-- ITS FALSE NEIGHBOUR: 'it returns false'. Refute it at one input. -/
def fnChancesFoldWrong : ChangeSpec := { name := "fnChancesFold", fn := fun _ => fun
  | [d] => { results := [.lit (.bool false)], args := [d] }
  | _ => none }
def FnChancesFoldWrongFalsely : Prop := fnChancesFoldRow.holds Try.pinned (OpenSpec.ofChange fnChancesFoldWrong)

/-- 'laws.FnExactChancesFold': WHATEVER THE INPUT: true; the input reads as it did. -/
def fnExactChancesFoldSpec : ChangeSpec := { name := "fnExactChancesFold", fn := fun _ => fun
  | [d] => { results := [.lit (.bool true)], args := [d] }
  | _ => none }
def fnExactChancesFoldRow : OpenClaim := { program := "ytablnoddkllhmaa", sum := "5aefbeb103ae4fdcf19ca3be8734a59f91c2a4216f19556c203b976d17b016f1", func := "loop.example/mobilenames/laws.FnExactChancesFold", spec := "fnExactChancesFold", unfollowed := true, recurses := true, apart := false }
def FnExactChancesFoldSaid : Prop := fnExactChancesFoldRow.holds Try.pinned (OpenSpec.ofChange fnExactChancesFoldSpec)

/-- ITS FALSE NEIGHBOUR: 'it returns false'. Refute it at one input. -/
def fnExactChancesFoldWrong : ChangeSpec := { name := "fnExactChancesFold", fn := fun _ => fun
  | [d] => { results := [.lit (.bool false)], args := [d] }
  | _ => none }
def FnExactChancesFoldWrongFalsely : Prop := fnExactChancesFoldRow.holds Try.pinned (OpenSpec.ofChange fnExactChancesFoldWrong)

/- THE SECOND FORM. 'bulk': how many values and letters a reading holds, each counted each time it is reached (what is shared counts as often as it is met; a slice's spare places count too). A statement '..UptoSaid' is the law's where the arguments, and the package variables that the reading takes, are together of bulk at most 1048576: NARROWER than '..Said'. Prove '..Said' where nothing that the law and all that it calls make is longer than what came in: it says more and counts as full. Else prove '..UptoSaid'. A law counts once. -/
mutual
def uptoBulk {H : Type} : DataW H → Nat
  | .lit (.string bytes) => bytes.length + 1
  | .lit _ => 1
  | .nil => 1
  | .ptr d => uptoBulk d + 1
  | .slice elems spare => uptoBulkAll elems + uptoBulkAll spare + 1
  | .agg parts => uptoBulkAll parts + 1
  | .iface _ d => uptoBulk d + 1
  | .map entries => uptoBulkEntries entries + 1
  | .held _ => 1
def uptoBulkAll {H : Type} : List (DataW H) → Nat
  | [] => 0
  | d :: r => uptoBulk d + uptoBulkAll r
def uptoBulkEntries {H : Type} : List (Lit × DataW H) → Nat
  | [] => 0
  | x :: r => uptoBulkEntry x + uptoBulkEntries r
def uptoBulkEntry {H : Type} : Lit × DataW H → Nat
  | (.string bytes, d) => bytes.length + uptoBulk d + 1
  | (_, d) => uptoBulk d + 1
 end
def uptoSmall : (H : Type) → List (DataW H) → Bool := fun _ ds => decide (uptoBulkAll ds ≤ 1048576)
def OpenSpec.upto (s : _root_.Go.ChangeSpec) : _root_.Go.OpenSpec := { _root_.Go.OpenSpec.ofChange s with cond := some uptoSmall }

/-- 'laws.FnExactChancesOk', WHERE WHAT IT READS IS OF BULK AT MOST 1048576: true; the input reads as it did. -/
def fnExactChancesOkUptoRow : OpenClaim := { program := "ytablnoddkllhmaa", sum := "5aefbeb103ae4fdcf19ca3be8734a59f91c2a4216f19556c203b976d17b016f1", func := "loop.example/mobilenames/laws.FnExactChancesOk", spec := "fnExactChancesOk", apart := false, narrowed := true }
def FnExactChancesOkUptoSaid : Prop := fnExactChancesOkUptoRow.holds Try.pinned (OpenSpec.upto fnExactChancesOkSpec)

/-- 'laws.FnChancesOk', WHERE WHAT IT READS IS OF BULK AT MOST 1048576: true; the input reads as it did. -/
def fnChancesOkUptoRow : OpenClaim := { program := "ytablnoddkllhmaa", sum := "5aefbeb103ae4fdcf19ca3be8734a59f91c2a4216f19556c203b976d17b016f1", func := "loop.example/mobilenames/laws.FnChancesOk", spec := "fnChancesOk", unfollowed := true, recurses := true, apart := false, narrowed := true }
def FnChancesOkUptoSaid : Prop := fnChancesOkUptoRow.holds Try.pinned (OpenSpec.upto fnChancesOkSpec)

/-- 'laws.FnChancesAfter', WHERE WHAT IT READS IS OF BULK AT MOST 1048576: true; the input reads as it did. -/
def fnChancesAfterUptoRow : OpenClaim := { program := "ytablnoddkllhmaa", sum := "5aefbeb103ae4fdcf19ca3be8734a59f91c2a4216f19556c203b976d17b016f1", func := "loop.example/mobilenames/laws.FnChancesAfter", spec := "fnChancesAfter", apart := false, narrowed := true }
def FnChancesAfterUptoSaid : Prop := fnChancesAfterUptoRow.holds Try.pinned (OpenSpec.upto fnChancesAfterSpec)

/-- 'laws.FnExactChancesAfter', WHERE WHAT IT READS IS OF BULK AT MOST 1048576: true; the input reads as it did. -/
def fnExactChancesAfterUptoRow : OpenClaim := { program := "ytablnoddkllhmaa", sum := "5aefbeb103ae4fdcf19ca3be8734a59f91c2a4216f19556c203b976d17b016f1", func := "loop.example/mobilenames/laws.FnExactChancesAfter", spec := "fnExactChancesAfter", apart := false, narrowed := true }
def FnExactChancesAfterUptoSaid : Prop := fnExactChancesAfterUptoRow.holds Try.pinned (OpenSpec.upto fnExactChancesAfterSpec)

/-- 'laws.FnChancesClasses', WHERE WHAT IT READS IS OF BULK AT MOST 1048576: true; the input reads as it did. -/
def fnChancesClassesUptoRow : OpenClaim := { program := "ytablnoddkllhmaa", sum := "5aefbeb103ae4fdcf19ca3be8734a59f91c2a4216f19556c203b976d17b016f1", func := "loop.example/mobilenames/laws.FnChancesClasses", spec := "fnChancesClasses", unfollowed := true, recurses := true, apart := false, narrowed := true }
def FnChancesClassesUptoSaid : Prop := fnChancesClassesUptoRow.holds Try.pinned (OpenSpec.upto fnChancesClassesSpec)

/-- 'laws.FnExactChancesMark', WHERE WHAT IT READS IS OF BULK AT MOST 1048576: true; the input reads as it did. -/
def fnExactChancesMarkUptoRow : OpenClaim := { program := "ytablnoddkllhmaa", sum := "5aefbeb103ae4fdcf19ca3be8734a59f91c2a4216f19556c203b976d17b016f1", func := "loop.example/mobilenames/laws.FnExactChancesMark", spec := "fnExactChancesMark", apart := false, narrowed := true }
def FnExactChancesMarkUptoSaid : Prop := fnExactChancesMarkUptoRow.holds Try.pinned (OpenSpec.upto fnExactChancesMarkSpec)

/-- 'laws.FnChancesMark', WHERE WHAT IT READS IS OF BULK AT MOST 1048576: true; the input reads as it did. -/
def fnChancesMarkUptoRow : OpenClaim := { program := "ytablnoddkllhmaa", sum := "5aefbeb103ae4fdcf19ca3be8734a59f91c2a4216f19556c203b976d17b016f1", func := "loop.example/mobilenames/laws.FnChancesMark", spec := "fnChancesMark", unfollowed := true, recurses := true, apart := false, narrowed := true }
def FnChancesMarkUptoSaid : Prop := fnChancesMarkUptoRow.holds Try.pinned (OpenSpec.upto fnChancesMarkSpec)

/-- 'laws.FnExactChancesClasses', WHERE WHAT IT READS IS OF BULK AT MOST 1048576: true; the input reads as it did. -/
def fnExactChancesClassesUptoRow : OpenClaim := { program := "ytablnoddkllhmaa", sum := "5aefbeb103ae4fdcf19ca3be8734a59f91c2a4216f19556c203b976d17b016f1", func := "loop.example/mobilenames/laws.FnExactChancesClasses", spec := "fnExactChancesClasses", unfollowed := true, recurses := true, apart := false, narrowed := true }
def FnExactChancesClassesUptoSaid : Prop := fnExactChancesClassesUptoRow.holds Try.pinned (OpenSpec.upto fnExactChancesClassesSpec)

/-- 'laws.FnChancesFold', WHERE WHAT IT READS IS OF BULK AT MOST 1048576: true; the input reads as it did. -/
def fnChancesFoldUptoRow : OpenClaim := { program := "ytablnoddkllhmaa", sum := "5aefbeb103ae4fdcf19ca3be8734a59f91c2a4216f19556c203b976d17b016f1", func := "loop.example/mobilenames/laws.FnChancesFold", spec := "fnChancesFold", unfollowed := true, recurses := true, apart := false, narrowed := true }
def FnChancesFoldUptoSaid : Prop := fnChancesFoldUptoRow.holds Try.pinned (OpenSpec.upto fnChancesFoldSpec)

/-- 'laws.FnExactChancesFold', WHERE WHAT IT READS IS OF BULK AT MOST 1048576: true; the input reads as it did. -/
def fnExactChancesFoldUptoRow : OpenClaim := { program := "ytablnoddkllhmaa", sum := "5aefbeb103ae4fdcf19ca3be8734a59f91c2a4216f19556c203b976d17b016f1", func := "loop.example/mobilenames/laws.FnExactChancesFold", spec := "fnExactChancesFold", unfollowed := true, recurses := true, apart := false, narrowed := true }
def FnExactChancesFoldUptoSaid : Prop := fnExactChancesFoldUptoRow.holds Try.pinned (OpenSpec.upto fnExactChancesFoldSpec)

end Rows
end Go.Proofs.Ytablnoddkllhmaa
