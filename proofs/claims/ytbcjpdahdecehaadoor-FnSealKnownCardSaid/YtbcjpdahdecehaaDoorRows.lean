/-
  NARROWER THAN 'FOR EVERY INPUT', by the rows' own cells (each row's printed sentence says how): FnSealOk: laid · FnSealText: laid · FnExactSealText: loops, laid · FnExactSealUnder: loops, laid · FnSealUnder: laid · FnExactSealMade: loops, laid · FnSealMade: laid · FnSecretKept: laid · FnSealKnown: laid · FnExactSealKnown: loops, laid.
  DERIVED. THE GIVEN ROWS OF THIS SEAT. 10 by the template 'for every input the law returns true; each argument reads behind the call as it read before'; 0 by the template 'total and deterministic' (their statements: YtbcjpdahdecehaaDoorTotals.lean).
  GIVEN WITH THE SEED: the statements are not yours to turn. If you find one false, say at which input.
  Laid BY PROGRAM, IN A SANDBOX (cutbox-rows.mjs): the forced cells as the released guide's own fill.sh prints them over the translation efa69a719504d874… (all of the seat's roots in one cut). By AI agents, Wed Nov 11 2026. No macro, syntax, notation, axiom, sorry.
-/
import Derived.Test.YtbcjpdahdecehaaDoorChecked
import GoSem.Claim
import GoSem.ClaimJoined
import GoSem.ClaimMapViews
import Derived.JoinedTies
import Derived.KernelRfl
namespace Go.Proofs.YtbcjpdahdecehaaDoor
/- THE CELL 'sum', in the pinned program and in every row, IS THE sha256 OF THE DUMP (.gsa) THAT YtbcjpdahdecehaaDoorProg.lean LOADS. Nothing in Lean hashes anything: it is a label: what it is worth is what the hold of that sum in a sandbox is worth. -/
noncomputable def Tryd.pinned : Pinned := { name := "ytbcjpdahdecehaadoor", sum := "efa69a719504d87453c37c188d797f94c3015a5d4c91ff70e0f4ebd31074659c", checked := Tryd.checked }
namespace Rows
def none {H : Type} : Left H := { results := [], args := [] }

/- WHAT THE LISTED PACKAGE-LEVEL VARIABLES READ AS WHEN THE CALL BEGINS. Each datum BY PROGRAM (the guide's laid-datum.mjs) off the statement by which the dump's own 'gosem.cut.vars' lays the variable. In a bare row this is a premise. The card (YtbcjpdahdecehaaDoorCards.lean) ties it to the program's text. -/
def laid_math_bits_deBruijn32tab {H : Type} : DataW H := .agg [.lit (.int .u8 0), .lit (.int .u8 1), .lit (.int .u8 28), .lit (.int .u8 2), .lit (.int .u8 29), .lit (.int .u8 14), .lit (.int .u8 24), .lit (.int .u8 3), .lit (.int .u8 30), .lit (.int .u8 22), .lit (.int .u8 20), .lit (.int .u8 15), .lit (.int .u8 25), .lit (.int .u8 17), .lit (.int .u8 4), .lit (.int .u8 8), .lit (.int .u8 31), .lit (.int .u8 27), .lit (.int .u8 13), .lit (.int .u8 23), .lit (.int .u8 21), .lit (.int .u8 19), .lit (.int .u8 16), .lit (.int .u8 7), .lit (.int .u8 26), .lit (.int .u8 12), .lit (.int .u8 18), .lit (.int .u8 6), .lit (.int .u8 11), .lit (.int .u8 5), .lit (.int .u8 10), .lit (.int .u8 9)]
def laid_math_bits_deBruijn64tab {H : Type} : DataW H := .agg [.lit (.int .u8 0), .lit (.int .u8 1), .lit (.int .u8 56), .lit (.int .u8 2), .lit (.int .u8 57), .lit (.int .u8 49), .lit (.int .u8 28), .lit (.int .u8 3), .lit (.int .u8 61), .lit (.int .u8 58), .lit (.int .u8 42), .lit (.int .u8 50), .lit (.int .u8 38), .lit (.int .u8 29), .lit (.int .u8 17), .lit (.int .u8 4), .lit (.int .u8 62), .lit (.int .u8 47), .lit (.int .u8 59), .lit (.int .u8 36), .lit (.int .u8 45), .lit (.int .u8 43), .lit (.int .u8 51), .lit (.int .u8 22), .lit (.int .u8 53), .lit (.int .u8 39), .lit (.int .u8 33), .lit (.int .u8 30), .lit (.int .u8 24), .lit (.int .u8 18), .lit (.int .u8 12), .lit (.int .u8 5), .lit (.int .u8 63), .lit (.int .u8 55), .lit (.int .u8 48), .lit (.int .u8 27), .lit (.int .u8 60), .lit (.int .u8 41), .lit (.int .u8 37), .lit (.int .u8 16), .lit (.int .u8 46), .lit (.int .u8 35), .lit (.int .u8 44), .lit (.int .u8 21), .lit (.int .u8 52), .lit (.int .u8 32), .lit (.int .u8 23), .lit (.int .u8 11), .lit (.int .u8 54), .lit (.int .u8 26), .lit (.int .u8 40), .lit (.int .u8 15), .lit (.int .u8 34), .lit (.int .u8 20), .lit (.int .u8 31), .lit (.int .u8 10), .lit (.int .u8 25), .lit (.int .u8 14), .lit (.int .u8 19), .lit (.int .u8 9), .lit (.int .u8 13), .lit (.int .u8 8), .lit (.int .u8 7), .lit (.int .u8 6)]
def laid_internal_strconv_uint64pow10 {H : Type} : DataW H := .agg [.lit (.int .u64 1), .lit (.int .u64 10), .lit (.int .u64 100), .lit (.int .u64 1000), .lit (.int .u64 10000), .lit (.int .u64 100000), .lit (.int .u64 1000000), .lit (.int .u64 10000000), .lit (.int .u64 100000000), .lit (.int .u64 1000000000), .lit (.int .u64 10000000000), .lit (.int .u64 100000000000), .lit (.int .u64 1000000000000), .lit (.int .u64 10000000000000), .lit (.int .u64 100000000000000), .lit (.int .u64 1000000000000000), .lit (.int .u64 10000000000000000), .lit (.int .u64 100000000000000000), .lit (.int .u64 1000000000000000000), .lit (.int .u64 10000000000000000000)]

/-- 'laws.FnSealOk': WHATEVER THE INPUT: true; the input reads as it did. -/
def fnSealOkSpec : ChangeSpec := { name := "fnSealOk", fn := fun _ => fun
  | [d] => { results := [.lit (.bool true)], args := [d] }
  | _ => none }
def fnSealOkRow : OpenClaim := { program := "ytbcjpdahdecehaadoor", sum := "efa69a719504d87453c37c188d797f94c3015a5d4c91ff70e0f4ebd31074659c", func := "loop.example/mobilenames/laws.FnSealOk", spec := "fnSealOk", unfollowed := true, recurses := true, named := ["internal/strconv.uint64pow10", "math/bits.deBruijn32tab", "math/bits.deBruijn64tab"], apart := false, laid := [("math/bits.deBruijn32tab", laid_math_bits_deBruijn32tab), ("math/bits.deBruijn64tab", laid_math_bits_deBruijn64tab), ("internal/strconv.uint64pow10", laid_internal_strconv_uint64pow10)] }
def FnSealOkSaid : Prop := fnSealOkRow.holds Tryd.pinned (OpenSpec.ofChange fnSealOkSpec)

/-- ITS FALSE NEIGHBOUR: 'it returns false'. Refute it at one input. -/
def fnSealOkWrong : ChangeSpec := { name := "fnSealOk", fn := fun _ => fun
  | [d] => { results := [.lit (.bool false)], args := [d] }
  | _ => none }
def FnSealOkWrongFalsely : Prop := fnSealOkRow.holds Tryd.pinned (OpenSpec.ofChange fnSealOkWrong)

/-- 'laws.FnSealText': WHATEVER THE INPUT: true; the input reads as it did. -/
def fnSealTextSpec : ChangeSpec := { name := "fnSealText", fn := fun _ => fun
  | [d] => { results := [.lit (.bool true)], args := [d] }
  | _ => none }
def fnSealTextRow : OpenClaim := { program := "ytbcjpdahdecehaadoor", sum := "efa69a719504d87453c37c188d797f94c3015a5d4c91ff70e0f4ebd31074659c", func := "loop.example/mobilenames/laws.FnSealText", spec := "fnSealText", recurses := true, named := ["internal/strconv.uint64pow10", "math/bits.deBruijn32tab", "math/bits.deBruijn64tab"], apart := false, laid := [("math/bits.deBruijn32tab", laid_math_bits_deBruijn32tab), ("math/bits.deBruijn64tab", laid_math_bits_deBruijn64tab), ("internal/strconv.uint64pow10", laid_internal_strconv_uint64pow10)] }
def FnSealTextSaid : Prop := fnSealTextRow.holds Tryd.pinned (OpenSpec.ofChange fnSealTextSpec)

/-- ITS FALSE NEIGHBOUR: 'it returns false'. Refute it at one input. -/
def fnSealTextWrong : ChangeSpec := { name := "fnSealText", fn := fun _ => fun
  | [d] => { results := [.lit (.bool false)], args := [d] }
  | _ => none }
def FnSealTextWrongFalsely : Prop := fnSealTextRow.holds Tryd.pinned (OpenSpec.ofChange fnSealTextWrong)

/-- 'laws.FnExactSealText': WHATEVER THE INPUT: true; the input reads as it did. -/
def fnExactSealTextSpec : ChangeSpec := { name := "fnExactSealText", fn := fun _ => fun
  | [d] => { results := [.lit (.bool true)], args := [d] }
  | _ => none }
def fnExactSealTextRow : OpenClaim := { program := "ytbcjpdahdecehaadoor", sum := "efa69a719504d87453c37c188d797f94c3015a5d4c91ff70e0f4ebd31074659c", func := "loop.example/mobilenames/laws.FnExactSealText", spec := "fnExactSealText", recurses := true, named := ["internal/strconv.uint64pow10", "math/bits.deBruijn32tab", "math/bits.deBruijn64tab"], loops := true, apart := false, laid := [("math/bits.deBruijn32tab", laid_math_bits_deBruijn32tab), ("math/bits.deBruijn64tab", laid_math_bits_deBruijn64tab), ("internal/strconv.uint64pow10", laid_internal_strconv_uint64pow10)] }
def FnExactSealTextSaid : Prop := fnExactSealTextRow.holds Tryd.pinned (OpenSpec.ofChange fnExactSealTextSpec)

/-- ITS FALSE NEIGHBOUR: 'it returns false'. Refute it at one input. -/
def fnExactSealTextWrong : ChangeSpec := { name := "fnExactSealText", fn := fun _ => fun
  | [d] => { results := [.lit (.bool false)], args := [d] }
  | _ => none }
def FnExactSealTextWrongFalsely : Prop := fnExactSealTextRow.holds Tryd.pinned (OpenSpec.ofChange fnExactSealTextWrong)

/-- 'laws.FnExactSealUnder': WHATEVER THE INPUT: true; the input reads as it did. -/
def fnExactSealUnderSpec : ChangeSpec := { name := "fnExactSealUnder", fn := fun _ => fun
  | [d1, d2] => { results := [.lit (.bool true)], args := [d1, d2] }
  | _ => none }
def fnExactSealUnderRow : OpenClaim := { program := "ytbcjpdahdecehaadoor", sum := "efa69a719504d87453c37c188d797f94c3015a5d4c91ff70e0f4ebd31074659c", func := "loop.example/mobilenames/laws.FnExactSealUnder", spec := "fnExactSealUnder", unfollowed := true, recurses := true, named := ["internal/strconv.uint64pow10", "math/bits.deBruijn32tab", "math/bits.deBruijn64tab"], loops := true, apart := false, laid := [("math/bits.deBruijn32tab", laid_math_bits_deBruijn32tab), ("math/bits.deBruijn64tab", laid_math_bits_deBruijn64tab), ("internal/strconv.uint64pow10", laid_internal_strconv_uint64pow10)] }
def FnExactSealUnderSaid : Prop := fnExactSealUnderRow.holds Tryd.pinned (OpenSpec.ofChange fnExactSealUnderSpec)

/-- ITS FALSE NEIGHBOUR: 'it returns false'. Refute it at one input. -/
def fnExactSealUnderWrong : ChangeSpec := { name := "fnExactSealUnder", fn := fun _ => fun
  | [d1, d2] => { results := [.lit (.bool false)], args := [d1, d2] }
  | _ => none }
def FnExactSealUnderWrongFalsely : Prop := fnExactSealUnderRow.holds Tryd.pinned (OpenSpec.ofChange fnExactSealUnderWrong)

/-- 'laws.FnSealUnder': WHATEVER THE INPUT: true; the input reads as it did. -/
def fnSealUnderSpec : ChangeSpec := { name := "fnSealUnder", fn := fun _ => fun
  | [d] => { results := [.lit (.bool true)], args := [d] }
  | _ => none }
def fnSealUnderRow : OpenClaim := { program := "ytbcjpdahdecehaadoor", sum := "efa69a719504d87453c37c188d797f94c3015a5d4c91ff70e0f4ebd31074659c", func := "loop.example/mobilenames/laws.FnSealUnder", spec := "fnSealUnder", unfollowed := true, recurses := true, named := ["internal/strconv.uint64pow10", "math/bits.deBruijn32tab", "math/bits.deBruijn64tab"], apart := false, laid := [("math/bits.deBruijn32tab", laid_math_bits_deBruijn32tab), ("math/bits.deBruijn64tab", laid_math_bits_deBruijn64tab), ("internal/strconv.uint64pow10", laid_internal_strconv_uint64pow10)] }
def FnSealUnderSaid : Prop := fnSealUnderRow.holds Tryd.pinned (OpenSpec.ofChange fnSealUnderSpec)

/-- ITS FALSE NEIGHBOUR: 'it returns false'. Refute it at one input. -/
def fnSealUnderWrong : ChangeSpec := { name := "fnSealUnder", fn := fun _ => fun
  | [d] => { results := [.lit (.bool false)], args := [d] }
  | _ => none }
def FnSealUnderWrongFalsely : Prop := fnSealUnderRow.holds Tryd.pinned (OpenSpec.ofChange fnSealUnderWrong)

/-- 'laws.FnExactSealMade': WHATEVER THE INPUT: true; the input reads as it did. -/
def fnExactSealMadeSpec : ChangeSpec := { name := "fnExactSealMade", fn := fun _ => fun
  | [d1, d2] => { results := [.lit (.bool true)], args := [d1, d2] }
  | _ => none }
def fnExactSealMadeRow : OpenClaim := { program := "ytbcjpdahdecehaadoor", sum := "efa69a719504d87453c37c188d797f94c3015a5d4c91ff70e0f4ebd31074659c", func := "loop.example/mobilenames/laws.FnExactSealMade", spec := "fnExactSealMade", recurses := true, named := ["internal/strconv.uint64pow10", "math/bits.deBruijn32tab", "math/bits.deBruijn64tab"], loops := true, apart := false, laid := [("math/bits.deBruijn32tab", laid_math_bits_deBruijn32tab), ("math/bits.deBruijn64tab", laid_math_bits_deBruijn64tab), ("internal/strconv.uint64pow10", laid_internal_strconv_uint64pow10)] }
def FnExactSealMadeSaid : Prop := fnExactSealMadeRow.holds Tryd.pinned (OpenSpec.ofChange fnExactSealMadeSpec)

/-- ITS FALSE NEIGHBOUR: 'it returns false'. Refute it at one input. -/
def fnExactSealMadeWrong : ChangeSpec := { name := "fnExactSealMade", fn := fun _ => fun
  | [d1, d2] => { results := [.lit (.bool false)], args := [d1, d2] }
  | _ => none }
def FnExactSealMadeWrongFalsely : Prop := fnExactSealMadeRow.holds Tryd.pinned (OpenSpec.ofChange fnExactSealMadeWrong)

/-- 'laws.FnSealMade': WHATEVER THE INPUT: true; the input reads as it did. -/
def fnSealMadeSpec : ChangeSpec := { name := "fnSealMade", fn := fun _ => fun
  | [d] => { results := [.lit (.bool true)], args := [d] }
  | _ => none }
def fnSealMadeRow : OpenClaim := { program := "ytbcjpdahdecehaadoor", sum := "efa69a719504d87453c37c188d797f94c3015a5d4c91ff70e0f4ebd31074659c", func := "loop.example/mobilenames/laws.FnSealMade", spec := "fnSealMade", recurses := true, named := ["internal/strconv.uint64pow10", "math/bits.deBruijn32tab", "math/bits.deBruijn64tab"], apart := false, laid := [("math/bits.deBruijn32tab", laid_math_bits_deBruijn32tab), ("math/bits.deBruijn64tab", laid_math_bits_deBruijn64tab), ("internal/strconv.uint64pow10", laid_internal_strconv_uint64pow10)] }
def FnSealMadeSaid : Prop := fnSealMadeRow.holds Tryd.pinned (OpenSpec.ofChange fnSealMadeSpec)

/-- ITS FALSE NEIGHBOUR: 'it returns false'. Refute it at one input. -/
def fnSealMadeWrong : ChangeSpec := { name := "fnSealMade", fn := fun _ => fun
  | [d] => { results := [.lit (.bool false)], args := [d] }
  | _ => none }
def FnSealMadeWrongFalsely : Prop := fnSealMadeRow.holds Tryd.pinned (OpenSpec.ofChange fnSealMadeWrong)

/-- 'laws.FnSecretKept': WHATEVER THE INPUT: true; the input reads as it did. -/
def fnSecretKeptSpec : ChangeSpec := { name := "fnSecretKept", fn := fun _ => fun
  | [d] => { results := [.lit (.bool true)], args := [d] }
  | _ => none }
def fnSecretKeptRow : OpenClaim := { program := "ytbcjpdahdecehaadoor", sum := "efa69a719504d87453c37c188d797f94c3015a5d4c91ff70e0f4ebd31074659c", func := "loop.example/mobilenames/laws.FnSecretKept", spec := "fnSecretKept", unfollowed := true, recurses := true, named := ["internal/strconv.uint64pow10", "math/bits.deBruijn32tab", "math/bits.deBruijn64tab"], apart := false, laid := [("math/bits.deBruijn32tab", laid_math_bits_deBruijn32tab), ("math/bits.deBruijn64tab", laid_math_bits_deBruijn64tab), ("internal/strconv.uint64pow10", laid_internal_strconv_uint64pow10)] }
def FnSecretKeptSaid : Prop := fnSecretKeptRow.holds Tryd.pinned (OpenSpec.ofChange fnSecretKeptSpec)

/-- ITS FALSE NEIGHBOUR: 'it returns false'. Refute it at one input. -/
def fnSecretKeptWrong : ChangeSpec := { name := "fnSecretKept", fn := fun _ => fun
  | [d] => { results := [.lit (.bool false)], args := [d] }
  | _ => none }
def FnSecretKeptWrongFalsely : Prop := fnSecretKeptRow.holds Tryd.pinned (OpenSpec.ofChange fnSecretKeptWrong)

/-- 'laws.FnSealKnown': WHATEVER THE INPUT: true; the input reads as it did. -/
def fnSealKnownSpec : ChangeSpec := { name := "fnSealKnown", fn := fun _ => fun
  | [d] => { results := [.lit (.bool true)], args := [d] }
  | _ => none }
def fnSealKnownRow : OpenClaim := { program := "ytbcjpdahdecehaadoor", sum := "efa69a719504d87453c37c188d797f94c3015a5d4c91ff70e0f4ebd31074659c", func := "loop.example/mobilenames/laws.FnSealKnown", spec := "fnSealKnown", recurses := true, named := ["internal/strconv.uint64pow10", "math/bits.deBruijn32tab", "math/bits.deBruijn64tab"], apart := false, laid := [("math/bits.deBruijn32tab", laid_math_bits_deBruijn32tab), ("math/bits.deBruijn64tab", laid_math_bits_deBruijn64tab), ("internal/strconv.uint64pow10", laid_internal_strconv_uint64pow10)] }
def FnSealKnownSaid : Prop := fnSealKnownRow.holds Tryd.pinned (OpenSpec.ofChange fnSealKnownSpec)

/-- ITS FALSE NEIGHBOUR: 'it returns false'. Refute it at one input. -/
def fnSealKnownWrong : ChangeSpec := { name := "fnSealKnown", fn := fun _ => fun
  | [d] => { results := [.lit (.bool false)], args := [d] }
  | _ => none }
def FnSealKnownWrongFalsely : Prop := fnSealKnownRow.holds Tryd.pinned (OpenSpec.ofChange fnSealKnownWrong)

/-- 'laws.FnExactSealKnown': WHATEVER THE INPUT: true; the input reads as it did. -/
def fnExactSealKnownSpec : ChangeSpec := { name := "fnExactSealKnown", fn := fun _ => fun
  | [d] => { results := [.lit (.bool true)], args := [d] }
  | _ => none }
def fnExactSealKnownRow : OpenClaim := { program := "ytbcjpdahdecehaadoor", sum := "efa69a719504d87453c37c188d797f94c3015a5d4c91ff70e0f4ebd31074659c", func := "loop.example/mobilenames/laws.FnExactSealKnown", spec := "fnExactSealKnown", recurses := true, named := ["internal/strconv.uint64pow10", "math/bits.deBruijn32tab", "math/bits.deBruijn64tab"], loops := true, apart := false, laid := [("math/bits.deBruijn32tab", laid_math_bits_deBruijn32tab), ("math/bits.deBruijn64tab", laid_math_bits_deBruijn64tab), ("internal/strconv.uint64pow10", laid_internal_strconv_uint64pow10)] }
def FnExactSealKnownSaid : Prop := fnExactSealKnownRow.holds Tryd.pinned (OpenSpec.ofChange fnExactSealKnownSpec)

/-- ITS FALSE NEIGHBOUR: 'it returns false'. Refute it at one input. -/
def fnExactSealKnownWrong : ChangeSpec := { name := "fnExactSealKnown", fn := fun _ => fun
  | [d] => { results := [.lit (.bool false)], args := [d] }
  | _ => none }
def FnExactSealKnownWrongFalsely : Prop := fnExactSealKnownRow.holds Tryd.pinned (OpenSpec.ofChange fnExactSealKnownWrong)

/- THE SECOND FORM. 'bulk': how many values and letters a reading holds, each counted each time it is reached (what is shared counts as often as it is met; a slice's spare places count too). A statement '..UptoSaid' is the law's where the arguments, and the package variables that the reading takes, are together of bulk at most 1048576: NARROWER than '..Said'. Prove '..Said' where nothing that the law and all that it calls make is longer than what came in: it says more and counts as full. Else prove '..UptoSaid'. A law counts once. -/
mutual
def uptoBulk {H : Type} : DataW H → Nat
  | .lit (.string bytes) => bytes.length + 1
  | .lit _ => 1
  | .nil => 1
  | .ptr d => uptoBulk d + 1
  | .slice elems spare => uptoBulkAll elems + uptoBulkAll spare + 1
  | .agg parts => uptoBulkAll parts + 1
  | .iface _ d => uptoBulk d + 1
  | .map entries => uptoBulkEntries entries + 1
  | .held _ => 1
def uptoBulkAll {H : Type} : List (DataW H) → Nat
  | [] => 0
  | d :: r => uptoBulk d + uptoBulkAll r
def uptoBulkEntries {H : Type} : List (Lit × DataW H) → Nat
  | [] => 0
  | x :: r => uptoBulkEntry x + uptoBulkEntries r
def uptoBulkEntry {H : Type} : Lit × DataW H → Nat
  | (.string bytes, d) => bytes.length + uptoBulk d + 1
  | (_, d) => uptoBulk d + 1
 end
def uptoSmall : (H : Type) → List (DataW H) → Bool := fun _ ds => decide (uptoBulkAll ds ≤ 1048576)
def OpenSpec.upto (s : _root_.Go.ChangeSpec) : _root_.Go.OpenSpec := { _root_.Go.OpenSpec.ofChange s with cond := some uptoSmall }

/-- 'laws.FnSealOk', WHERE WHAT IT READS IS OF BULK AT MOST 1048576: true; the input reads as it did. -/
def fnSealOkUptoRow : OpenClaim := { program := "ytbcjpdahdecehaadoor", sum := "efa69a719504d87453c37c188d797f94c3015a5d4c91ff70e0f4ebd31074659c", func := "loop.example/mobilenames/laws.FnSealOk", spec := "fnSealOk", unfollowed := true, recurses := true, named := ["internal/strconv.uint64pow10", "math/bits.deBruijn32tab", "math/bits.deBruijn64tab"], apart := false, laid := [("math/bits.deBruijn32tab", laid_math_bits_deBruijn32tab), ("math/bits.deBruijn64tab", laid_math_bits_deBruijn64tab), ("internal/strconv.uint64pow10", laid_internal_strconv_uint64pow10)], narrowed := true }
def FnSealOkUptoSaid : Prop := fnSealOkUptoRow.holds Tryd.pinned (OpenSpec.upto fnSealOkSpec)

/-- 'laws.FnSealText', WHERE WHAT IT READS IS OF BULK AT MOST 1048576: true; the input reads as it did. -/
def fnSealTextUptoRow : OpenClaim := { program := "ytbcjpdahdecehaadoor", sum := "efa69a719504d87453c37c188d797f94c3015a5d4c91ff70e0f4ebd31074659c", func := "loop.example/mobilenames/laws.FnSealText", spec := "fnSealText", recurses := true, named := ["internal/strconv.uint64pow10", "math/bits.deBruijn32tab", "math/bits.deBruijn64tab"], apart := false, laid := [("math/bits.deBruijn32tab", laid_math_bits_deBruijn32tab), ("math/bits.deBruijn64tab", laid_math_bits_deBruijn64tab), ("internal/strconv.uint64pow10", laid_internal_strconv_uint64pow10)], narrowed := true }
def FnSealTextUptoSaid : Prop := fnSealTextUptoRow.holds Tryd.pinned (OpenSpec.upto fnSealTextSpec)

/-- 'laws.FnExactSealText', WHERE WHAT IT READS IS OF BULK AT MOST 1048576: true; the input reads as it did. -/
def fnExactSealTextUptoRow : OpenClaim := { program := "ytbcjpdahdecehaadoor", sum := "efa69a719504d87453c37c188d797f94c3015a5d4c91ff70e0f4ebd31074659c", func := "loop.example/mobilenames/laws.FnExactSealText", spec := "fnExactSealText", recurses := true, named := ["internal/strconv.uint64pow10", "math/bits.deBruijn32tab", "math/bits.deBruijn64tab"], loops := true, apart := false, laid := [("math/bits.deBruijn32tab", laid_math_bits_deBruijn32tab), ("math/bits.deBruijn64tab", laid_math_bits_deBruijn64tab), ("internal/strconv.uint64pow10", laid_internal_strconv_uint64pow10)], narrowed := true }
def FnExactSealTextUptoSaid : Prop := fnExactSealTextUptoRow.holds Tryd.pinned (OpenSpec.upto fnExactSealTextSpec)

/-- 'laws.FnExactSealUnder', WHERE WHAT IT READS IS OF BULK AT MOST 1048576: true; the input reads as it did. -/
def fnExactSealUnderUptoRow : OpenClaim := { program := "ytbcjpdahdecehaadoor", sum := "efa69a719504d87453c37c188d797f94c3015a5d4c91ff70e0f4ebd31074659c", func := "loop.example/mobilenames/laws.FnExactSealUnder", spec := "fnExactSealUnder", unfollowed := true, recurses := true, named := ["internal/strconv.uint64pow10", "math/bits.deBruijn32tab", "math/bits.deBruijn64tab"], loops := true, apart := false, laid := [("math/bits.deBruijn32tab", laid_math_bits_deBruijn32tab), ("math/bits.deBruijn64tab", laid_math_bits_deBruijn64tab), ("internal/strconv.uint64pow10", laid_internal_strconv_uint64pow10)], narrowed := true }
def FnExactSealUnderUptoSaid : Prop := fnExactSealUnderUptoRow.holds Tryd.pinned (OpenSpec.upto fnExactSealUnderSpec)

/-- 'laws.FnSealUnder', WHERE WHAT IT READS IS OF BULK AT MOST 1048576: true; the input reads as it did. -/
def fnSealUnderUptoRow : OpenClaim := { program := "ytbcjpdahdecehaadoor", sum := "efa69a719504d87453c37c188d797f94c3015a5d4c91ff70e0f4ebd31074659c", func := "loop.example/mobilenames/laws.FnSealUnder", spec := "fnSealUnder", unfollowed := true, recurses := true, named := ["internal/strconv.uint64pow10", "math/bits.deBruijn32tab", "math/bits.deBruijn64tab"], apart := false, laid := [("math/bits.deBruijn32tab", laid_math_bits_deBruijn32tab), ("math/bits.deBruijn64tab", laid_math_bits_deBruijn64tab), ("internal/strconv.uint64pow10", laid_internal_strconv_uint64pow10)], narrowed := true }
def FnSealUnderUptoSaid : Prop := fnSealUnderUptoRow.holds Tryd.pinned (OpenSpec.upto fnSealUnderSpec)

/-- 'laws.FnExactSealMade', WHERE WHAT IT READS IS OF BULK AT MOST 1048576: true; the input reads as it did. -/
def fnExactSealMadeUptoRow : OpenClaim := { program := "ytbcjpdahdecehaadoor", sum := "efa69a719504d87453c37c188d797f94c3015a5d4c91ff70e0f4ebd31074659c", func := "loop.example/mobilenames/laws.FnExactSealMade", spec := "fnExactSealMade", recurses := true, named := ["internal/strconv.uint64pow10", "math/bits.deBruijn32tab", "math/bits.deBruijn64tab"], loops := true, apart := false, laid := [("math/bits.deBruijn32tab", laid_math_bits_deBruijn32tab), ("math/bits.deBruijn64tab", laid_math_bits_deBruijn64tab), ("internal/strconv.uint64pow10", laid_internal_strconv_uint64pow10)], narrowed := true }
def FnExactSealMadeUptoSaid : Prop := fnExactSealMadeUptoRow.holds Tryd.pinned (OpenSpec.upto fnExactSealMadeSpec)

/-- 'laws.FnSealMade', WHERE WHAT IT READS IS OF BULK AT MOST 1048576: true; the input reads as it did. -/
def fnSealMadeUptoRow : OpenClaim := { program := "ytbcjpdahdecehaadoor", sum := "efa69a719504d87453c37c188d797f94c3015a5d4c91ff70e0f4ebd31074659c", func := "loop.example/mobilenames/laws.FnSealMade", spec := "fnSealMade", recurses := true, named := ["internal/strconv.uint64pow10", "math/bits.deBruijn32tab", "math/bits.deBruijn64tab"], apart := false, laid := [("math/bits.deBruijn32tab", laid_math_bits_deBruijn32tab), ("math/bits.deBruijn64tab", laid_math_bits_deBruijn64tab), ("internal/strconv.uint64pow10", laid_internal_strconv_uint64pow10)], narrowed := true }
def FnSealMadeUptoSaid : Prop := fnSealMadeUptoRow.holds Tryd.pinned (OpenSpec.upto fnSealMadeSpec)

/-- 'laws.FnSecretKept', WHERE WHAT IT READS IS OF BULK AT MOST 1048576: true; the input reads as it did. -/
def fnSecretKeptUptoRow : OpenClaim := { program := "ytbcjpdahdecehaadoor", sum := "efa69a719504d87453c37c188d797f94c3015a5d4c91ff70e0f4ebd31074659c", func := "loop.example/mobilenames/laws.FnSecretKept", spec := "fnSecretKept", unfollowed := true, recurses := true, named := ["internal/strconv.uint64pow10", "math/bits.deBruijn32tab", "math/bits.deBruijn64tab"], apart := false, laid := [("math/bits.deBruijn32tab", laid_math_bits_deBruijn32tab), ("math/bits.deBruijn64tab", laid_math_bits_deBruijn64tab), ("internal/strconv.uint64pow10", laid_internal_strconv_uint64pow10)], narrowed := true }
def FnSecretKeptUptoSaid : Prop := fnSecretKeptUptoRow.holds Tryd.pinned (OpenSpec.upto fnSecretKeptSpec)

/-- 'laws.FnSealKnown', WHERE WHAT IT READS IS OF BULK AT MOST 1048576: true; the input reads as it did. -/
def fnSealKnownUptoRow : OpenClaim := { program := "ytbcjpdahdecehaadoor", sum := "efa69a719504d87453c37c188d797f94c3015a5d4c91ff70e0f4ebd31074659c", func := "loop.example/mobilenames/laws.FnSealKnown", spec := "fnSealKnown", recurses := true, named := ["internal/strconv.uint64pow10", "math/bits.deBruijn32tab", "math/bits.deBruijn64tab"], apart := false, laid := [("math/bits.deBruijn32tab", laid_math_bits_deBruijn32tab), ("math/bits.deBruijn64tab", laid_math_bits_deBruijn64tab), ("internal/strconv.uint64pow10", laid_internal_strconv_uint64pow10)], narrowed := true }
def FnSealKnownUptoSaid : Prop := fnSealKnownUptoRow.holds Tryd.pinned (OpenSpec.upto fnSealKnownSpec)

/-- 'laws.FnExactSealKnown', WHERE WHAT IT READS IS OF BULK AT MOST 1048576: true; the input reads as it did. -/
def fnExactSealKnownUptoRow : OpenClaim := { program := "ytbcjpdahdecehaadoor", sum := "efa69a719504d87453c37c188d797f94c3015a5d4c91ff70e0f4ebd31074659c", func := "loop.example/mobilenames/laws.FnExactSealKnown", spec := "fnExactSealKnown", recurses := true, named := ["internal/strconv.uint64pow10", "math/bits.deBruijn32tab", "math/bits.deBruijn64tab"], loops := true, apart := false, laid := [("math/bits.deBruijn32tab", laid_math_bits_deBruijn32tab), ("math/bits.deBruijn64tab", laid_math_bits_deBruijn64tab), ("internal/strconv.uint64pow10", laid_internal_strconv_uint64pow10)], narrowed := true }
def FnExactSealKnownUptoSaid : Prop := fnExactSealKnownUptoRow.holds Tryd.pinned (OpenSpec.upto fnExactSealKnownSpec)

end Rows
end Go.Proofs.YtbcjpdahdecehaaDoor
