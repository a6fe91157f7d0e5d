/- Trees of a kind, a number and parts, that come in: how they read, how many nodes they have, what their copies are. No condition. -/
import Derived.Test.YtbcjpdahdecehaaDoorP0
import Derived.Test.YtbcjpdahdecehaaDoorWWords
import Derived.Test.YtbcjpdahdecehaaDoorWLast
import Derived.Test.YtbcjpdahdecehaaDoorWMore
import Derived.Deep.Slices
import Derived.SizedLaws
import Derived.WideShapes
import Derived.Test.YtbcjpdahdecehaaDoorSB
namespace Go.Proofs.YtbcjpdahdecehaaDoor.P
open Go.RowKit Go.Proofs.YtbcjpdahdecehaaDoorW.PrintWords Go.Proofs.YtbcjpdahdecehaaDoorW.PrintLast
set_option linter.unusedVariables false
mutual
def S33.cnt:S33 → Nat
 | ⟨_,_,l⟩=>l.length + subL l
def subL:List S33 → Nat
 | []=>0
 | x :: xs=>S33.cnt x + subL xs
end
end Go.Proofs.YtbcjpdahdecehaaDoor.P
