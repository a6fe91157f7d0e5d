/- How a chain that comes in reads: two slices. No condition. -/
import Derived.Test.YtablnoddkllhmaaOpen
import Derived.Test.YtablnoddkllhmaaP0
namespace Go.Proofs.Ytablnoddkllhmaa.P
open Go.RowKit Go.Proofs.YtablnoddkllhmaaW.PrintWords Go.Proofs.YtablnoddkllhmaaW.PrintLast Go.Proofs.Ytablnoddkllhmaa.Open
set_option linter.unusedVariables false
/-- Every number of a list is one of Go's. -/
def Ints (l : List Int) : Prop := l.length ≤ maxLen ∧ ∀ x ∈ l, (Lit.int .i64 x).wf = true
def IntRows (l : List (List Int)) : Prop := l.length ≤ maxLen ∧ ∀ x ∈ l, Ints x
theorem opens22 (m : Nat) : OpensAt Try.prog 22 (Kd.slice 3 (Kd.int .i64)) Ints m :=
  opens_slice Try.underlying22 (by kernel_rfl) (fun _ _ => opens_int Try.underlying3)
theorem opens23 (m : Nat) : OpensAt Try.prog 23 (Kd.slice 22 (Kd.slice 3 (Kd.int .i64))) IntRows m :=
  opens_slice Try.underlying23 (by kernel_rfl) (fun m _ => opens22 m)
theorem opens25 (m : Nat) : OpensAt Try.prog 25 (Kd.pair (Kd.slice 3 (Kd.int .i64)) (Kd.slice 22 (Kd.slice 3 (Kd.int .i64)))) (fun x => Ints x.1 ∧ IntRows x.2) m :=
  opens_pair2 Try.underlying25 (by kernel_rfl) rfl rfl (by kernel_rfl) (by kernel_rfl) (fun m _ => opens22 m) (fun m _ => opens23 m)
end Go.Proofs.Ytablnoddkllhmaa.P
