/- How threads and events that come in read. No condition. -/
import Derived.Test.YthljlnkanllpnaaP0
import Derived.Test.YthljlnkanllpnaaOpen
namespace Go.Proofs.Ythljlnkanllpnaa.P
open Go.RowKit Go.Proofs.YthljlnkanllpnaaW.PrintWords Go.Proofs.YthljlnkanllpnaaW.PrintLast Go.Proofs.Ythljlnkanllpnaa.Open
set_option linter.unusedVariables false
def Ints (l : List Int) : Prop := l.length ≤ maxLen ∧ ∀ x ∈ l, (Lit.int .i64 x).wf = true
def IntRows (l : List (List Int)) : Prop := l.length ≤ maxLen ∧ ∀ x ∈ l, Ints x
def Ev71 (x : S71) : Prop := (Lit.int .i64 x.f0).wf = true ∧ (Lit.int .i64 x.f1).wf = true
theorem opens27 (m : Nat) : OpensAt Try.prog 27 (Kd.slice 3 (Kd.int .i64)) Ints m :=
  opens_slice Try.underlying27 (by kernel_rfl) (fun _ _ => opens_int Try.underlying3)
theorem opens71 (m : Nat) : OpensAt Try.prog 71 k71 Ev71 m := by
  have h2 := opens_pair2 (P := Try.prog) (n := m) Try.underlying71 (by kernel_rfl) rfl rfl (by kernel_rfl) (by kernel_rfl) (fun m _ => opens_int Try.underlying3) (fun m _ => opens_int Try.underlying3)
  intro H enc w cs x hx
  obtain ⟨⟨a, b⟩, hK, ha, hb⟩ := h2 H enc w cs x hx
  obtain ⟨_, _, rfl, rfl, rfl⟩ := hK
  exact ⟨⟨a, b⟩, k71_mk w ⟨a, b⟩, ha, hb⟩
theorem opens23 (m : Nat) : OpensAt Try.prog 23 (Kd.slice 27 (Kd.slice 3 (Kd.int .i64))) IntRows m :=
  opens_slice Try.underlying23 (by kernel_rfl) (fun m _ => opens27 m)
theorem opens34 (m : Nat) : OpensAt Try.prog 34 (Kd.slice 71 k71) (fun xs => xs.length ≤ maxLen ∧ ∀ a ∈ xs, Ev71 a) m :=
  opens_slice Try.underlying34 (by kernel_rfl) (fun m _ => opens71 m)
end Go.Proofs.Ythljlnkanllpnaa.P
