/- Threads in common, and a list without an element, as program and reference tell them. Plain; no condition but sizes. -/
import Derived.Test.YthljlnkanllpnaaP0
import Derived.Test.YthljlnkanllpnaaP2
import Derived.Test.YthljlnkanllpnaaHHas
namespace Go.Proofs.Ythljlnkanllpnaa.P
open Go.RowKit Go.Proofs.YthljlnkanllpnaaW.PrintWords Go.Proofs.YthljlnkanllpnaaW.PrintLast Go.Proofs.YthljlnkanllpnaaW.PrintMore
set_option linter.unusedVariables false
set_option linter.unusedSimpArgs false
variable {h:List S32}
theorem linked_f (e f:S32):impl_linked.f e.f0 e.f1 f.f0 f.f1 = some (linkB e f):=by
 unfold impl_linked.f linkB
 rw [has_f]
 simp only [Option.bind_some]
 cases hasB f e.f0 with
 | true=>simp
 | false =>
  rw [if_neg (by simp)]
  by_cases h:e.f1 ≥ 0
  ·rw [if_pos h,has_f]
   simp [show 0 ≤ e.f1 from h]
  ·rw [if_neg h]
   simp [show ¬ 0 ≤ e.f1 from h]
theorem without_f (hh:h.length ≤ 1048576) {i:Nat} (hi:i < h.length):spec_l19Without.f h i = some (h.eraseIdx i):=by
 have w1:wrap64 ((i:Int) + 1) = ((i + 1:Nat):Int):=wrap_succ hi (by omega)
 have l1:([]:List S32).length + (h.take i).length < 8796093022208:=by rw [List.length_take,List.length_nil];omega
 have l2:([] ++ h.take i).length + (h.drop (i + 1)).length < 8796093022208:=by rw [List.nil_append,List.length_take,List.length_drop];omega
 unfold spec_l19Without.f
 rw [Option.bind_some,if_pos (Int.natCast_nonneg i),if_pos (by omega),Int.toNat_natCast,Option.bind_some,if_pos l1,Option.bind_some,w1,if_pos (Int.natCast_nonneg (i + 1)),if_pos (by omega),Int.toNat_natCast,Option.bind_some,if_pos l2,List.nil_append,List.eraseIdx_eq_take_drop_succ]
end Go.Proofs.Ythljlnkanllpnaa.P
