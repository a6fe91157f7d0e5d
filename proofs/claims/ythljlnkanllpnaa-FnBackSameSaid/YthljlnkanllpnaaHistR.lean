/- Histories: what HistoryAt tells, and how far threads are. Plain; no condition. -/
import Derived.Test.YthljlnkanllpnaaHistB
namespace Go.Proofs.Ythljlnkanllpnaa.P
open Go.RowKit Go.Proofs.YthljlnkanllpnaaW.PrintWords Go.Proofs.YthljlnkanllpnaaW.PrintLast Go.Proofs.YthljlnkanllpnaaW.PrintMore
set_option linter.unusedVariables false
set_option linter.unusedSimpArgs false
theorem histAt_ok {th:List (List Int)} {h:List S32} (ho:(histAt th h).2 = true):okTh th = true∧run th (at0 th) h = some (histAt th h).1:=by
 unfold histAt at ho ⊢
 by_cases hk:okTh th = true
 ·rw [if_pos hk] at ho ⊢
  refine ⟨hk,?_⟩
  cases hr:run th (at0 th) h with
  | some a=>rfl
  | none=>rw [hr] at ho;cases ho
 ·rw [if_neg hk] at ho
  cases ho
theorem run_far {th:List (List Int)}:∀ (h:List S32) {at_ a:List Int},Far th at_ → run th at_ h = some a → Far th a
 | [],at_,a,hf,hr=>by
  obtain rfl:=Option.some.inj hr
  exact hf
 | e :: es,at_,a,hf,hr=>by
  rw [run] at hr
  by_cases hc:can th at_ e.f0 e.f1 = true
  ·rw [if_pos hc] at hr
   exact run_far es (hf.step hc) hr
  ·rw [if_neg hc] at hr
   cases hr
end Go.Proofs.Ythljlnkanllpnaa.P
