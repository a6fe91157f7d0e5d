/- The law's own comparison of events, of a list with itself. Plain; no condition but sizes. -/
import Derived.Test.YthljlnkanllpnaaP0
import Derived.Test.YthljlnkanllpnaaP2
import Derived.Test.YthljlnkanllpnaaHHas
namespace Go.Proofs.Ythljlnkanllpnaa.P
open Go.RowKit Go.Proofs.YthljlnkanllpnaaW.PrintWords Go.Proofs.YthljlnkanllpnaaW.PrintLast Go.Proofs.YthljlnkanllpnaaW.PrintMore
set_option linter.unusedVariables false
set_option linter.unusedSimpArgs false
theorem mnEvents_ev (l:List S32) (hl:l.length ≤ 1048576):Ev (fun k=>laws_mnEvents.f k l l) true:=by
 have loop:∀ (d i:Nat),i + d = l.length → Ev (fun k=>laws_mnEvents.l0 k l l i) true:=by
  intro d
  induction d with
  | zero =>
   intro i hi
   refine Ev.step (f:=fun _=>some true) (fun k=>?_) (Ev.now true)
   simp only [laws_mnEvents.l0]
   rw [if_neg (by omega)]
  | succ d ih =>
   intro i hi
   refine Ev.step (fun k=>?_) (ih (i + 1) (by omega))
   simp only [laws_mnEvents.l0]
   rw [if_pos (by omega),if_pos (by omega),if_pos (by omega),if_neg (by simp),wrap_succ (show i < l.length by omega) (by omega)]
 refine Ev.congr (fun k=>?_) (loop l.length 0 (by omega))
 simp only [laws_mnEvents.f]
 rw [if_pos trivial]
 rfl
end Go.Proofs.Ythljlnkanllpnaa.P
