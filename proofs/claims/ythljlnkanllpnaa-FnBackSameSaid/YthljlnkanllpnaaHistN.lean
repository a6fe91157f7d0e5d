/- The events of a thread, as the reference lists them. Plain; no condition but sizes. -/
import Derived.Test.YthljlnkanllpnaaP0
import Derived.Test.YthljlnkanllpnaaP2
import Derived.Test.YthljlnkanllpnaaHHas
namespace Go.Proofs.Ythljlnkanllpnaa.P
open Go.RowKit Go.Proofs.YthljlnkanllpnaaW.PrintWords Go.Proofs.YthljlnkanllpnaaW.PrintLast Go.Proofs.YthljlnkanllpnaaW.PrintMore
set_option linter.unusedVariables false
set_option linter.unusedSimpArgs false
theorem ofP_take (h:List S32) (k:Int) (i:Nat) (hi:i < h.length):ofP (h.take (i + 1)) k = if hasB h[i] k = true then ofP (h.take i) k ++ [h[i]] else ofP (h.take i) k:=by
 rw [ofP,List.take_succ_eq_append_getElem hi,List.filter_append,ofP]
 by_cases e:hasB h[i] k = true <;> simp [e]
theorem of_ev {h:List S32} (hh:h.length ≤ 1048576) (k0:Int):Ev (fun k=>spec_l19Of.f k h k0) (ofP h k0):=by
 have loop:∀ (d i:Nat),i + d = h.length → Ev (fun k=>spec_l19Of.l0 k h k0 (ofP (h.take i) k0) i) (ofP h k0):=by
  intro d
  induction d with
  | zero =>
   intro i hi
   refine Ev.step (f:=fun _=>some (ofP h k0)) (fun k=>?_) (Ev.now _)
   simp only [spec_l19Of.l0]
   rw [if_neg (by omega),List.take_of_length_le (by omega)]
  | succ d ih =>
   intro i hi
   have hil:i < h.length:=by omega
   have hlen:(ofP (h.take i) k0).length < 8796093022208:=by have:=ofP_length (h.take i) k0;simp at this;omega
   have hn:=ih (i + 1) (by omega)
   rw [ofP_take h k0 i hil] at hn
   refine Ev.step (fun k=>?_) hn
   simp only [spec_l19Of.l0,rdE_at _ _ hil]
   rw [if_pos (by omega),if_pos (by omega)]
   by_cases e0:h[i].f0 = k0
   ·rw [if_pos e0,if_pos hlen,if_pos (by simp [hasB,e0]),wrap_succ hil (by omega)]
   ·rw [if_neg e0]
    by_cases e1:h[i].f1 = k0
    ·rw [if_pos e1,if_pos hlen,if_pos (by simp [hasB,e1]),wrap_succ hil (by omega)]
    ·rw [if_neg e1,if_neg (by simp [hasB,e0,e1]),wrap_succ hil (by omega)]
 refine Ev.congr (fun k=>?_) (loop h.length 0 (by omega))
 simp only [spec_l19Of.f]
 rfl
end Go.Proofs.Ythljlnkanllpnaa.P
