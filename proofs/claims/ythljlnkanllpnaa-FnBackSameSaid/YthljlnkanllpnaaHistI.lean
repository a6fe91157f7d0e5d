/- Being the same but for order: what the program computes. Plain; no condition but sizes. -/
import Derived.Test.YthljlnkanllpnaaP0
import Derived.Test.YthljlnkanllpnaaP3
import Derived.Test.YthljlnkanllpnaaHistO
import Derived.Test.YthljlnkanllpnaaHistN
import Derived.Test.YthljlnkanllpnaaHSame
namespace Go.Proofs.Ythljlnkanllpnaa.P
open Go.RowKit Go.Proofs.YthljlnkanllpnaaW.PrintWords Go.Proofs.YthljlnkanllpnaaW.PrintLast Go.Proofs.YthljlnkanllpnaaW.PrintMore Go.Proofs.Ythljlnkanllpnaa.Any
set_option linter.unusedVariables false
set_option linter.unusedSimpArgs false
variable {th:List (List Int)} {g h:List S32}
def sameFrom (n:Nat) (g h:List S32) (k:Nat):Bool:=(List.range (n - k)).all fun j=>decide (ofP g ((k + j:Nat):Int) = ofP h ((k + j:Nat):Int))
theorem sameFrom_zero (n:Nat) (g h:List S32):sameFrom n g h 0 = sameB n g h:=by simp [sameFrom,sameB]
theorem sameFrom_iff (n:Nat) (g h:List S32) (k:Nat):sameFrom n g h k = true ↔ ∀ j:Nat,k ≤ j → j < n → ofP g (j:Int) = ofP h (j:Int):=by
 simp only [sameFrom,List.all_eq_true,List.mem_range,decide_eq_true_eq]
 exact ⟨fun h j h1 h2=>by have:=h (j - k) (by omega);rwa [show k + (j - k) = j by omega] at this,fun h j hj=>h (k + j) (by omega) (by omega)⟩
theorem sameB_iff (n:Nat) (g h:List S32):sameB n g h = true ↔ ∀ j:Nat,j < n → ofP g (j:Int) = ofP h (j:Int):=by
 rw [← sameFrom_zero,sameFrom_iff]
 exact ⟨fun h j hj=>h j (by omega) hj,fun h j _ hj=>h j hj⟩
def sameP (th:List (List Int)) (g h:List S32):Bool:=okH th g && (okH th h && sameB th.length g h)
theorem implSame_ev (hs:SmallTh th) (hg:g.length ≤ 1048576) (hh:h.length ≤ 1048576):Ev (fun k=>impl_HistorySame.f k th g h) (sameP th g h):=by
 have hn:=hs.len
 cases h1:okH th g with
 | false =>
  refine Ev.cb (f:=fun _=>some false) (implOkH_ev hs hg) (fun k hk=>?_) (Ev.to (Ev.now _) (by simp [sameP,h1]))
  simp only [impl_HistorySame.f]
  rw [hk,h1]
  simp
 | true =>
  refine Ev.cb (f:=fun k=>(impl_HistoryOk.f k th h).bind fun u=>if u = true then some (sameB th.length g h) else some false) (implOkH_ev hs hg) (fun k hk=>?_) (Ev.cb (f:=fun _=>some (sameP th g h)) (implOkH_ev hs hh) (fun k hk=>?_) (Ev.now _))
  ·simp only [impl_HistorySame.f]
   rw [hk,h1]
   simp only [Option.bind_some]
   rw [if_pos trivial,if_pos (by omega),if_pos (by omega),if_pos (by omega)]
  ·rw [hk]
   simp only [Option.bind_some,sameP,h1]
   cases okH th h <;> simp
end Go.Proofs.Ythljlnkanllpnaa.P
