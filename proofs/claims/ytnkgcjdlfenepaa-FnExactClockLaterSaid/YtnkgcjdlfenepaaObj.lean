/- Objects that calls make: each within an interval of the heap's blocks; what holds of it holds as long as these blocks stay. No condition. -/
import Derived.Test.YtnkgcjdlfenepaaWWords
import Derived.Test.YtnkgcjdlfenepaaWApart
import Derived.Test.YtnkgcjdlfenepaaWKept
namespace Go.Proofs.Ytnkgcjdlfenepaa.Obj
open Go.RowKit Go.Proofs.YtnkgcjdlfenepaaW.PrintWords
set_option linter.unusedVariables false
inductive Step:Nat → Prop
 | mk (i:Nat):Step i
structure Obj (lo hi:Nat) (F:World → Prop) (w:World):Prop where
 le:lo ≤ hi
 top:hi ≤ w.heap.size
 stay:∀ w',(∀ k,lo ≤ k → k < hi → w'.heap[k]? = w.heap[k]?) → F w'
section
variable {α:Type} {lo hi base:Nat} {F:World → Prop} {w w':World} {d:Kd α} {e:Nat} {v:Value} {xs ys:List α}
theorem Obj.now (h:Obj lo hi F w):F w:=h.stay w (fun _ _ _=>rfl)
theorem Obj.below (h:Obj lo hi F w) (hb:Below w.heap.size w w'):Obj lo hi F w' :=
 ⟨h.le,Nat.le_trans h.top hb.size,fun w2 h2=>h.stay w2 (fun k h1 h3=>(h2 k h1 h3).trans (hb.block k (Nat.lt_of_lt_of_le h3 h.top)))⟩
theorem Obj.kept {P:Nat → Prop} (h:Obj lo hi F w) (hk:Kept w w' P) (hd:∀ k,lo ≤ k → k < hi → ¬ P k):Obj lo hi F w' :=
 ⟨h.le,Nat.le_trans h.top hk.1,fun w2 h2=>h.stay w2 (fun k h1 h3=>(h2 k h1 h3).trans (hk.2 k (Nat.lt_of_lt_of_le h3 h.top) (hd k h1 h3)))⟩
theorem Obj.drew (h:Obj lo hi F w) (hd:Drawn0 w w'):Obj lo hi F w':=by
 obtain ⟨n,rfl⟩:=hd.out
 exact ⟨h.le,h.top,h.stay⟩
theorem obj_S (h:Kd.S d e w' base (fun _=>True) v xs) (hb:base ≤ w'.heap.size):Obj base w'.heap.size (fun W=>Kd.S d e W base (fun k=>base ≤ k∧k < w'.heap.size) v xs) w' :=
 ⟨hb,Nat.le_refl _,fun w2 h2=>Kd.S_move (Kd.S_mono (Kd.S_bound h) (fun k hk=>⟨hk.2.1,hk.2.2.1⟩)) (fun k hk=>h2 k hk.1 hk.2)⟩
theorem obj_markS {b0:Nat} (h:Obj lo hi (fun W=>Kd.S d e W base (fun k=>lo ≤ k∧k < hi) v xs) w) (hm:Kd.S d e w' b0 (fun k=>lo ≤ k∧k < hi) v ys) (hs:w.heap.size ≤ w'.heap.size) :
  Obj lo hi (fun W=>Kd.S d e W b0 (fun k=>lo ≤ k∧k < hi) v ys) w' :=
 ⟨h.le,Nat.le_trans h.top hs,fun w2 h2=>Kd.S_move hm (fun k hk=>h2 k hk.1 hk.2)⟩
end
end Go.Proofs.Ytnkgcjdlfenepaa.Obj
