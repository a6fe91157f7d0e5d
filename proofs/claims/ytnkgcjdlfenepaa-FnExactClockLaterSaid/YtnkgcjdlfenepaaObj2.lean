/- Objects that calls make, further: boxes, two rows at once, what is stored into a box. No condition. -/
import Derived.Test.YtnkgcjdlfenepaaObj
import Derived.Test.YtnkgcjdlfenepaaWMore
import Derived.Test.YtnkgcjdlfenepaaWLast
namespace Go.Proofs.Ytnkgcjdlfenepaa.Obj
open Go.RowKit Go.Proofs.YtnkgcjdlfenepaaW.PrintWords
set_option linter.unusedVariables false
section
variable {α β:Type} {lo hi base g:Nat} {F:World → Prop} {w w':World} {d:Kd α} {d1:Kd β} {e e1:Nat} {v v1:Value} {xs ys:List α} {zs us:List β} {t:TypeId} {cs:Array Value}
theorem obj_box {o:Go.Obj} (hg:g = w.heap.size) (h:w'.heap[g]? = some o) (hs:w.heap.size ≤ w'.heap.size):Obj w.heap.size w'.heap.size (fun W=>W.heap[g]? = some o) w' :=
 ⟨hs,Nat.le_refl _,fun w2 h2=>(h2 g (by omega) (blk_lt h)).trans h⟩
theorem obj_put3 {a b c:Value} (h:Obj lo hi (fun W=>W.heap[g]? = some (.cells #[a,b,c] t (0,0))) w) (x y z:Value) (hl:lo ≤ g) (hh:g < hi) :
  Obj lo hi (fun W=>W.heap[g]? = some (.cells #[x,y,z] t (0,0))) (((w.setCell ⟨g,0,none⟩ x).setCell ⟨g,1,none⟩ y).setCell ⟨g,2,none⟩ z):=by
 have h1:=blk_set (blk_set (blk_set h.now 0 x) 1 y) 2 z
 simp at h1
 exact ⟨h.le,by simpa using h.top,fun w2 h2=>(h2 g hl hh).trans h1⟩
theorem kept_put3 (w:World) (g:Nat) (x y z:Value):Kept w (((w.setCell ⟨g,0,none⟩ x).setCell ⟨g,1,none⟩ y).setCell ⟨g,2,none⟩ z) (fun k=>k = g) :=
 ⟨by simp,fun i hi hn=>(Below.heap_setCell _ ⟨g,2,none⟩ z i hn).trans ((Below.heap_setCell _ ⟨g,1,none⟩ y i hn).trans (Below.heap_setCell w ⟨g,0,none⟩ x i hn))⟩
def PairAt (d:Kd α) (e:Nat) (d1:Kd β) (e1:Nat) (base lo hi:Nat) (v v1:Value) (xs:List α) (zs:List β) (W:World):Prop :=
 d.R e W base (fun k=>lo ≤ k∧k < hi) v xs∧Kd.S d1 e1 W base (fun k=>(lo ≤ k∧k < hi)∧some k ≠ v.ownBlock) v1 zs
theorem PairAt.snd (h:PairAt d e d1 e1 base lo hi v v1 xs zs w):Kd.S d1 e1 w base (fun k=>(lo ≤ k∧k < hi)∧some k ≠ v.ownBlock) v1 zs:=h.2
end
end Go.Proofs.Ytnkgcjdlfenepaa.Obj
