/- Objects that calls make, further: boxes, two rows at once, what is stored into a box. No condition. -/
import Derived.Test.YtablnoddkllhmaaObj
import Derived.Test.YtablnoddkllhmaaWMore
import Derived.Test.YtablnoddkllhmaaWLast
namespace Go.Proofs.Ytablnoddkllhmaa.Obj
open Go.RowKit Go.Proofs.YtablnoddkllhmaaW.PrintWords
set_option linter.unusedVariables false
section
variable {α β : Type} {lo hi base g : Nat} {F : World → Prop} {w w' : World} {d : Kd α} {d1 : Kd β} {e e1 : Nat} {v v1 : Value} {xs ys : List α} {zs us : List β} {t : TypeId} {cs : Array Value}
/-- A box is in the interval of the call that made it. -/
theorem obj_box {o : Go.Obj} (hg : g = w.heap.size) (h : w'.heap[g]? = some o) (hs : w.heap.size ≤ w'.heap.size) : Obj w.heap.size w'.heap.size (fun W => W.heap[g]? = some o) w' :=
  ⟨hs, Nat.le_refl _, fun w2 h2 => (h2 g (by omega) (blk_lt h)).trans h⟩
/-- Two words are stored into a box. -/
theorem obj_put2 {a b : Value} (h : Obj lo hi (fun W => W.heap[g]? = some (.cells #[a, b] t (0, 0))) w) (x y : Value) (hl : lo ≤ g) (hh : g < hi) :
    Obj lo hi (fun W => W.heap[g]? = some (.cells #[x, y] t (0, 0))) ((w.setCell ⟨g, 0, none⟩ x).setCell ⟨g, 1, none⟩ y) := by
  have h1 := blk_set (blk_set h.now 0 x) 1 y
  simp at h1
  exact ⟨h.le, by simpa using h.top, fun w2 h2 => (h2 g hl hh).trans h1⟩
theorem obj_put3 {a b c : Value} (h : Obj lo hi (fun W => W.heap[g]? = some (.cells #[a, b, c] t (0, 0))) w) (x y z : Value) (hl : lo ≤ g) (hh : g < hi) :
    Obj lo hi (fun W => W.heap[g]? = some (.cells #[x, y, z] t (0, 0))) (((w.setCell ⟨g, 0, none⟩ x).setCell ⟨g, 1, none⟩ y).setCell ⟨g, 2, none⟩ z) := by
  have h1 := blk_set (blk_set (blk_set h.now 0 x) 1 y) 2 z
  simp at h1
  exact ⟨h.le, by simpa using h.top, fun w2 h2 => (h2 g hl hh).trans h1⟩
theorem kept_put2 (w : World) (g : Nat) (x y : Value) : Kept w ((w.setCell ⟨g, 0, none⟩ x).setCell ⟨g, 1, none⟩ y) (fun k => k = g) :=
  ⟨by simp, fun i hi hn => (Below.heap_setCell _ ⟨g, 1, none⟩ y i hn).trans (Below.heap_setCell w ⟨g, 0, none⟩ x i hn)⟩
theorem kept_put3 (w : World) (g : Nat) (x y z : Value) : Kept w (((w.setCell ⟨g, 0, none⟩ x).setCell ⟨g, 1, none⟩ y).setCell ⟨g, 2, none⟩ z) (fun k => k = g) :=
  ⟨by simp, fun i hi hn => (Below.heap_setCell _ ⟨g, 2, none⟩ z i hn).trans ((Below.heap_setCell _ ⟨g, 1, none⟩ y i hn).trans (Below.heap_setCell w ⟨g, 0, none⟩ x i hn))⟩
theorem Obj.kept2 {P Q : Nat → Prop} (h : Obj lo hi F w) (hk : Kept w w' (fun k => P k ∨ Q k)) (hq : ∀ k, Q k → P k) (hd : ∀ k, lo ≤ k → k < hi → ¬ P k) : Obj lo hi F w' :=
  h.kept hk (fun k h1 h2 h3 => hd k h1 h2 (h3.elim id (hq k)))
/-- A row and a row of rows that a call made. -/
def PairAt (d : Kd α) (e : Nat) (d1 : Kd β) (e1 : Nat) (base lo hi : Nat) (v v1 : Value) (xs : List α) (zs : List β) (W : World) : Prop :=
  d.R e W base (fun k => lo ≤ k ∧ k < hi) v xs ∧ Kd.S d1 e1 W base (fun k => (lo ≤ k ∧ k < hi) ∧ some k ≠ v.ownBlock) v1 zs
theorem PairAt.fst (h : PairAt d e d1 e1 base lo hi v v1 xs zs w) : d.R e w base (fun k => lo ≤ k ∧ k < hi) v xs := h.1
theorem PairAt.snd (h : PairAt d e d1 e1 base lo hi v v1 xs zs w) : Kd.S d1 e1 w base (fun k => (lo ≤ k ∧ k < hi) ∧ some k ≠ v.ownBlock) v1 zs := h.2
theorem obj_P (h0 : d.R e w' base (fun _ => True) v xs) (h1 : Kd.S d1 e1 w' base (fun k => some k ≠ v.ownBlock) v1 zs) (hb : base ≤ w'.heap.size) : Obj base w'.heap.size (PairAt d e d1 e1 base base w'.heap.size v v1 xs zs) w' :=
  ⟨hb, Nat.le_refl _, fun w2 h2 => ⟨Kd.R_move (Kd.R_mono (Kd.R_bound h0) (fun k hk => ⟨hk.2.1, hk.2.2.1⟩)) (fun k hk => h2 k hk.1 hk.2),
    Kd.S_move (Kd.S_mono (Kd.S_bound h1) (fun k hk => ⟨⟨hk.2.1, hk.2.2.1⟩, hk.1⟩)) (fun k hk => h2 k hk.1.1 hk.1.2)⟩⟩
/-- A marked pair is in the blocks where it was. -/
theorem obj_markP {b0 : Nat} {P0 : Nat → Prop} (h : Obj lo hi (PairAt d e d1 e1 base lo hi v v1 xs zs) w) (hE : d.E = []) (h0 : d.R e w' b0 P0 v ys) (h1 : Kd.S d1 e1 w' b0 (fun k => (lo ≤ k ∧ k < hi) ∧ some k ≠ v.ownBlock) v1 us) (hs : w.heap.size ≤ w'.heap.size) :
    Obj lo hi (PairAt d e d1 e1 b0 lo hi v v1 ys us) w' := by
  have ho := h.now.1
  have h2 : d.R e w' b0 (fun k => lo ≤ k ∧ k < hi) v ys := Kd.R_mono (Kd.R_tight hE h0) (fun k hk => ho.1 k hk.symm)
  exact ⟨h.le, Nat.le_trans h.top hs, fun w2 h3 => ⟨Kd.R_move h2 (fun k hk => h3 k hk.1 hk.2), Kd.S_move h1 (fun k hk => h3 k hk.1.1 hk.1.2)⟩⟩
end
end Go.Proofs.Ytablnoddkllhmaa.Obj
