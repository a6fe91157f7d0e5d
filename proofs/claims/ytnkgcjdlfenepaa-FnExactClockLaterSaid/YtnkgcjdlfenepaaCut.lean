/- Short words for steps that the printed texts take again and again: a fact carried over blocks made and draws, and what a step of a region asks. No condition. -/

import Derived.Test.YtnkgcjdlfenepaaP0
namespace Go.Proofs.Ytnkgcjdlfenepaa.P
open Go.RowKit Go.Proofs.YtnkgcjdlfenepaaW.PrintWords Go.Proofs.YtnkgcjdlfenepaaW.PrintLast Go.Proofs.YtnkgcjdlfenepaaW.PrintMore
inductive Rch : World → World → Prop
 | refl (w : World) : Rch w w
 | alloc {w w' : World} (h : Rch w w') (o : Obj) : Rch w (w'.alloc o)
 | drewN {w w' : World} (h : Rch w w') (n : Nat) : Rch w (w'.drewN n)
 | drew {w w' : World} (h : Rch w w') : Rch w w'.drew
def bn (k n : Nat) : Array Bool := ((List.range k).map fun i => n.testBit i).toArray
theorem aQ {p : Prop} (h : p) : Aside0 p := ⟨h⟩
theorem bQ {α β : Type} {o : Option α} {f : α → Option β} {r : β} (h : o.bind f = some r) : ∃ a, Aside0 (o = some a) ∧ f a = some r := by
 obtain ⟨a, h1, h2⟩ := Option.bind_eq_some_iff.mp h
 exact ⟨a, ⟨h1⟩, h2⟩
theorem cz3 {w : World} {g : Nat} {t : TypeId} {a b c : Value} (h : w.heap[g]? = some (.cells #[a, b, c] t (0, 0))) : w.cell? ⟨g, 0, none⟩ = some a ∧ w.cell? ⟨g, 1, none⟩ = some b ∧ w.cell? ⟨g, 2, none⟩ = some c ∧ w.frozen? ⟨g, 0, none⟩ = false ∧ w.frozen? ⟨g, 1, none⟩ = false ∧ w.frozen? ⟨g, 2, none⟩ = false :=
 ⟨blk_cell h 0, blk_cell h 1, blk_cell h 2, blk_frozen h 0, blk_frozen h 1, blk_frozen h 2⟩
theorem nN {α : Type} {d : Kd α} {e base : Nat} {w w' : World} {ok : Nat → Prop} {v : Value} {xs : List α} (h : Kd.N d e w base ok v xs) (r : Rch w w' := by repeat (with_reducible first | exact Rch.refl _ | apply Rch.alloc | apply Rch.drewN | apply Rch.drew)) : Kd.N d e w' base ok v xs := by
 induction r with
 | refl => exact h
 | alloc _ o ih => exact Kd.N_alloc ih o
 | drewN _ n ih => exact Kd.N_drewN ih n
 | drew _ ih => exact Kd.N_drew ih
theorem nV {α : Type} {d : Kd α} {e base : Nat} {w w' : World} {ok : Nat → Prop} {v : Value} {xs : List α} (h : Kd.V d e w base ok v xs) (r : Rch w w' := by repeat (with_reducible first | exact Rch.refl _ | apply Rch.alloc | apply Rch.drewN | apply Rch.drew)) : Kd.V d e w' base ok v xs := by
 induction r with
 | refl => exact h
 | alloc _ o ih => exact Kd.V_alloc ih o
 | drewN _ n ih => exact Kd.V_drewN ih n
 | drew _ ih => exact Kd.V_drew ih
theorem nR {α : Type} {d : Kd α} {e base : Nat} {w w' : World} {ok : Nat → Prop} {v : Value} {xs : List α} (h : Kd.R d e w base ok v xs) (r : Rch w w' := by repeat (with_reducible first | exact Rch.refl _ | apply Rch.alloc | apply Rch.drewN | apply Rch.drew)) : Kd.R d e w' base ok v xs := by
 induction r with
 | refl => exact h
 | alloc _ o ih => exact Kd.R_alloc ih o
 | drewN _ n ih => exact Kd.R_drewN ih n
 | drew _ ih => exact Kd.R_drew ih
theorem nC {α : Type} {d : Kd α} {n : Nat} {A : Option Addr} {w w' : World} {xs : List α} (h : Kd.C d w A n xs) (r : Rch w w' := by repeat (with_reducible first | exact Rch.refl _ | apply Rch.alloc | apply Rch.drewN | apply Rch.drew)) : Kd.C d w' A n xs := by
 induction r with
 | refl => exact h
 | alloc _ o ih => exact Kd.C_alloc ih o
 | drewN _ n ih => exact Kd.C_drewN ih n
 | drew _ ih => exact Kd.C_drew ih
theorem nB {g : Nat} {o : Obj} {w w' : World} (h : w.heap[g]? = some o) (r : Rch w w' := by repeat (with_reducible first | exact Rch.refl _ | apply Rch.alloc | apply Rch.drewN | apply Rch.drew)) : w'.heap[g]? = some o := by
 induction r with
 | refl => exact h
 | alloc _ o ih => exact blk_alloc ih o
 | drewN _ n ih => exact blk_drewN ih n
 | drew _ ih => exact blk_drew ih
inductive Fw (g : Nat) : World → World → Prop
 | refl (w : World) : Fw g w w
 | alloc {w w' : World} (h : Fw g w w') (o : Obj) : Fw g w (w'.alloc o)
 | drewN {w w' : World} (h : Fw g w w') (n : Nat) : Fw g w (w'.drewN n)
 | drew {w w' : World} (h : Fw g w w') : Fw g w w'.drew
 | set {w w' : World} (h : Fw g w w') (i : Nat) (u : Value) : Fw g w (w'.setCell ⟨g, i, none⟩ u)
theorem nFN {α : Type} {d : Kd α} {e base g : Nat} {w w' : World} {ok : Nat → Prop} {v : Value} {xs : List α} (h : Kd.N d e w base ok v xs) (hg : ∀ k, ok k → k ≠ g) (r : Fw g w w' := by repeat (with_reducible first | exact Fw.refl _ | apply Fw.set | apply Fw.alloc | apply Fw.drewN | apply Fw.drew)) : Kd.N d e w' base ok v xs := by
 induction r with
 | refl => exact h
 | alloc _ o ih => exact Kd.N_alloc ih o
 | drewN _ n ih => exact Kd.N_drewN ih n
 | drew _ ih => exact Kd.N_drew ih
 | set _ i u ih => exact Kd.N_far ih hg u
theorem nFV {α : Type} {d : Kd α} {e base g : Nat} {w w' : World} {ok : Nat → Prop} {v : Value} {xs : List α} (h : Kd.V d e w base ok v xs) (hg : ∀ k, ok k → k ≠ g) (r : Fw g w w' := by repeat (with_reducible first | exact Fw.refl _ | apply Fw.set | apply Fw.alloc | apply Fw.drewN | apply Fw.drew)) : Kd.V d e w' base ok v xs := by
 induction r with
 | refl => exact h
 | alloc _ o ih => exact Kd.V_alloc ih o
 | drewN _ n ih => exact Kd.V_drewN ih n
 | drew _ ih => exact Kd.V_drew ih
 | set _ i u ih => exact Kd.V_far ih hg u
theorem bB {p : Prop} (h : p := by repeat (first | (with_reducible first | exact HB.out | apply below_alloc | apply pw_below_drewN | apply below_drew1 | refine below_set ?_ (Aside0.out (by assumption)) | refine below_set ?_ (IsS67.ge HI0.out)) | exact HB.out)) : p := h
theorem gB {p : Prop} (h : p := by rw [hg];exact below_size bB) : p := h
theorem bF {p : Prop} (h : p := by repeat (with_reducible first | exact Aside0.out (by assumption) | refine blk_drewN ?_ _ | refine blk_drew ?_ | refine blk_alloc ?_ _ | refine blk_far ?_ (Aside0.out (by assumption)) _)) : p := h
theorem bP {p : Prop} (h : p := by repeat (first | (with_reducible first | exact Aside0.out (by assumption) | refine blk_drewN ?_ _ | refine blk_drew ?_ | refine blk_alloc ?_ _ | refine blk_far ?_ (Aside0.out (by assumption)) _ | apply blk_put) | rfl)) : p := h
theorem eW {p : Prop} (h : p := by first | rfl | (simp [errW_none,errW_some] <;> rfl) | (simp [*,errW_none,errW_some] <;> rfl)) : p := h
theorem mP {p : Prop} (h : p := by (try simp only [List.map_toArray,List.map_cons,List.map_nil]);first | done | rfl | (simp only [List.length_drop,List.length_take];rfl)) : p := h
theorem eS {p : Prop} (h : p := by first | rfl | (simp;done) | (simp [*];done)) : p := h
section
variable {P : Program} {ops : Array Oper} {rest : List Oper} {o : Oper} {Q : Exit → Act → World → Prop} {a : Act}
theorem box1 {W : World} {N : Tmp} {cs : Array Value} {t : TypeId}
  (h : ∀ g, g = W.heap.size → ∀ w1, w1.heap[g]? = some (.cells cs t (0, 0)) → Below W.heap.size W w1 → wpList P ops Q rest (a.put o.dst (.pointer (some ⟨g, 0, none⟩))) w1)
  (hgd : o.guard = none := by rfl) (hd : o.dst = some N := by rfl)
  (hrun : (execOp a.eval o).run P W = .ok (.value (.pointer (some ⟨W.heap.size, 0, none⟩))) (W.alloc (.cells cs t (0, 0))) := by first | (go_simp;done) | (go_simp;rfl)) : wpList P ops Q (o :: rest) a W :=
 box_event hgd hd hrun h
end
section
variable {P : Program} {ops : Array Oper} {Q : Exit → Act → World → Prop} {md : Region.Mode} {S : World → Prop} {ds : List Nat}
variable {i : Nat} {N : Option Tmp} {oi : Oper} {v : Value} {fuel : Nat} {l : Array Bool} {a a' : Act} {w : World}
theorem pur (l' : Array Bool) (h : wpAnyLast P md ops Q S ds fuel l' a' w) (hi : ops[i]? = some oi := by rfl) (hN : oi.dst = N := by rfl)
  (hc : anyB md ops l l' i = true := by first | exact any_of HT_.out (by kernel_rfl) | kernel_rfl) (hQ : ∀ c a w, Q (.panic c) (a.put oi.dst v) w → Q (.panic c) a w := by exact fun _ _ _ h => h)
  (hy : Yields P ops oi v a := by first | (refine Or.inl ⟨by rfl,?_⟩;intro w';go_simp;with_reducible rfl) | exact Or.inr ⟨by rfl,rfl⟩) (ha : a.put N v = a' := by simp only [Act.put,List.setIfInBounds_toArray,List.set_cons_zero,List.set_cons_succ,i64_w,i32_w];rfl) :
  wpAnyLast P md ops Q S ds (fuel + 1) l a w := pure_ l' hi hN hc hQ hy ha h
theorem tak (l' : Array Bool) (h : wpAnyLast P md ops Q S ds fuel l' a' w) (hi : ops[i]? = some oi := by rfl) (hN : oi.dst = N := by rfl)
  (hc : takeB md ops ds l l' i = true := by first | exact take_ofW HT_.out HW_.out (by kernel_rfl) | kernel_rfl) (hQ : ∀ c a w, Q (.panic c) (a.put oi.dst v) w → Q (.panic c) a w := by exact fun _ _ _ h => h)
  (hy : YieldsIf P ops S oi v a := by refine Or.inl ⟨by rfl,?_⟩;intro w' hs_;go_simp;with_reducible rfl) (hS : S w := by exact hHeld) (ha : a.put N v = a' := by simp only [Act.put,List.setIfInBounds_toArray,List.set_cons_zero,List.set_cons_succ,i64_w,i32_w];rfl) :
  wpAnyLast P md ops Q S ds (fuel + 1) l a w := take_ l' hi hN hc hQ hy hS ha h
theorem nrm {a0 : Act} (h : wpAnyLast P md ops Q S ds fuel l a' w) (ha : a0.put N v = a' := by simp only [Act.put,List.setIfInBounds_toArray,List.set_cons_zero,List.set_cons_succ,i64_w,i32_w];rfl) : wpAnyLast P md ops Q S ds fuel l (a0.put N v) w := norm_ ha h
theorem goes1 {K : Act → World → Prop} {f : FuncId} {fn : Func} {as_ : Array Operand} {ts : Array TypeId} (hf : P.funcs[f]? = some fn) (args : Array Value) (h : Calls P f args w fun e w' => ∃ v, e = .returned v ∧ K (a.put N v) w')
  (hname : (fn.name == "runtime.NumGoroutine") = false := by kernel_rfl) (hb : fn.body.isSome = true := by rfl) (hw : Region.wanted oi (yielded ops a.tmps) = true := by rfl) (hN : oi.dst = N := by rfl)
  (hop : oi.op = .call { callee := .value (.func f), args := as_, argTypes := ts } := by rfl) (hargs : as_.map a.eval = args := by (try simp only [List.map_toArray,List.map_cons,List.map_nil]);first | done | rfl | (simp only [List.length_drop,List.length_take];rfl)) :
  if Region.wanted oi (yielded ops a.tmps) = true then Oper.wp P oi a w K Q else K (a.put N undef) w := goes_ hf hname hb args hw hN hop hargs h
end
end Go.Proofs.Ytnkgcjdlfenepaa.P
