/- Short words for steps that the printed texts take again and again: a fact carried over blocks made and draws, and what a step of a region asks. No condition. -/

import Derived.Test.YtbcjpdahdecehaaDoorP0
namespace Go.Proofs.YtbcjpdahdecehaaDoor.P
open Go.RowKit Go.Proofs.YtbcjpdahdecehaaDoorW.PrintWords Go.Proofs.YtbcjpdahdecehaaDoorW.PrintLast Go.Proofs.YtbcjpdahdecehaaDoorW.PrintMore
theorem aQ {p:Prop} (h:p):Aside0 p:=⟨h⟩
section
variable {P:Program} {ops:Array Oper} {rest:List Oper} {o:Oper} {Q:Exit → Act → World → Prop} {a:Act}
theorem box1 {W:World} {N:Tmp} {cs:Array Value} {t:TypeId}
  (h:∀ g,g = W.heap.size → ∀ w1,w1.heap[g]? = some (.cells cs t (0,0)) → Below W.heap.size W w1 → wpList P ops Q rest (a.put o.dst (.pointer (some ⟨g,0,none⟩))) w1)
  (hgd:o.guard = none:=by rfl) (hd:o.dst = some N:=by rfl)
  (hrun:(execOp a.eval o).run P W = .ok (.value (.pointer (some ⟨W.heap.size,0,none⟩))) (W.alloc (.cells cs t (0,0))):=by first | (go_simp;done) | (go_simp;rfl)):wpList P ops Q (o :: rest) a W :=
 box_event hgd hd hrun h
end
section
variable {P:Program} {ops:Array Oper} {Q:Exit → Act → World → Prop} {md:Region.Mode} {S:World → Prop} {ds:List Nat}
variable {i:Nat} {N:Option Tmp} {oi:Oper} {v:Value} {fuel:Nat} {l:Array Bool} {a a':Act} {w:World}
end
end Go.Proofs.YtbcjpdahdecehaaDoor.P
