/- The first element of a list for which a predicate holds, and whether there is one: plain words for slices.IndexFunc and slices.ContainsFunc. No condition. -/
import Derived.Test.YtnkgcjdlfenepaaWWords
namespace Go.Proofs.Ytnkgcjdlfenepaa.Any
open Go.Proofs.YtnkgcjdlfenepaaW.PrintWords
def anyOf {α:Type} (p:α → Option Bool):List α → Option Bool
 | []=>some false
 | x :: xs=>(p x).bind fun b=>if b = true then some true else anyOf p xs
def idxOf {α:Type} (p:α → Option Bool):List α → Int → Option Int
 | [],_=>some (-1)
 | x :: xs,i=>(p x).bind fun b=>if b = true then some i else idxOf p xs (i + 1)
theorem anyOf_idx {α:Type} {p:α → Option Bool}:∀ (xs:List α) (i:Int),0 ≤ i → ∀ b,anyOf p xs = some b → ∃ r,idxOf p xs i = some r∧decide (r ≥ 0) = b
 | [],i,_,b,h=>⟨-1,rfl,by
   have:false = b:=Option.some.inj h
   subst this
   rfl⟩
 | x :: xs,i,hi,b,h=>by
  obtain ⟨t,ht,h⟩:=Option.bind_eq_some_iff.1 h
  cases t with
  | true =>
   have:true = b:=Option.some.inj h
   subst this
   exact ⟨i,by simp [idxOf,ht],by simpa using hi⟩
  | false =>
   obtain ⟨r,hr,hb⟩:=anyOf_idx xs (i + 1) (by omega) b h
   exact ⟨r,by simpa [idxOf,ht] using hr,hb⟩
theorem anyOf_mono {α:Type} {p q:α → Option Bool} (h:∀ x,LeO (p x) (q x)):∀ xs,LeO (anyOf p xs) (anyOf q xs)
 | []=>LeO.refl _
 | x :: xs=>LeO.bind (h x) (fun _=>LeO.ite (LeO.refl _) (anyOf_mono h xs))
theorem idxOf_drop {α:Type} {p:α → Option Bool} {xs:List α} {i:Nat} {j:Int} (hi:i < xs.length):idxOf p (xs.drop i) j = (p xs[i]).bind fun b=>if b = true then some j else idxOf p (xs.drop (i + 1)) (j + 1):=by
 rw [List.drop_eq_getElem_cons hi]
 rfl
end Go.Proofs.Ytnkgcjdlfenepaa.Any
