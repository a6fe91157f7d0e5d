/- Trees of a kind, a number and parts, that come in: how they read, how many nodes they have, what their copies are. No condition. -/
import Derived.Test.YtnkgcjdlfenepaaP0
import Derived.Test.YtnkgcjdlfenepaaWWords
import Derived.Test.YtnkgcjdlfenepaaWLast
import Derived.Test.YtnkgcjdlfenepaaWMore
import Derived.Deep.Slices
import Derived.SizedLaws
import Derived.WideShapes
namespace Go.Proofs.Ytnkgcjdlfenepaa.P
open Go.RowKit Go.Proofs.YtnkgcjdlfenepaaW.PrintWords Go.Proofs.YtnkgcjdlfenepaaW.PrintLast
set_option linter.unusedVariables false
theorem Ev.to {α:Type} {g:Nat → Option α} {r r':α} (h:Ev g r) (e:r = r'):Ev g r':=e ▸ h
theorem Ev.sb {α β:Type} {g f:Nat → Option β} {p:Nat → Option α} {a:α} {r:β} (hp:Ev p a) (h:∀ k,p k = some a → g (k + 1) = f k) (hf:Ev f r):Ev g r:=by
 obtain ⟨K,hp⟩:=hp
 obtain ⟨K',hf⟩:=hf
 refine ⟨K + K' + 1,fun n hn=>?_⟩
 obtain ⟨m,rfl⟩:∃ m,n = m + 1:=⟨n - 1,by omega⟩
 rw [h m (hp m (by omega))]
 exact hf m (by omega)
theorem Ev.cb {α β:Type} {g f:Nat → Option β} {p:Nat → Option α} {a:α} {r:β} (hp:Ev p a) (h:∀ k,p k = some a → g k = f k) (hf:Ev f r):Ev g r:=by
 obtain ⟨K,hp⟩:=hp
 obtain ⟨K',hf⟩:=hf
 refine ⟨K + K',fun n hn=>?_⟩
 rw [h n (hp n (by omega))]
 exact hf n (by omega)
theorem wrap_id {x:Int} (h0:-9223372036854775808 ≤ x) (h1:x ≤ 9223372036854775807):wrap64 x = x:=by
 unfold wrap64
 omega
theorem wrap_succ {i n:Nat} (h:i < n) (hn:n ≤ 9223372036854775807):wrap64 ((i:Int) + 1) = ((i + 1:Nat):Int):=by
 rw [wrap_id (by omega) (by omega)]
 rfl
theorem rd29_nat (xs:List S29) (i:Nat) (h:i < xs.length):rd_T29 xs (i:Int) = xs[i]:=by
 simp [rd_T29,List.getD_eq_getElem?_getD,List.getElem?_eq_getElem h]
inductive W29:S29 → Prop where
 | mk (a b:Int) (l:List S29) (hl:l.length ≤ 1048576) (hx:∀ y,y ∈ l → W29 y):W29 ⟨a,b,l⟩
theorem W29.len {x:S29} (h:W29 x):x.f2.length ≤ 1048576:=by cases h;assumption
theorem W29.part {x:S29} (h:W29 x):∀ y,y ∈ x.f2 → W29 y:=by cases h;assumption
end Go.Proofs.Ytnkgcjdlfenepaa.P
