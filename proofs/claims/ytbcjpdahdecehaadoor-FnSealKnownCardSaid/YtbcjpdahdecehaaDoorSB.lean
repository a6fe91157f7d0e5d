/- Rounds, sums that do not wrap, elements of lists: small lemmas for plain laws. No condition. -/
import Derived.Test.YtbcjpdahdecehaaDoorP0
import Derived.Test.YtbcjpdahdecehaaDoorWWords
import Derived.Test.YtbcjpdahdecehaaDoorWLast
namespace Go.Proofs.YtbcjpdahdecehaaDoor.P
open Go.RowKit Go.Proofs.YtbcjpdahdecehaaDoorW.PrintWords Go.Proofs.YtbcjpdahdecehaaDoorW.PrintLast
set_option linter.unusedVariables false
theorem Ev.to {α:Type} {g:Nat → Option α} {r r':α} (h:Ev g r) (e:r = r'):Ev g r':=e ▸ h
theorem Ev.sb {α β:Type} {g f:Nat → Option β} {p:Nat → Option α} {a:α} {r:β} (hp:Ev p a) (h:∀ k,p k = some a → g (k + 1) = f k) (hf:Ev f r):Ev g r:=by
 obtain ⟨K,hp⟩:=hp
 obtain ⟨K',hf⟩:=hf
 refine ⟨K + K' + 1,fun n hn=>?_⟩
 obtain ⟨m,rfl⟩:∃ m,n = m + 1:=⟨n - 1,by omega⟩
 rw [h m (hp m (by omega))]
 exact hf m (by omega)
theorem Ev.cb {α β:Type} {g f:Nat → Option β} {p:Nat → Option α} {a:α} {r:β} (hp:Ev p a) (h:∀ k,p k = some a → g k = f k) (hf:Ev f r):Ev g r:=by
 obtain ⟨K,hp⟩:=hp
 obtain ⟨K',hf⟩:=hf
 refine ⟨K + K',fun n hn=>?_⟩
 rw [h n (hp n (by omega))]
 exact hf n (by omega)
theorem wrap_id {x:Int} (h0:-9223372036854775808 ≤ x) (h1:x ≤ 9223372036854775807):wrap64 x = x:=by
 unfold wrap64
 omega
theorem wrap_succ {i n:Nat} (h:i < n) (hn:n ≤ 9223372036854775807):wrap64 ((i:Int) + 1) = ((i + 1:Nat):Int):=by
 rw [wrap_id (by omega) (by omega)]
 rfl
theorem rd25_nat (xs:List S25) (i:Nat) (h:i < xs.length):rd_T25 xs (i:Int) = xs[i]:=by
 simp [rd_T25,List.getD_eq_getElem?_getD,List.getElem?_eq_getElem h]
inductive W25:S25 → Prop where
 | mk (a b:Int) (l:List S25) (hl:l.length ≤ 1048576) (hx:∀ y,y ∈ l → W25 y):W25 ⟨a,b,l⟩
theorem W25.len {x:S25} (h:W25 x):x.f2.length ≤ 1048576:=by cases h;assumption
theorem W25.part {x:S25} (h:W25 x):∀ y,y ∈ x.f2 → W25 y:=by cases h;assumption
theorem eta25 (x:S25):(⟨x.f0,x.f1,x.f2⟩:S25) = x:=by cases x;rfl
end Go.Proofs.YtbcjpdahdecehaaDoor.P
