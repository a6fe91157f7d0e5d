/- Rows of a chain; rounds at whose head something is asked. Plain; no condition. -/
import Derived.Test.YtablnoddkllhmaaChOk
namespace Go.Proofs.Ytablnoddkllhmaa.P
open Go.RowKit Go.Proofs.YtablnoddkllhmaaW.PrintWords Go.Proofs.YtablnoddkllhmaaW.PrintLast
set_option linter.unusedVariables false
set_option linter.unusedSimpArgs false
theorem Ev.sb {α β:Type} {g f:Nat → Option β} {p:Nat → Option α} {a:α} {r:β} (hp:Ev p a) (h:∀ k,p k = some a → g (k + 1) = f k) (hf:Ev f r):Ev g r:=by
 obtain ⟨K,hp⟩:=hp
 obtain ⟨K',hf⟩:=hf
 refine ⟨K + K' + 1,fun n hn=>?_⟩
 obtain ⟨m,rfl⟩:∃ m,n = m + 1:=⟨n - 1,by omega⟩
 rw [h m (hp m (by omega))]
 exact hf m (by omega)
theorem Ev.cb {α β:Type} {g f:Nat → Option β} {p:Nat → Option α} {a:α} {r:β} (hp:Ev p a) (h:∀ k,p k = some a → g k = f k) (hf:Ev f r):Ev g r:=by
 obtain ⟨K,hp⟩:=hp
 obtain ⟨K',hf⟩:=hf
 refine ⟨K + K',fun n hn=>?_⟩
 rw [h n (hp n (by omega))]
 exact hf n (by omega)
structure Rows (ws:List (List Int)) (n:Nat):Prop where
 le:n ≤ 60
 len:ws.length = n
 row:∀ i:Nat,i < n → (rd_L1 ws i).length = n
theorem chFrom_row {m:List Int} {ws:List (List Int)}:∀ (d s:Nat),chFrom m ws d s = true → ∀ i,s ≤ i → i < s + d → (rd_L1 ws i).length = m.length∧rowFrom (rd_L1 ws i) m.length 0 0 = true∧0 ≤ rd m i∧rd m i ≤ 9
 | 0,s,_,i,h1,h2=>by omega
 | d + 1,s,h,i,h1,h2=>by
  simp only [chFrom,Bool.and_eq_true,decide_eq_true_eq] at h
  rcases Nat.eq_or_lt_of_le h1 with rfl | h3
  ·exact ⟨h.2.1,h.2.2.1,h.1.1,h.1.2⟩
  ·exact chFrom_row d (s + 1) h.2.2.2 i h3 (by omega)
theorem chOk_rows {m:List Int} {ws:List (List Int)} (h:chOk m ws = true):Rows ws m.length∧1 ≤ m.length:=by
 simp only [chOk,Bool.and_eq_true,decide_eq_true_eq] at h
 exact ⟨⟨h.1.2,h.2.1,fun i hi=>(chFrom_row _ _ h.2.2 i (by omega) (by omega)).1⟩,h.1.1⟩
theorem rd_set (xs:List Int) (i:Nat) (x v:Int) (h0:0 ≤ v) (hi:i < xs.length):rd (xs.set i x) v = if v = (i:Int) then x else rd xs v:=by
 obtain ⟨j,rfl⟩:=Int.eq_ofNat_of_zero_le h0
 simp only [rd,Int.toNat_natCast,List.getD_eq_getElem?_getD]
 by_cases e:j = i
 ·subst e;rw [List.getElem?_set_self hi];simp
 ·rw [List.getElem?_set_ne (Ne.symm e),if_neg (by omega)]
theorem rd_zeros (n:Nat) (v:Int):rd (List.replicate n 0) v = 0:=by
 simp only [rd,List.getD_eq_getElem?_getD,List.getElem?_replicate]
 split <;> rfl
theorem rd_ext {xs ys:List Int} (hl:xs.length = ys.length) (h:∀ i:Nat,i < xs.length → rd xs i = rd ys i):xs = ys:=by
 apply List.ext_getElem hl
 intro i h1 h2
 have:=h i h1
 rwa [rd_nat _ _ h1,rd_nat _ _ h2] at this
end Go.Proofs.Ytablnoddkllhmaa.P
