/- One step adds up. Plain; no condition. -/
import Derived.Test.YtablnoddkllhmaaChSumA
import Derived.Test.YtablnoddkllhmaaAfter
namespace Go.Proofs.Ytablnoddkllhmaa.P
open Go.RowKit Go.Proofs.YtablnoddkllhmaaW.PrintWords Go.Proofs.YtablnoddkllhmaaW.PrintLast
set_option linter.unusedVariables false
set_option linter.unusedSimpArgs false
structure Dist (x:List Int) (n k:Nat):Prop where
 len:x.length = n
 nn:∀ t,t < n → 0 ≤ rd x t
 sum:sg (fun t:Nat=>rd x t) n = 6 ^ k
theorem spA_rd (row:List Int) (x:Int) (d:Nat):∀ (t:Nat) (out:List Int) (j:Nat),t + d ≤ out.length → rd (spA row x d t out) j = if t ≤ j∧j < t + d then wrap64 (rd out j + wrap64 (x * rd row j)) else rd out j:=by
 induction d with
 | zero=>intro t out j _;rw [spA,if_neg (by omega)]
 | succ d ih =>
  intro t out j hl
  rw [spA,ih (t + 1) _ j (by rw [List.length_set];omega),rd_set _ _ _ _ (by omega) (by omega)]
  by_cases h1:j = t
  ·subst h1
   rw [if_neg (by omega),if_pos rfl,if_pos (by omega)]
  ·rw [if_neg (show ¬ (j:Int) = (t:Int) by omega)]
   by_cases h2:t + 1 ≤ j∧j < t + 1 + d
   ·rw [if_pos h2,if_pos (by omega)]
   ·rw [if_neg h2,if_neg (by omega)]
theorem pow6_le {k:Nat} (hk:k ≤ 12):(6:Int) ^ k ≤ 2176782336∧(1:Int) ≤ 6 ^ k:=by
 rcases (by omega:k = 0 ∨ k = 1 ∨ k = 2 ∨ k = 3 ∨ k = 4 ∨ k = 5 ∨ k = 6 ∨ k = 7 ∨ k = 8 ∨ k = 9 ∨ k = 10 ∨ k = 11 ∨ k = 12) with h | h | h | h | h | h | h | h | h | h | h | h | h <;> subst h <;> decide
theorem prod_bound {a w S:Int} (ha:0 ≤ a) (haS:a ≤ S) (h0:0 ≤ w) (h6:w ≤ 6):0 ≤ a * w∧a * w ≤ 6 * a:=by
 refine ⟨Int.mul_nonneg ha h0,?_⟩
 rw [Int.mul_comm 6 a]
 exact Int.mul_le_mul_of_nonneg_left h6 ha
theorem spB_rd {m:List Int} {ws:List (List Int)} {n:Nat} (h:Chain m ws n) {x:List Int} {k:Nat} (hx:Dist x n k) (hk:k ≤ 11) (d:Nat):∀ (s:Nat) (out:List Int),s + d = n → out.length = n →
  (∀ j,j < n → rd out j = sg (fun a=>rd x a * wt ws a j) s) → ∀ j,j < n → rd (spB ws x d s out) j = sg (fun a=>rd x a * wt ws a j) n:=by
 have hp:=pow6_le (k:=k) (by omega)
 induction d with
 | zero =>
  intro s out hs hl ho j hj
  have hs':s = n:=by omega
  rw [spB,ho j hj,hs']
 | succ d ih =>
  intro s out hs hl ho j hj
  rw [spB]
  refine ih (s + 1) _ (by omega) (by rw [spA_length];exact hl) (fun j hj=>?_) j hj
  have hxl:=hx.len
  rw [spA_rd _ _ _ _ _ _ (by omega),if_pos (by omega),ho j hj,sg]
  have hterm:∀ a,a < n → 0 ≤ rd x a * wt ws a j∧rd x a * wt ws a j ≤ 6 * rd x a:=fun a ha=>prod_bound (S:=rd x a) (hx.nn a ha) (Int.le_refl _) (h.w0 a j ha hj).1 (h.w0 a j ha hj).2
  have hall:sg (fun a=>6 * rd x a) n = 6 * 6 ^ k:=by rw [sg_mul,hx.sum]
  have h1:sg (fun a=>rd x a * wt ws a j) s ≤ 6 * 6 ^ k:=by
   rw [← hall]
   exact Int.le_trans (sg_part (by omega) (fun i hi=>(hterm i hi).1)) (sg_le (fun i hi=>(hterm i hi).2))
  have h2:0 ≤ sg (fun a=>rd x a * wt ws a j) s:=sg_nonneg (fun i hi=>(hterm i (by omega)).1)
  have h3:=hterm s (by omega)
  have h4:rd x s ≤ 6 ^ k:=by rw [← hx.sum];exact sg_one (f:=fun t:Nat=>rd x t) (by omega) hx.nn
  show wrap64 (_ + wrap64 (rd x s * wt ws s j)) = _
  rw [wrap_id (x:=rd x s * wt ws s j) (by omega) (by omega),wrap_id (by omega) (by omega)]
theorem spread_rd {m:List Int} {ws:List (List Int)} {n:Nat} (h:Chain m ws n) {x:List Int} {k:Nat} (hx:Dist x n k) (hk:k ≤ 11) {j:Nat} (hj:j < n):rd (spreadP ws x) j = sg (fun a=>rd x a * wt ws a j) n:=by
 rw [spreadP,hx.len]
 refine spB_rd h hx hk n 0 _ (by omega) (by simp) (fun j hj=>?_) j hj
 rw [rd_zeros];rfl
theorem spread_dist {m:List Int} {ws:List (List Int)} {n:Nat} (h:Chain m ws n) {x:List Int} {k:Nat} (hx:Dist x n k) (hk:k ≤ 11):Dist (spreadP ws x) n (k + 1):=by
 refine ⟨by rw [spreadP_length];exact hx.len,fun t ht=>?_,?_⟩
 ·rw [spread_rd h hx hk ht]
  exact sg_nonneg (fun a ha=>Int.mul_nonneg (hx.nn a ha) (h.w0 a t ha ht).1)
 ·have e:sg (fun t:Nat=>rd (spreadP ws x) t) n = sg (fun t=>sg (fun a=>rd x a * wt ws a t) n) n:=sg_congr (fun t ht=>spread_rd h hx hk ht)
  rw [e,sg_swap]
  have e2:sg (fun a=>sg (fun t=>rd x a * wt ws a t) n) n = sg (fun a=>rd x a * 6) n:=sg_congr (fun a ha=>by rw [sg_mul,h.w6 a ha])
  rw [e2,sg_mul_r,hx.sum,Int.pow_succ]
theorem begin_dist {n s:Nat} (hs:s < n):Dist (beginP n s) n 0:=by
 have e:∀ t:Nat,rd (beginP n s) t = if t = s then 1 else 0:=by
  intro t
  rw [beginP,rd_set _ _ _ _ (by omega) (by simp;omega),rd_zeros]
  by_cases h:t = s
  ·rw [if_pos (by omega),if_pos h]
  ·rw [if_neg (by omega),if_neg h]
 refine ⟨beginP_length _ _,fun t _=>?_,?_⟩
 ·rw [e];split <;> omega
 ·have e2:sg (fun t:Nat=>rd (beginP n s) t) n = sg (fun t=>if t = s then 1 else 0) n:=sg_congr (fun t _=>e t)
  rw [e2,sg_single,if_pos hs];rfl
theorem begin_rd {n s:Nat} (hs:s < n) (t:Nat):rd (beginP n s) t = if t = s then 1 else 0:=by
 rw [beginP,rd_set _ _ _ _ (by omega) (by simp;omega),rd_zeros]
 by_cases h:t = s
 ·rw [if_pos (by omega),if_pos h]
 ·rw [if_neg (by omega),if_neg h]
theorem steps_dist {m:List Int} {ws:List (List Int)} {n s:Nat} (h:Chain m ws n) (hs:s < n):∀ k:Nat,k ≤ 12 → Dist (stepsP ws k (beginP n s)) n k
 | 0,_=>begin_dist hs
 | k + 1,hk=>by rw [stepsP_succ];exact spread_dist h (steps_dist h hs k (by omega)) (by omega)
end Go.Proofs.Ytablnoddkllhmaa.P
