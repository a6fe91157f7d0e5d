/- Folded, a chain comes to each mark as likely. Plain; no condition. -/
import Derived.Test.YtablnoddkllhmaaChLump
import Derived.Test.YtablnoddkllhmaaChSum
import Derived.Test.YtablnoddkllhmaaMark
namespace Go.Proofs.Ytablnoddkllhmaa.P
open Go.RowKit Go.Proofs.YtablnoddkllhmaaW.PrintWords Go.Proofs.YtablnoddkllhmaaW.PrintLast
set_option linter.unusedVariables false
set_option linter.unusedSimpArgs false
theorem smA_sg {m x:List Int} {mark S:Int} (hS:S ≤ 2176782336) (d:Nat):∀ (t:Nat) (a:Int),(∀ i:Nat,t ≤ i → i < t + d → 0 ≤ rd x i) → 0 ≤ a → a + sg (fun i=>rd x ((t + i:Nat):Int)) d ≤ S →
  smA m mark x d t a = a + sg (fun i=>if rd m ((t + i:Nat):Int) = mark then rd x ((t + i:Nat):Int) else 0) d:=by
 induction d with
 | zero=>intro t a _ _ _;simp [smA,sg]
 | succ d ih =>
  intro t a h h0 h1
  have hb:=h t (Nat.le_refl _) (by omega)
  have hs:∀ (f:Nat → Int) (d:Nat),sg (fun i=>f (t + i)) (d + 1) = f t + sg (fun i=>f (t + 1 + i)) d:=by
   intro f d
   induction d with
   | zero=>simp [sg]
   | succ d ihd =>
    rw [sg,ihd,sg]
    have:t + (d + 1) = t + 1 + d:=by omega
    rw [this];omega
  have hn:=sg_nonneg (f:=fun i=>rd x ((t + 1 + i:Nat):Int)) (n:=d) (fun i hi=>h (t + 1 + i) (by omega) (by omega))
  rw [hs (fun i=>rd x (i:Int))] at h1
  rw [smA,hs (fun i=>if rd m (i:Int) = mark then rd x (i:Int) else 0)]
  by_cases e:rd m t = mark
  ·rw [if_pos e,if_pos e,wrap_id (by omega) (by omega),ih (t + 1) _ (fun i hi hi2=>h i (by omega) (by omega)) (by omega) (by omega)]
   omega
  ·rw [if_neg e,if_neg e,ih (t + 1) _ (fun i hi hi2=>h i (by omega) (by omega)) (by omega) (by omega)]
   omega
theorem smP_sg {m x:List Int} {mark:Int} {n k:Nat} (hx:Dist x n k) (hk:k ≤ 12):smP m mark x = sg (fun t=>if rd m (t:Int) = mark then rd x (t:Int) else 0) n:=by
 have hp:=pow6_le hk
 rw [smP,hx.len,smA_sg hp.1 n 0 0 (fun i _ hi=>hx.nn i (by omega)) (by omega) (by
  have e:sg (fun i=>rd x ((0 + i:Nat):Int)) n = 6 ^ k:=by rw [← hx.sum];exact sg_congr (fun i _=>by rw [Nat.zero_add])
  omega),Int.zero_add]
 exact sg_congr (fun i hi=>by rw [Nat.zero_add])
section
variable {m:List Int} {ws:List (List Int)} {cl:List Int} {n:Nat} {M:List Int} {W:List (List Int)}
theorem lump_begin (hl:Lump m ws cl n) {s q r:Nat} (hs:s < n) (hq:q < n) (hsq:rd cl s = (q:Int)) (hqq:rd cl q = (q:Int)) (hr:r < n) (hrr:rd cl r = (r:Int)) :
  rd (beginP (cnt cl n) (cnt cl q)) (cnt cl r:Nat) = sg (fun u=>if rd cl u = (r:Int) then rd (beginP n s) u else 0) n:=by
 rw [begin_rd (cnt_lt hqq hq)]
 have e:sg (fun u=>if rd cl u = (r:Int) then rd (beginP n s) u else 0) n = sg (fun u=>if u = s then (if rd cl s = (r:Int) then 1 else 0) else 0) n:=by
  refine sg_congr (fun u hu=>?_)
  rw [begin_rd hs]
  by_cases h1:u = s
  ·subst h1;rw [if_pos rfl,if_pos rfl]
  ·rw [if_neg h1,if_neg h1];split <;> rfl
 rw [e,sg_single,if_pos hs,hsq]
 by_cases h2:cnt cl r = cnt cl q
 ·have:=cnt_inj hrr hqq h2
  rw [if_pos h2,if_pos (by omega)]
 ·rw [if_neg h2,if_neg (fun h=>h2 (by rw [show q = r by omega]))]
theorem lump_spread (hch:Chain m ws n) (hl:Lump m ws cl n) (hf:Folded m ws cl n M W) (hfc:Chain M W (cnt cl n)) {x y:List Int} {k:Nat} (hx:Dist x n k) (hy:Dist y (cnt cl n) k) (hk:k ≤ 11)
  (h:∀ r:Nat,r < n → rd cl r = (r:Int) → rd y (cnt cl r:Nat) = sg (fun u=>if rd cl u = (r:Int) then rd x u else 0) n) {r:Nat} (hr:r < n) (hrr:rd cl r = (r:Int)) :
  rd (spreadP W y) (cnt cl r:Nat) = sg (fun u=>if rd cl u = (r:Int) then rd (spreadP ws x) u else 0) n:=by
 rw [spread_rd hfc hy hk (cnt_lt hrr hr),sg_cnt]
 have e1:sg (fun u=>if rd cl u = (r:Int) then rd (spreadP ws x) u else 0) n = sg (fun u=>sg (fun a=>rd x a * (if rd cl u = (r:Int) then wt ws a u else 0)) n) n:=by
  refine sg_congr (fun u hu=>?_)
  by_cases h1:rd cl u = (r:Int)
  ·rw [if_pos h1,spread_rd hch hx hk hu]
   exact sg_congr (fun a ha=>by rw [if_pos h1])
  ·rw [if_neg h1]
   exact (sg_none (fun a ha=>by rw [if_neg h1,Int.mul_zero])).symm
 rw [e1,sg_swap]
 have e2:sg (fun a=>sg (fun u=>rd x a * (if rd cl u = (r:Int) then wt ws a u else 0)) n) n = sg (fun a=>rd x a * intoP ws cl a r) n:=by
  refine sg_congr (fun a ha=>?_)
  rw [sg_mul,intoP_sg hch hl.len ha]
 rw [e2,sg_classes hl (fun a=>rd x a * intoP ws cl a r)]
 refine sg_congr (fun t ht=>?_)
 by_cases hd:rd cl t = (t:Int)
 ·rw [if_pos hd,if_pos hd,h t ht hd,hf.into t r ht hr hd hrr,← sg_mul_r]
  refine sg_congr (fun u hu=>?_)
  by_cases h1:rd cl u = (t:Int)
  ·rw [if_pos h1,if_pos h1,hl.into hch.rows hu ht (h1.trans hd.symm) (show (0:Int) ≤ (r:Int) by omega)]
  ·rw [if_neg h1,if_neg h1,Int.zero_mul]
 ·rw [if_neg hd,if_neg hd]
theorem lump_steps (hch:Chain m ws n) (hl:Lump m ws cl n) (hf:Folded m ws cl n M W) (hfc:Chain M W (cnt cl n)) {s q:Nat} (hs:s < n) (hq:q < n) (hsq:rd cl s = (q:Int)) (hqq:rd cl q = (q:Int)):∀ k:Nat,k ≤ 12 → ∀ r:Nat,r < n → rd cl r = (r:Int) →
  rd (stepsP W k (beginP (cnt cl n) (cnt cl q))) (cnt cl r:Nat) = sg (fun u=>if rd cl u = (r:Int) then rd (stepsP ws k (beginP n s)) u else 0) n
 | 0,_,r,hr,hrr=>lump_begin hl hs hq hsq hqq hr hrr
 | k + 1,hk,r,hr,hrr=>by
  rw [stepsP_succ,stepsP_succ]
  exact lump_spread hch hl hf hfc (steps_dist hch hs k (by omega)) (steps_dist hfc (cnt_lt hqq hq) k (by omega)) (by omega) (lump_steps hch hl hf hfc hs hq hsq hqq k (by omega)) hr hrr
theorem lump_mark (hch:Chain m ws n) (hl:Lump m ws cl n) (hf:Folded m ws cl n M W) (hfc:Chain M W (cnt cl n)) {s q:Nat} (hs:s < n) (hq:q < n) (hsq:rd cl s = (q:Int)) (hqq:rd cl q = (q:Int)) {k:Nat} (hk:k ≤ 12) (mark:Int) :
  smP M mark (stepsP W k (beginP (cnt cl n) (cnt cl q))) = smP m mark (stepsP ws k (beginP n s)):=by
 rw [smP_sg (steps_dist hfc (cnt_lt hqq hq) k hk) hk,smP_sg (steps_dist hch hs k hk) hk,sg_cnt,sg_classes hl (fun t=>if rd m (t:Int) = mark then rd (stepsP ws k (beginP n s)) (t:Int) else 0)]
 refine sg_congr (fun r hr=>?_)
 by_cases hd:rd cl r = (r:Int)
 ·rw [if_pos hd,if_pos hd,hf.mark r hr hd,lump_steps hch hl hf hfc hs hq hsq hqq k hk r hr hd]
  by_cases hm:rd m r = mark
  ·rw [if_pos hm]
   refine sg_congr (fun u hu=>?_)
   by_cases h1:rd cl u = (r:Int)
   ·rw [if_pos h1,if_pos h1,if_pos (by rw [hl.mark u r hu hr (h1.trans hd.symm)];exact hm)]
   ·rw [if_neg h1,if_neg h1]
  ·rw [if_neg hm]
   refine (sg_none (fun u hu=>?_)).symm
   by_cases h1:rd cl u = (r:Int)
   ·rw [if_pos h1,if_neg (by rw [hl.mark u r hu hr (h1.trans hd.symm)];exact hm)]
   ·rw [if_neg h1]
 ·rw [if_neg hd,if_neg hd]
end
theorem mkL_congr {m M:List Int} {ws W:List (List Int)} {mark:Int} {b B:List Int} (N:Nat) (h:∀ k,k < N → smP m mark (stepsP ws k b) = smP M mark (stepsP W k B)):∀ (d k:Nat) (out:List Int),k + d ≤ N → mkL m ws mark b d k out = mkL M W mark B d k out
 | 0,_,_,_=>rfl
 | d + 1,k,out,hk=>by rw [mkL,mkL,h k (by omega),mkL_congr N h d (k + 1) _ (by omega)]
end Go.Proofs.Ytablnoddkllhmaa.P
