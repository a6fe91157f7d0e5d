/- Classes of a chain: what is alike goes on alike, and they are the coarsest such; the folded chain is a chain. Plain; no condition. -/
import Derived.Test.YtablnoddkllhmaaChLumpA
import Derived.Test.YtablnoddkllhmaaFoldP
namespace Go.Proofs.Ytablnoddkllhmaa.P
open Go.RowKit Go.Proofs.YtablnoddkllhmaaW.PrintWords Go.Proofs.YtablnoddkllhmaaW.PrintLast
set_option linter.unusedVariables false
set_option linter.unusedSimpArgs false
section
variable {m:List Int} {ws:List (List Int)} {cl:List Int} {n:Nat}
def cnt (cl:List Int):Nat → Nat
 | 0=>0
 | s + 1=>cnt cl s + if rd cl s = (s:Int) then 1 else 0
theorem cnt_mono (cl:List Int):∀ {s t:Nat},s ≤ t → cnt cl s ≤ cnt cl t:=by
 intro s t h
 induction t with
 | zero =>
  have h0:s = 0:=by omega
  rw [h0];exact Nat.le_refl _
 | succ t ih =>
  rcases Nat.eq_or_lt_of_le h with rfl | h
  ·exact Nat.le_refl _
  ·exact Nat.le_trans (ih (by omega)) (Nat.le_add_right _ _)
theorem cnt_le (cl:List Int):∀ s:Nat,cnt cl s ≤ s
 | 0=>Nat.le_refl _
 | s + 1=>by have:=cnt_le cl s;rw [cnt];split <;> omega
theorem cnt_lt {s t:Nat} (hs:rd cl s = (s:Int)) (h:s < t):cnt cl s < cnt cl t:=by
 have h1:=cnt_mono cl (show s + 1 ≤ t by omega)
 rw [cnt,if_pos hs] at h1
 omega
theorem cnt_inj {s t:Nat} (hs:rd cl s = (s:Int)) (ht:rd cl t = (t:Int)) (h:cnt cl s = cnt cl t):s = t:=by
 rcases Nat.lt_trichotomy s t with h1 | h1 | h1
 ·have:=cnt_lt hs h1;omega
 ·exact h1
 ·have:=cnt_lt ht h1;omega
theorem cnt_rep:∀ {N i:Nat},i < cnt cl N → ∃ r,r < N∧rd cl r = (r:Int)∧cnt cl r = i
 | 0,i,h=>by simp [cnt] at h
 | N + 1,i,h=>by
  rw [cnt] at h
  by_cases h1:i < cnt cl N
  ·obtain ⟨r,h2,h3,h4⟩:=cnt_rep h1
   exact ⟨r,by omega,h3,h4⟩
  ·by_cases h2:rd cl N = (N:Int)
   ·rw [if_pos h2] at h
    exact ⟨N,by omega,h2,by omega⟩
   ·rw [if_neg h2] at h;omega
theorem sg_cnt (F:Nat → Int):∀ N:Nat,sg F (cnt cl N) = sg (fun r=>if rd cl r = (r:Int) then F (cnt cl r) else 0) N
 | 0=>rfl
 | N + 1=>by
  rw [cnt,sg]
  by_cases h:rd cl N = (N:Int)
  ·rw [if_pos h,if_pos h,sg,sg_cnt F N]
  ·rw [if_neg h,if_neg h,Nat.add_zero,sg_cnt F N,Int.add_zero]
theorem sg_classes (h:Lump m ws cl n) (f:Nat → Int):sg f n = sg (fun r=>if rd cl r = (r:Int) then sg (fun u=>if rd cl u = (r:Int) then f u else 0) n else 0) n:=by
 rw [sg_labels f (fun u=>rd cl u) n n (fun i hi=>h.rng i hi)]
 refine sg_congr (fun r hr=>?_)
 by_cases h1:rd cl r = (r:Int)
 ·rw [if_pos h1]
 ·rw [if_neg h1]
  refine sg_none (fun u hu=>if_neg (fun h2=>h1 ?_))
  have:=h.idem u hu
  rw [h2] at this
  exact this
theorem rd_snoc (xs:List Int) (x:Int) (i:Nat):rd (xs ++ [x]) i = if i = xs.length then x else rd xs i:=by
 simp only [rd,Int.toNat_natCast,List.getD_eq_getElem?_getD]
 by_cases h:i = xs.length
 ·subst h;simp
 ·rw [if_neg h]
  rcases Nat.lt_or_ge i xs.length with h1 | h1
  ·rw [List.getElem?_append_left h1]
  ·rw [List.getElem?_eq_none (by simp;omega),List.getElem?_eq_none (by omega)]
theorem rdL_snoc (xs:List (List Int)) (x:List Int) (i:Nat):rd_L1 (xs ++ [x]) i = if i = xs.length then x else rd_L1 xs i:=by
 simp only [rd_L1,Int.toNat_natCast,List.getD_eq_getElem?_getD]
 by_cases h:i = xs.length
 ·subst h;simp
 ·rw [if_neg h]
  rcases Nat.lt_or_ge i xs.length with h1 | h1
  ·rw [List.getElem?_append_left h1]
  ·rw [List.getElem?_eq_none (by simp;omega),List.getElem?_eq_none (by omega)]
theorem rowF_at (s:Nat) (d:Nat):∀ (t:Nat) (out:List Int),out.length = cnt cl t → (∀ u:Nat,u < t → rd cl u = (u:Int) → rd out (cnt cl u:Nat) = intoP ws cl s u) →
  (rowF ws cl s d t out).length = cnt cl (t + d)∧∀ u:Nat,u < t + d → rd cl u = (u:Int) → rd (rowF ws cl s d t out) (cnt cl u:Nat) = intoP ws cl s u:=by
 induction d with
 | zero=>intro t out hl h;exact ⟨hl,h⟩
 | succ d ih =>
  intro t out hl h
  rw [rowF,show t + (d + 1) = t + 1 + d by omega]
  by_cases e:rd cl t = (t:Int)
  ·rw [if_pos e]
   refine ih (t + 1) _ (by rw [List.length_append,List.length_singleton,cnt,if_pos e,hl]) (fun u hu hr=>?_)
   rw [rd_snoc]
   rcases Nat.eq_or_lt_of_le (show u ≤ t by omega) with rfl | h1
   ·rw [if_pos hl.symm]
   ·rw [if_neg (by have:=cnt_lt hr h1;omega)]
    exact h u h1 hr
  ·rw [if_neg e]
   refine ih (t + 1) _ (by rw [cnt,if_neg e];exact hl) (fun u hu hr=>?_)
   rcases Nat.eq_or_lt_of_le (show u ≤ t by omega) with rfl | h1
   ·exact absurd hr e
   ·exact h u h1 hr
theorem foldL_at (d:Nat):∀ (s:Nat) (om:List Int) (ow:List (List Int)),om.length = cnt cl s → ow.length = cnt cl s → (∀ u:Nat,u < s → rd cl u = (u:Int) → rd om (cnt cl u:Nat) = rd m u∧rd_L1 ow (cnt cl u:Nat) = rowF ws cl u cl.length 0 []) →
  (foldL m ws cl d s om ow).1.length = cnt cl (s + d)∧(foldL m ws cl d s om ow).2.length = cnt cl (s + d)∧∀ u:Nat,u < s + d → rd cl u = (u:Int) → rd (foldL m ws cl d s om ow).1 (cnt cl u:Nat) = rd m u∧rd_L1 (foldL m ws cl d s om ow).2 (cnt cl u:Nat) = rowF ws cl u cl.length 0 []:=by
 induction d with
 | zero=>intro s om ow h1 h2 h;exact ⟨h1,h2,h⟩
 | succ d ih =>
  intro s om ow hl1 hl2 h
  rw [foldL,show s + (d + 1) = s + 1 + d by omega]
  by_cases e:rd cl s = (s:Int)
  ·rw [if_pos e]
   refine ih (s + 1) _ _ (by rw [List.length_append,List.length_singleton,cnt,if_pos e,hl1]) (by rw [List.length_append,List.length_singleton,cnt,if_pos e,hl2]) (fun u hu hr=>?_)
   rw [rd_snoc,rdL_snoc]
   rcases Nat.eq_or_lt_of_le (show u ≤ s by omega) with rfl | h1
   ·rw [if_pos hl1.symm,if_pos hl2.symm];exact ⟨rfl,rfl⟩
   ·have:=cnt_lt hr h1
    rw [if_neg (by omega),if_neg (by omega)]
    exact h u h1 hr
  ·rw [if_neg e]
   refine ih (s + 1) _ _ (by rw [cnt,if_neg e];exact hl1) (by rw [cnt,if_neg e];exact hl2) (fun u hu hr=>?_)
   rcases Nat.eq_or_lt_of_le (show u ≤ s by omega) with rfl | h1
   ·exact absurd hr e
   ·exact h u h1 hr
structure Folded (m:List Int) (ws:List (List Int)) (cl:List Int) (n:Nat) (M:List Int) (W:List (List Int)):Prop where
 ml:M.length = cnt cl n
 wl:W.length = cnt cl n
 mark:∀ r:Nat,r < n → rd cl r = (r:Int) → rd M (cnt cl r:Nat) = rd m r
 row:∀ r:Nat,r < n → rd cl r = (r:Int) → (rd_L1 W (cnt cl r:Nat)).length = cnt cl n
 into:∀ r t:Nat,r < n → t < n → rd cl r = (r:Int) → rd cl t = (t:Int) → wt W (cnt cl r) (cnt cl t) = intoP ws cl r t
theorem foldOf_folded (hch:Chain m ws n):Folded m ws (classesP m ws) n (foldOf m ws).1 (foldOf m ws).2:=by
 have hm:=hch.ml
 have hl:(classesP m ws).length = n:=by rw [(classesP_canon m ws).len];exact hm
 obtain ⟨h1,h2,h3⟩:=foldL_at (m:=m) (ws:=ws) (cl:=classesP m ws) m.length 0 [] [] rfl rfl (fun u hu=>by omega)
 rw [hm,Nat.zero_add] at h1 h2 h3
 have e:foldOf m ws = foldL m ws (classesP m ws) n 0 [] []:=by rw [foldOf,hm]
 rw [e]
 refine ⟨h1,h2,fun r hr hc=>(h3 r hr hc).1,fun r hr hc=>?_,fun r t hr ht hc hd=>?_⟩
 ·rw [(h3 r hr hc).2,(rowF_at r _ 0 [] rfl (fun u hu=>by omega)).1,hl,Nat.zero_add]
 ·show rd (rd_L1 _ _) _ = _
  rw [(h3 r hr hc).2]
  exact (rowF_at r _ 0 [] rfl (fun u hu=>by omega)).2 t (by omega) hd
end
section
variable {m:List Int} {ws:List (List Int)} {cl:List Int} {n:Nat} {M:List Int} {W:List (List Int)}
theorem into_bound (hch:Chain m ws n) (hl:cl.length = n) {s:Nat} (hs:s < n) (v:Int):0 ≤ intoP ws cl s v∧intoP ws cl s v ≤ 6:=by
 rw [intoP_sg hch hl hs,← hch.w6 s hs]
 exact sg_ite (f:=fun t=>wt ws s t) (p:=fun t:Nat=>rd cl t = v) (fun i hi=>(hch.w0 s i hs hi).1)
theorem Folded.chain (hf:Folded m ws cl n M W) (hch:Chain m ws n) (hl:Lump m ws cl n):Chain M W (cnt cl n):=by
 have h60:=hch.rows.le
 have hn1:=hch.n1
 have hcl:=cnt_le cl n
 have h0:rd cl (0:Nat) = ((0:Nat):Int):=by
  have h1:=hl.low 0 (by omega)
  have h2:=hl.rng 0 (by omega)
  omega
 refine ⟨⟨by omega,hf.wl,fun i hi=>?_⟩,hf.ml,?_,fun i hi=>?_,fun i j hi hj=>?_,fun i hi=>?_⟩
 ·obtain ⟨r,hr,hc,rfl⟩:=cnt_rep hi
  exact hf.row r hr hc
 ·have:=cnt_lt h0 (show 0 < n by omega)
  omega
 ·obtain ⟨r,hr,hc,rfl⟩:=cnt_rep hi
  rw [hf.mark r hr hc]
  exact hch.mark r hr
 ·obtain ⟨r,hr,hc,rfl⟩:=cnt_rep hi
  obtain ⟨t,ht,hd,rfl⟩:=cnt_rep hj
  rw [hf.into r t hr ht hc hd]
  exact into_bound hch hl.len hr _
 ·obtain ⟨r,hr,hc,rfl⟩:=cnt_rep hi
  rw [sg_cnt,← hch.w6 r hr,sg_classes hl (wt ws r)]
  refine sg_congr (fun t ht=>?_)
  by_cases hd:rd cl t = (t:Int)
  ·rw [if_pos hd,if_pos hd,hf.into r t hr ht hc hd,intoP_sg hch hl.len hr]
  ·rw [if_neg hd,if_neg hd]
end
end Go.Proofs.Ytablnoddkllhmaa.P
