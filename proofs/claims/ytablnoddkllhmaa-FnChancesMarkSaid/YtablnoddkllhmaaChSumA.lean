/- Sums of a chain's weights; Plain; no condition. -/
import Derived.Test.YtablnoddkllhmaaChRows
namespace Go.Proofs.Ytablnoddkllhmaa.P
open Go.RowKit Go.Proofs.YtablnoddkllhmaaW.PrintWords Go.Proofs.YtablnoddkllhmaaW.PrintLast
set_option linter.unusedVariables false
set_option linter.unusedSimpArgs false
def sg (f:Nat → Int):Nat → Int
 | 0=>0
 | n + 1=>sg f n + f n
theorem sg_congr {f g:Nat → Int}:∀ {n:Nat},(∀ i,i < n → f i = g i) → sg f n = sg g n
 | 0,_=>rfl
 | n + 1,h=>by rw [sg,sg,sg_congr (fun i hi=>h i (by omega)),h n (by omega)]
theorem sg_zero:∀ n:Nat,sg (fun _=>0) n = 0
 | 0=>rfl
 | n + 1=>by rw [sg,sg_zero n];rfl
theorem sg_add (f g:Nat → Int):∀ n:Nat,sg (fun i=>f i + g i) n = sg f n + sg g n
 | 0=>rfl
 | n + 1=>by rw [sg,sg,sg,sg_add f g n];omega
theorem sg_mul (c:Int) (f:Nat → Int):∀ n:Nat,sg (fun i=>c * f i) n = c * sg f n
 | 0=>by simp [sg]
 | n + 1=>by rw [sg,sg,sg_mul c f n,Int.mul_add]
theorem sg_mul_r (c:Int) (f:Nat → Int) (n:Nat):sg (fun i=>f i * c) n = sg f n * c:=by
 rw [Int.mul_comm,← sg_mul]
 exact sg_congr (fun i _=>Int.mul_comm _ _)
theorem sg_swap (f:Nat → Nat → Int) (m:Nat):∀ n:Nat,sg (fun i=>sg (fun j=>f i j) m) n = sg (fun j=>sg (fun i=>f i j) n) m
 | 0=>by rw [sg];exact (sg_zero m).symm
 | n + 1=>by
  rw [sg,sg_swap f m n,← sg_add]
  rfl
theorem sg_nonneg {f:Nat → Int}:∀ {n:Nat},(∀ i,i < n → 0 ≤ f i) → 0 ≤ sg f n
 | 0,_=>Int.le_refl _
 | n + 1,h=>by
  have:=sg_nonneg (n:=n) (fun i hi=>h i (by omega))
  have:=h n (by omega)
  rw [sg];omega
theorem sg_le {f g:Nat → Int}:∀ {n:Nat},(∀ i,i < n → f i ≤ g i) → sg f n ≤ sg g n
 | 0,_=>Int.le_refl _
 | n + 1,h=>by
  have:=sg_le (n:=n) (fun i hi=>h i (by omega))
  have:=h n (by omega)
  rw [sg,sg];omega
theorem sg_part {f:Nat → Int} {k n:Nat} (hk:k ≤ n) (h:∀ i,i < n → 0 ≤ f i):sg f k ≤ sg f n:=by
 obtain ⟨d,rfl⟩:∃ d,n = k + d:=⟨n - k,by omega⟩
 clear hk
 induction d with
 | zero=>exact Int.le_refl _
 | succ d ih =>
  have h1:=ih (fun i hi=>h i (by omega))
  have h2:=h (k + d) (by omega)
  rw [← Nat.add_assoc,sg];omega
theorem sg_one {f:Nat → Int} {k n:Nat} (hk:k < n) (h:∀ i,i < n → 0 ≤ f i):f k ≤ sg f n:=by
 have h1:=sg_part (k:=k + 1) hk h
 have h2:=sg_nonneg (n:=k) (fun i hi=>h i (by omega))
 rw [sg] at h1;omega
theorem sg_ite {f:Nat → Int} {p:Nat → Prop} [DecidablePred p] {n:Nat} (h:∀ i,i < n → 0 ≤ f i):0 ≤ sg (fun i=>if p i then f i else 0) n∧sg (fun i=>if p i then f i else 0) n ≤ sg f n :=
 ⟨sg_nonneg (fun i hi=>by show 0 ≤ (if p i then f i else 0);split;exact h i hi;omega),sg_le (fun i hi=>by show (if p i then f i else 0) ≤ f i;have:=h i hi;split <;> omega)⟩
theorem sg_single (c:Int) (k:Nat):∀ n:Nat,sg (fun i=>if i = k then c else 0) n = if k < n then c else 0
 | 0=>by simp [sg]
 | n + 1=>by
  rw [sg,sg_single c k n]
  by_cases h1:n = k
  ·subst h1
   rw [if_neg (by omega),if_pos rfl,if_pos (by omega)];omega
  ·rw [if_neg h1]
   by_cases h2:k < n
   ·rw [if_pos h2,if_pos (by omega)];omega
   ·rw [if_neg h2,if_neg (by omega)];omega
theorem sg_labels (f:Nat → Int) (e:Nat → Int) (n N:Nat) (he:∀ i,i < n → 0 ≤ e i∧e i < (N:Int)):sg f n = sg (fun l=>sg (fun i=>if e i = (l:Int) then f i else 0) n) N:=by
 rw [← sg_swap]
 refine sg_congr (fun i hi=>?_)
 have h1:=he i hi
 have h2:=sg_single (f i) (e i).toNat N
 rw [if_pos (by omega)] at h2
 refine h2.symm.trans (sg_congr (fun l hl=>?_))
 by_cases h3:l = (e i).toNat
 ·rw [if_pos h3,if_pos (by omega)]
 ·rw [if_neg h3,if_neg (by omega)]
abbrev wt (ws:List (List Int)) (s t:Nat):Int:=rd (rd_L1 ws s) t
structure Chain (m:List Int) (ws:List (List Int)) (n:Nat):Prop where
 rows:Rows ws n
 ml:m.length = n
 n1:1 ≤ n
 mark:∀ s,s < n → 0 ≤ rd m s∧rd m s ≤ 9
 w0:∀ s t,s < n → t < n → 0 ≤ wt ws s t∧wt ws s t ≤ 6
 w6:∀ s,s < n → sg (wt ws s) n = 6
theorem rowFrom_iff (row:List Int) (d:Nat):∀ (t:Nat) (a:Int),rowFrom row d t a = true ↔ ((∀ i,t ≤ i → i < t + d → 0 ≤ rd row i∧rd row i ≤ 6)∧a + sg (fun i=>rd row ((t + i:Nat):Int)) d = 6):=by
 induction d with
 | zero =>
  intro t a
  simp only [rowFrom,decide_eq_true_eq,sg]
  constructor
  ·intro h;exact ⟨fun i h1 h2=>by omega,by omega⟩
  ·intro h;omega
 | succ d ih =>
  intro t a
  have hs:∀ d:Nat,sg (fun i=>rd row ((t + i:Nat):Int)) (d + 1) = rd row t + sg (fun i=>rd row ((t + 1 + i:Nat):Int)) d:=by
   intro d
   induction d with
   | zero=>simp [sg]
   | succ d ihd =>
    rw [sg,ihd,sg]
    have:t + (d + 1) = t + 1 + d:=by omega
    rw [this];omega
  simp only [rowFrom,Bool.and_eq_true,decide_eq_true_eq,ih,hs]
  constructor
  ·rintro ⟨⟨h1,h2⟩,h3,h4⟩
   refine ⟨fun i hi hi2=>?_,by omega⟩
   rcases Nat.eq_or_lt_of_le hi with rfl | h
   ·exact ⟨h1,h2⟩
   ·exact h3 i h (by omega)
  ·rintro ⟨h1,h2⟩
   exact ⟨h1 t (Nat.le_refl _) (by omega),fun i hi hi2=>h1 i (by omega) (by omega),by omega⟩
theorem chFrom_of {m:List Int} {ws:List (List Int)} (d:Nat):∀ s:Nat,(∀ i,s ≤ i → i < s + d → (rd_L1 ws i).length = m.length∧rowFrom (rd_L1 ws i) m.length 0 0 = true∧0 ≤ rd m i∧rd m i ≤ 9) → chFrom m ws d s = true:=by
 induction d with
 | zero=>intro s _;rfl
 | succ d ih =>
  intro s h
  have h1:=h s (Nat.le_refl _) (by omega)
  simp only [chFrom,Bool.and_eq_true,decide_eq_true_eq]
  exact ⟨⟨h1.2.2.1,h1.2.2.2⟩,h1.1,h1.2.1,ih (s + 1) (fun i hi hi2=>h i (by omega) (by omega))⟩
theorem chain_of {m:List Int} {ws:List (List Int)} (h:chOk m ws = true):Chain m ws m.length:=by
 obtain ⟨hr,h1⟩:=chOk_rows h
 simp only [chOk,Bool.and_eq_true,decide_eq_true_eq] at h
 have hf:=chFrom_row _ _ h.2.2
 refine ⟨hr,rfl,h1,fun s hs=>(hf s (by omega) (by omega)).2.2,fun s t hs ht=>?_,fun s hs=>?_⟩
 ·exact ((rowFrom_iff _ _ _ _).1 (hf s (by omega) (by omega)).2.1).1 t (by omega) (by omega)
 ·have:=((rowFrom_iff _ _ _ _).1 (hf s (by omega) (by omega)).2.1).2
  rw [← (Int.zero_add (sg (wt ws s) m.length)),← this]
  congr 1
  exact sg_congr (fun i hi=>by rw [Nat.zero_add])
theorem Chain.ok {m:List Int} {ws:List (List Int)} {n:Nat} (h:Chain m ws n):chOk m ws = true:=by
 have h1:=h.ml
 have h2:=h.rows.len
 have h3:=h.rows.le
 have h4:=h.n1
 simp only [chOk,Bool.and_eq_true,decide_eq_true_eq]
 refine ⟨⟨by omega,by omega⟩,by omega,chFrom_of _ _ (fun i hi hi2=>?_)⟩
 rw [h1] at hi2 ⊢
 refine ⟨h.rows.row i (by omega),(rowFrom_iff _ _ _ _).2 ⟨fun t ht ht2=>h.w0 i t (by omega) (by omega),?_⟩,h.mark i (by omega)⟩
 rw [← h.w6 i (by omega),Int.zero_add]
 exact sg_congr (fun j hj=>by rw [Nat.zero_add])
end Go.Proofs.Ytablnoddkllhmaa.P
