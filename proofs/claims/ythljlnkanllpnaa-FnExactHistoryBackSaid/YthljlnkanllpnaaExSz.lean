/- Threads and events in the exact laws: their sizes, their copies, their being the same. Plain; no condition. -/
import Derived.Test.YthljlnkanllpnaaP0
import Derived.Test.YthljlnkanllpnaaP1
import Derived.Test.YthljlnkanllpnaaP2
import Derived.Test.YthljlnkanllpnaaHistA
namespace Go.Proofs.Ythljlnkanllpnaa.P
open Go.RowKit Go.Proofs.YthljlnkanllpnaaW.PrintWords Go.Proofs.YthljlnkanllpnaaW.PrintLast
set_option linter.unusedVariables false
set_option linter.unusedSimpArgs false
theorem szIntS_f (l : List Int) (a : Int) (h0 : 0 ≤ a) (h1 : a ≤ 1048576) (hl : l.length ≤ 9223372036854775807) :
    ∃ r, laws_szIntS.f l a = some r ∧ r ≤ 1048576 ∧ (0 ≤ r → l.length ≤ 1048576) := by
  unfold laws_szIntS.f
  rw [wrap_id (by omega) (by omega)]
  by_cases h : a - (l.length : Int) < 0
  · rw [if_pos h]
    exact ⟨_, rfl, by omega, by omega⟩
  · rw [if_neg h]
    exact ⟨_, rfl, by omega, by omega⟩
theorem szIntSS_l0 (xs : List (List Int)) (hn : xs.length ≤ 9223372036854775807) (hx : ∀ x ∈ xs, x.length ≤ 9223372036854775807) (d : Nat) :
    ∀ (i : Nat) (a : Int), i + d = xs.length → 0 ≤ a → a ≤ 1048576 → ∃ r, Ev (fun k => laws_szIntSS.l0 k xs a i) r ∧ r ≤ 1048576 ∧ (0 ≤ r → ∀ j, i ≤ j → (h : j < xs.length) → xs[j].length ≤ 1048576) := by
  induction d with
  | zero =>
    intro i a hi h0 h1
    exact ⟨a, Ev.step (fun k => by simp only [laws_szIntSS.l0]; rw [if_neg (by omega)]) (Ev.now a), h1, fun _ j h2 h3 => by omega⟩
  | succ d ih =>
    intro i a hi h0 h1
    have hil : i < xs.length := by omega
    obtain ⟨r, hr, hr1, hr2⟩ := szIntS_f xs[i] a h0 h1 (hx _ (List.getElem_mem hil))
    by_cases hneg : r < 0
    · refine ⟨-1, Ev.step (fun k => ?_) (Ev.now (-1)), by omega, by omega⟩
      simp only [laws_szIntSS.l0]
      rw [if_pos (by omega), if_pos (by omega), rdL_nat _ _ hil, hr]
      simp only [Option.bind_some]
      rw [if_pos hneg]
    · obtain ⟨q, hq, hq1, hq2⟩ := ih (i + 1) r (by omega) (by omega) hr1
      refine ⟨q, Ev.step (fun k => ?_) hq, hq1, fun h j hj hjl => ?_⟩
      · simp only [laws_szIntSS.l0]
        rw [if_pos (by omega), if_pos (by omega), rdL_nat _ _ hil, hr]
        simp only [Option.bind_some]
        rw [if_neg hneg, wrap_succ hil hn]
      · rcases Nat.lt_or_ge i j with h2 | h2
        · exact hq2 h j h2 hjl
        · obtain rfl : i = j := by omega
          exact hr2 (by omega)
theorem toIntS_l0 (xs : List Int) (hn : xs.length ≤ 1048576) (d : Nat) : ∀ (i : Nat) (ys : List Int), i + d = xs.length → ys.length = xs.length → (∀ j, j < i → ys[j]? = xs[j]?) → Ev (fun k => laws_toIntS.l0 k xs ys i) xs := by
  induction d with
  | zero =>
    intro i ys hi hl hy
    have : ys = xs := List.ext_getElem? fun j => by
      rcases Nat.lt_or_ge j i with h | h
      · exact hy j h
      · rw [List.getElem?_eq_none (by omega), List.getElem?_eq_none (by omega)]
    subst this
    exact Ev.step (fun k => by simp only [laws_toIntS.l0]; rw [if_neg (by omega)]) (Ev.now _)
  | succ d ih =>
    intro i ys hi hl hy
    have hil : i < xs.length := by omega
    refine Ev.step (fun k => ?_) (ih (i + 1) (ys.set i xs[i]) (by omega) (by rw [List.length_set, hl]) (fun j hj => ?_))
    · simp only [laws_toIntS.l0]
      rw [if_pos (by omega), if_pos (by omega), if_pos (by omega), rd_nat _ _ hil, wrap_succ hil (by omega)]
      rfl
    · by_cases h : j = i
      · subst h
        rw [List.getElem?_set_self (by omega), List.getElem?_eq_getElem hil]
      · rw [List.getElem?_set_ne (Ne.symm h)]
        exact hy j (by omega)
theorem toIntS_ev (xs : List Int) (hn : xs.length ≤ 1048576) : Ev (fun k => laws_toIntS.f k xs) xs := by
  refine Ev.congr (fun k => ?_) (toIntS_l0 xs hn xs.length 0 (List.replicate xs.length 0) (by omega) (by simp) (fun j hj => by omega))
  simp only [laws_toIntS.f]
  rw [if_pos (by omega), if_pos (by omega)]
  rfl
theorem toIntSS_l0 (xs : List (List Int)) (hn : xs.length ≤ 1048576) (hx : ∀ x ∈ xs, x.length ≤ 1048576) (d : Nat) : ∀ (i : Nat) (ys : List (List Int)), i + d = xs.length → ys.length = xs.length → (∀ j, j < i → ys[j]? = xs[j]?) → Ev (fun k => laws_toIntSS.l0 k xs ys i) xs := by
  induction d with
  | zero =>
    intro i ys hi hl hy
    have : ys = xs := List.ext_getElem? fun j => by
      rcases Nat.lt_or_ge j i with h | h
      · exact hy j h
      · rw [List.getElem?_eq_none (by omega), List.getElem?_eq_none (by omega)]
    subst this
    exact Ev.step (fun k => by simp only [laws_toIntSS.l0]; rw [if_neg (by omega)]) (Ev.now _)
  | succ d ih =>
    intro i ys hi hl hy
    have hil : i < xs.length := by omega
    refine Ev.step (f := fun k => (laws_toIntS.f k xs[i]).bind fun t => if (i : Int) < (ys.length : Int) then laws_toIntSS.l0 k xs (ys.set i t) ((i + 1 : Nat) : Int) else none) (fun k => ?_) (Ev.bind (toIntS_ev _ (hx _ (List.getElem_mem hil))) (Ev.congr (fun k => ?_) (ih (i + 1) (ys.set i xs[i]) (by omega) (by rw [List.length_set, hl]) (fun j hj => ?_))))
    · simp only [laws_toIntSS.l0]
      rw [if_pos (by omega), if_pos (by omega), rdL_nat _ _ hil, wrap_succ hil (by omega)]
      rfl
    · rw [if_pos (by omega)]
    · by_cases h : j = i
      · subst h
        rw [List.getElem?_set_self (by omega), List.getElem?_eq_getElem hil]
      · rw [List.getElem?_set_ne (Ne.symm h)]
        exact hy j (by omega)
theorem toIntSS_ev (xs : List (List Int)) (hn : xs.length ≤ 1048576) (hx : ∀ x ∈ xs, x.length ≤ 1048576) : Ev (fun k => laws_toIntSS.f k xs) xs := by
  refine Ev.congr (fun k => ?_) (toIntSS_l0 xs hn hx xs.length 0 (List.replicate xs.length []) (by omega) (by simp) (fun j hj => by omega))
  simp only [laws_toIntSS.f]
  rw [if_pos (by omega), if_pos (by omega)]
  rfl
theorem eqIntS_l0 (xs : List Int) (hn : xs.length ≤ 1048576) (d : Nat) : ∀ i : Nat, i + d = xs.length → Ev (fun k => laws_eqIntS.l0 k xs xs i) true := by
  induction d with
  | zero => intro i hi; exact Ev.step (fun k => by simp only [laws_eqIntS.l0]; rw [if_neg (by omega)]) (Ev.now _)
  | succ d ih =>
    intro i hi
    refine Ev.step (fun k => ?_) (ih (i + 1) (by omega))
    simp only [laws_eqIntS.l0]
    rw [if_pos (by omega), if_pos (by omega), if_pos (by omega), if_pos trivial, wrap_succ (show i < xs.length by omega) (by omega)]
theorem eqIntS_ev (xs : List Int) (hn : xs.length ≤ 1048576) : Ev (fun k => laws_eqIntS.f k xs xs) true :=
  Ev.congr (fun k => by simp only [laws_eqIntS.f]; rw [if_pos trivial]; rfl) (eqIntS_l0 xs hn xs.length 0 (by omega))
theorem eqIntSS_l0 (xs : List (List Int)) (hn : xs.length ≤ 1048576) (hx : ∀ x ∈ xs, x.length ≤ 1048576) (d : Nat) : ∀ i : Nat, i + d = xs.length → Ev (fun k => laws_eqIntSS.l0 k xs xs i) true := by
  induction d with
  | zero => intro i hi; exact Ev.step (fun k => by simp only [laws_eqIntSS.l0]; rw [if_neg (by omega)]) (Ev.now _)
  | succ d ih =>
    intro i hi
    have hil : i < xs.length := by omega
    refine Ev.step (f := fun k => (laws_eqIntS.f k xs[i] xs[i]).bind fun t => if t = true then laws_eqIntSS.l0 k xs xs ((i + 1 : Nat) : Int) else some false) (fun k => ?_) (Ev.bind (eqIntS_ev _ (hx _ (List.getElem_mem hil))) (Ev.congr (fun k => ?_) (ih (i + 1) (by omega))))
    · simp only [laws_eqIntSS.l0]
      rw [if_pos (by omega), if_pos (by omega), if_pos (by omega), rdL_nat _ _ hil, wrap_succ hil (by omega)]
    · rw [if_pos (by trivial)]
theorem eqIntSS_ev (xs : List (List Int)) (hn : xs.length ≤ 1048576) (hx : ∀ x ∈ xs, x.length ≤ 1048576) : Ev (fun k => laws_eqIntSS.f k xs xs) true :=
  Ev.congr (fun k => by simp only [laws_eqIntSS.f]; rw [if_pos trivial]; rfl) (eqIntSS_l0 xs hn hx xs.length 0 (by omega))
theorem szIntSS_ev (xs : List (List Int)) (hn : xs.length ≤ 9223372036854775807) (hx : ∀ x ∈ xs, x.length ≤ 9223372036854775807) : ∃ r, Ev (fun k => laws_szIntSS.f k xs 1048576) r ∧ r ≤ 1048576 ∧ (0 ≤ r → SmallTh xs) := by
  by_cases h2 : (1048576 : Int) - (xs.length : Int) < 0
  · refine ⟨-1, Ev.cb (Ev.now ()) (fun k _ => ?_) (Ev.now (-1)), by omega, by omega⟩
    simp only [laws_szIntSS.f]
    rw [wrap_id (by omega) (by omega), if_pos h2]
  · obtain ⟨q, hq, hq1, hq2⟩ := szIntSS_l0 xs hn hx xs.length 0 (1048576 - xs.length) (by omega) (by omega) (by omega)
    refine ⟨q, Ev.cb (Ev.now ()) (fun k _ => ?_) hq, hq1, fun h => ⟨by omega, fun x hx => ?_⟩⟩
    · simp only [laws_szIntSS.f]
      rw [wrap_id (by omega) (by omega), if_neg h2]
      rfl
    · obtain ⟨j, hj, rfl⟩ := List.mem_iff_getElem.1 hx
      exact hq2 h j (by omega) hj
theorem szEventS_f (l : List S71) (a : Int) (h0 : 0 ≤ a) (h1 : a ≤ 1048576) (hl : l.length ≤ 9223372036854775807) :
    ∃ r, laws_szEventS.f l a = some r ∧ r ≤ 1048576 ∧ (0 ≤ r → l.length ≤ 1048576) := by
  unfold laws_szEventS.f
  rw [wrap_id (by omega) (by omega)]
  by_cases h : a - (l.length : Int) < 0
  · rw [if_pos h]
    exact ⟨_, rfl, by omega, by omega⟩
  · rw [if_neg h]
    exact ⟨_, rfl, by omega, by omega⟩
def evOf (x : S71) : S32 := ⟨x.f0, x.f1⟩
theorem rd71_nat (xs : List S71) (i : Nat) (h : i < xs.length) : rd_T71 xs (i : Int) = xs[i] := by
  simp [rd_T71, List.getD_eq_getElem?_getD, List.getElem?_eq_getElem h]
theorem toEventS_ev (l : List S71) (hl : l.length ≤ 1048576) : Ev (fun k => laws_toEventS.f k l) (l.map evOf) := by
  have loop : ∀ (d i : Nat) (ys : List S32), i + d = l.length → ys.length = l.length → (∀ j, j < i → ys[j]? = (l.map evOf)[j]?) → Ev (fun k => laws_toEventS.l0 k l ys i) (l.map evOf) := by
    intro d
    induction d with
    | zero =>
      intro i ys hi hy hj
      have : ys = l.map evOf := List.ext_getElem? fun j => by
        rcases Nat.lt_or_ge j i with h | h
        · exact hj j h
        · rw [List.getElem?_eq_none (by omega), List.getElem?_eq_none (by rw [List.length_map]; omega)]
      rw [← this]
      refine Ev.step (f := fun _ => some ys) (fun k => ?_) (Ev.now ys)
      simp only [laws_toEventS.l0]
      rw [if_neg (by omega)]
    | succ d ihd =>
      intro i ys hi hy hj
      have hil : i < l.length := by omega
      refine Ev.step (fun k => ?_) (ihd (i + 1) (ys.set i (evOf l[i])) (by omega) (by rw [List.length_set, hy]) (fun j hjj => ?_))
      · simp only [laws_toEventS.l0, laws_toEvent.f, Option.bind_some]
        rw [if_pos (by omega), if_pos (by omega), if_pos (by omega), rd71_nat _ _ hil, wrap_succ hil (by omega)]
        rfl
      · by_cases h : j = i
        · subst h
          rw [List.getElem?_set_self (by omega), List.getElem?_map, List.getElem?_eq_getElem hil]
          rfl
        · rw [List.getElem?_set_ne (Ne.symm h)]
          exact hj j (by omega)
  refine Ev.cb (Ev.now ()) (fun k _ => ?_) (loop l.length 0 (List.replicate l.length z32) (by omega) (by simp) (fun j hj => by omega))
  simp only [laws_toEventS.f]
  rw [if_pos (by omega), if_pos (by omega)]
  rfl
theorem eqEventS_ev (l : List S32) (hl : l.length ≤ 1048576) : Ev (fun k => laws_eqEventS.f k l l) true := by
  have loop : ∀ (d i : Nat), i + d = l.length → Ev (fun k => laws_eqEventS.l0 k l l i) true := by
    intro d
    induction d with
    | zero =>
      intro i hi
      refine Ev.step (f := fun _ => some true) (fun k => ?_) (Ev.now true)
      simp only [laws_eqEventS.l0]
      rw [if_neg (by omega)]
    | succ d ihd =>
      intro i hi
      have hil : i < l.length := by omega
      refine Ev.step (fun k => ?_) (ihd (i + 1) (by omega))
      simp only [laws_eqEventS.l0, laws_eqEvent.f]
      rw [if_pos (by omega), if_pos (by omega), if_pos (by omega), if_pos (by trivial), if_pos (by trivial)]
      simp only [Option.bind_some]
      rw [if_pos (by trivial), wrap_succ hil (by omega)]
  refine Ev.cb (Ev.now ()) (fun k _ => ?_) (loop l.length 0 (by omega))
  simp only [laws_eqEventS.f]
  rw [if_pos (by trivial)]
  rfl
end Go.Proofs.Ythljlnkanllpnaa.P
