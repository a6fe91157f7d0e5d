/- What writes marks into a chain: which blocks it turns, what stands there then. No condition. -/
import Derived.Test.YthljlnkanllpnaaP0
import Derived.Test.YthljlnkanllpnaaP2
import Derived.Test.YthljlnkanllpnaaWKept
import Derived.Test.YthljlnkanllpnaaWApart
namespace Go.Proofs.Ythljlnkanllpnaa.P
open Go.RowKit Go.Proofs.YthljlnkanllpnaaW.PrintWords Go.Proofs.YthljlnkanllpnaaW.PrintLast Go.Proofs.YthljlnkanllpnaaW.PrintMore
attribute [local go_sem] max2_int min2_int max_two min_two max_three min_three max_four min_four
set_option linter.unusedVariables false
set_option linter.unusedSimpArgs false
def laws_markIntSS.l0 : Nat → List (List Int) → Int → Int → Option (Int × List (List Int))
  | 0, _, _, _ => none
  | k + 1, xs, a, i => if i < (xs.length : Int) then (if 0 ≤ i then ((laws_markIntS.f k (rd_L2 xs i) a).bind fun t => laws_markIntSS.l0 k (xs.set i.toNat t.2) t.1 (wrap64 (i + 1))) else none) else some (a, xs)
def laws_markIntSS.f (k : Nat) (l0 : List (List Int)) (a1 : Int) : Option (Int × List (List Int)) := laws_markIntSS.l0 k l0 a1 0
set_option maxHeartbeats 8000000 in
set_option maxRecDepth 100000 in
theorem laws_markIntSS.calls (k : Nat) (P0_ : Nat → Prop) (u : Value) (l0 : List (List Int)) (a1 r1 : Int) (r2 : List (List Int)) (w0 w : World) (hB : Below w0.heap.size w0 w) (ho : Kd.S (Kd.slice 3 (Kd.int .i64)) 27 w w0.heap.size P0_ u l0) (h : laws_markIntSS.f k l0 a1 = some (r1, r2)) :
    Calls Try.prog 36 #[u, .int .i64 a1] w fun e w' => e = .returned (.int .i64 r1) ∧ Kd.S (Kd.slice 3 (Kd.int .i64)) 27 w' w0.heap.size P0_ u r2 ∧ Below w0.heap.size w0 w' ∧ Kept w w' P0_ := by
  have HO0 := Aside0.mk ho
  have HK := Aside0.mk (Kept.refl w P0_)
  have HB := Aside0.mk hB
  clear hB ho
  have H' := Aside0.mk (show laws_markIntSS.l0 k l0 a1 0 = some (r1, r2) from h)
  clear h
  go_enter Try.func36, Try.ntmps36
  go_wp2
  go_loopg [1, 5] k (fun kq v1 v5 w' => ∃ (x0_1 : List (List Int)) (x1_1 : Int) (x5_1 : Int), v1 = .int .i64 x1_1 ∧ v5 = .int .i64 x5_1 ∧ Aside0 (laws_markIntSS.l0 kq x0_1 x1_1 x5_1 = some (r1, r2)) ∧ Aside0 (kq ≤ k) ∧ Aside0 (Kd.S (Kd.slice 3 (Kd.int .i64)) 27 w' w0.heap.size P0_ u x0_1) ∧ Aside0 (Kept w w' P0_) ∧ Aside0 (Below w0.heap.size w0 w'))
  case atStart => exact ⟨l0, a1, 0, rfl, rfl, H', ⟨Nat.le_refl _⟩, HO0, HK, HB⟩
  case round =>
    clear H'
    obtain ⟨x0_1, x1_1, x5_1, rfl, rfl, HA, HK1, HO_0, HK, HB⟩ := hrel
    cases gk with
    | zero => exact absurd HA.out (by simp [laws_markIntSS.l0])
    | succ k1 =>
      have H := HA.out
      clear HA
      simp only [laws_markIntSS.l0] at H
      by_cases c3 : x5_1 < (x0_1.length : Int)
      · rw [if_pos c3] at H
        have c3b0 : decide (x5_1 < (x0_1.length : Int)) = true := decide_eq_true c3
        by_cases c4 : 0 ≤ x5_1
        · rw [if_pos c4] at H
          have c4b0 : decide (0 ≤ x5_1) = true := decide_eq_true c4
          obtain ⟨⟨t1, t2⟩, hcall, H⟩ := Option.bind_eq_some_iff.mp H
          have H' := Aside0.mk H
          clear H
          obtain ⟨go, cap, rfl, gb, gl, cl, HG⟩ := Kd.S_form HO_0.out (by omega)
          obtain ⟨oki, c, hcl, hM, hcc, hfr, hoki, hH⟩ := Kd.S_elem HO_0.out ([] : List Int) x5_1 c4 c3
          obtain ⟨row, hrow⟩ : ∃ row, row = x0_1.getD x5_1.toNat ([] : List Int) := ⟨_, rfl⟩
          rw [← hrow] at hM
          have A2 : Aside0 (laws_markIntS.f k1 row x1_1 = some (t1, t2)) := ⟨by rw [hrow]; exact hcall⟩
          have HW := Aside0.mk hrow
          clear hcall hrow
          obtain ⟨v, rfl, hR⟩ := hM
          have hc1 : wr.cell? ⟨go, x5_1.toNat, none⟩ = some v := by
            have := hcc 0 v rfl
            simpa [Kd.slice] using this
          obtain ⟨Ao, co, rfl⟩ := Kd.R_slice hR
          have HR := Aside0.mk hR
          have HH := Aside0.mk hH
          have p5 := eq_true c4
          have q5 := eq_true c3
          have HI := Aside0.mk hoki
          clear hR hH hcc hfr hoki cl HG gb gl c3 c4 hcl
          go_wp2_with (first | (go_at_call 38; (with_reducible refine (laws_markIntS.calls k1 oki _ row x1_1 t1 t2 w0 _ ?side1 ?side2 A2.out).mono ?_); (case side1 => exact HB.out); (case side2 => exact HR.out); rintro e w8 ⟨rfl, hR8, hB8, hK8⟩; have n0_ : Aside0 (Kd.S (Kd.slice 3 (Kd.int .i64)) 27 w8 w0.heap.size P0_ (.slice (some ⟨go, 0, none⟩) x0_1.length cap) (x0_1.set x5_1.toNat t2)) := ⟨Kd.H_back (okp := oki) (Kd.H_step HH.out (fun k_ _ hn hlt => hK8.2 k_ hlt hn)) ⟨_, rfl, Kd.R_mono (Kd.R_tight rfl hR8) (fun k_ hk => HR.out.1 k_ hk.symm)⟩ (fun _ hk => hk)⟩; have n1_ : Aside0 (Kept w w8 P0_) := ⟨Kept.then_ HK.out hK8 (fun k_ hk => .inl (HI.out k_ hk).1)⟩; have n2_ := Aside0.mk hB8; clear HO_0 HK HB hR8 hB8 hK8; have HO_0 := n0_; have HK := n1_; have HB := n2_; clear n0_ n1_ n2_))
          go_roundg k1
          case measure => have := HK1.out; omega
          case rel => exact ⟨_, _, _, rfl, rfl, H', ⟨by have := HK1.out; omega⟩, HO_0, HK, HB⟩
        · rw [if_neg c4] at H
          exact absurd H (by simp)
      · rw [if_neg c3] at H
        have c3b0 : decide (x5_1 < (x0_1.length : Int)) = false := decide_eq_false c3
        clear c3
        simp only [Option.some.injEq, Prod.mk.injEq] at H
        obtain ⟨rfl, rfl⟩ := H
        obtain ⟨Ao9, co9, eo9⟩ := Kd.S_slice HO_0.out
        subst eo9
        go_wp2
        go_ret
        exact ⟨rfl, HO_0.out, HB.out, HK.out⟩
end Go.Proofs.Ythljlnkanllpnaa.P
