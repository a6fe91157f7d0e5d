/- What the Go functions that the laws reach compute, and that their calls come to just that: told by a program of this session (aprint.py). No condition. -/
import Derived.Test.YtablnoddkllhmaaP0
namespace Go.Proofs.Ytablnoddkllhmaa.P
open Go.RowKit Go.Proofs.YtablnoddkllhmaaW.PrintWords Go.Proofs.YtablnoddkllhmaaW.PrintLast Go.Proofs.YtablnoddkllhmaaW.PrintMore
attribute [local go_sem] max2_int min2_int max_two min_two max_three min_three max_four min_four   -- for this text's walks alone
set_option linter.unusedVariables false
set_option linter.unusedSimpArgs false

/-! ### impl_sums: function 47 -/
def impl_sums.l0 : Nat → List Int → List Int → List Int → Int → Int → Option (List Int)
  | 0, _, _, _, _, _ => none
  | k + 1, x1, x7, x17, x18, x19 => if x19 < x18 then (if 0 ≤ x19 then (if x19 < (x17.length : Int) then (if x19 < (x1.length : Int) then (if 0 ≤ (rd x1 x19) then (if (rd x1 x19) < (x7.length : Int) then (impl_sums.l0 k x1 (x7.set ((rd x1 x19) : Int).toNat (wrap64 ((rd x7 (rd x1 x19)) + (rd x17 x19)))) x17 x18 (wrap64 (x19 + 1))) else (none)) else (none)) else (none)) else (none)) else (none)) else (some x7)
def impl_sums.f (k : Nat) (l0_0 : List Int) (l0_1 : List (List Int)) (l1 : List Int) (a2 : Int) : Option (List Int) := if 0 ≤ (l1.length : Int) then (if ((l1.length : Int) : Int).toNat ≤ 35184372088832 then (if 0 ≤ a2 then (if a2 < (l0_1.length : Int) then (impl_sums.l0 k l1 (List.replicate ((l1.length : Int) : Int).toNat 0) (rd_L1 l0_1 a2) ((rd_L1 l0_1 a2).length : Int) 0) else (none)) else (none)) else (none)) else (none)
theorem impl_sums.mono_l : ∀ k, (∀ y0 y1 y2 y3 y4, LeO (impl_sums.l0 k y0 y1 y2 y3 y4) (impl_sums.l0 (k + 1) y0 y1 y2 y3 y4))
  | 0 => fun _ _ _ _ _ r h => by simp [impl_sums.l0] at h
  | k + 1 => by
    have ih0 := impl_sums.mono_l k
    · intro y0 y1 y2 y3 y4
      unfold impl_sums.l0
      repeat' first
      | (with_reducible exact ih0 _ _ _ _ _)
      | (with_reducible exact LeO.refl _)
      | (with_reducible exact LeO.none _)
      | (with_reducible refine LeO.ite ?_ ?_)
      | (with_reducible refine LeO.bind ?_ (fun _ => ?_))
      | exact ih0 _ _ _ _ _
      | exact LeO.none _
      | refine LeO.ite ?_ ?_
      | refine LeO.bind ?_ (fun _ => ?_)
theorem impl_sums.mono : ∀ a0 a1 a2 a3 k, LeO (impl_sums.f k a0 a1 a2 a3) (impl_sums.f (k + 1) a0 a1 a2 a3) := by
  intro a0 a1 a2 a3 k
  have ih0 := impl_sums.mono_l k
  unfold impl_sums.f
  repeat' first
      | (with_reducible exact ih0 _ _ _ _ _)
      | (with_reducible exact LeO.refl _)
      | (with_reducible exact LeO.none _)
      | (with_reducible refine LeO.ite ?_ ?_)
      | (with_reducible refine LeO.bind ?_ (fun _ => ?_))
      | exact ih0 _ _ _ _ _
      | exact LeO.none _
      | refine LeO.ite ?_ ?_
      | refine LeO.bind ?_ (fun _ => ?_)
set_option maxHeartbeats 8000000 in
set_option maxRecDepth 100000 in
theorem impl_sums.calls (k : Nat) (A0_0 : Option Addr) (c0_0 : Nat) (l0_0 : List Int) (A0_1 : Option Addr) (c0_1 : Nat) (l0_1 : List (List Int)) (A1 : Option Addr) (c1 : Nat) (l1 : List Int) (a2 : Int) (r : List Int) (w : World) (hr0_0 : Kd.C (Kd.int .i64) w A0_0 l0_0.length l0_0) (hc0_0 : l0_0.length ≤ c0_0) (hr0_1 : Kd.C (Kd.slice 3 (Kd.int .i64)) w A0_1 l0_1.length l0_1) (hc0_1 : l0_1.length ≤ c0_1) (hr1 : Kd.C (Kd.int .i64) w A1 l1.length l1) (hc1 : l1.length ≤ c1) (h : impl_sums.f k l0_0 l0_1 l1 a2 = some r) :
    Calls Try.prog 47 #[.agg #[.slice A0_0 l0_0.length c0_0, .slice A0_1 l0_1.length c0_1], .slice A1 l1.length c1, .int .i64 a2] w fun e w' => ∃ v0_ : Value, e = .returned (v0_) ∧ Kd.R (Kd.int .i64) 3 w' w.heap.size (fun _ => True) v0_ r ∧ Below w.heap.size w w' := by
  have hu28 := Try.underlying28
  have HR0_0 := Aside0.mk hr0_0
  have HC0_0 := Aside0.mk hc0_0
  clear hr0_0 hc0_0
  have HR0_1 := Aside0.mk hr0_1
  have HC0_1 := Aside0.mk hc0_1
  clear hr0_1 hc0_1
  have HR1 := Aside0.mk hr1
  have HC1 := Aside0.mk hc1
  clear hr1 hc1
  have HB := Aside0.mk (Below.refl w.heap.size w)
  have H : (if 0 ≤ (l1.length : Int) then (if ((l1.length : Int) : Int).toNat ≤ 35184372088832 then (if 0 ≤ a2 then (if a2 < (l0_1.length : Int) then (impl_sums.l0 k l1 (List.replicate ((l1.length : Int) : Int).toNat 0) (rd_L1 l0_1 a2) ((rd_L1 l0_1 a2).length : Int) 0) else (none)) else (none)) else (none)) else (none)) = some r := h
  clear h
  by_cases c4 : 0 ≤ (l1.length : Int)
  · rw [if_pos c4] at H
    have c4b0 := eq_true c4
    have c4b1 : decide (0 ≤ (l1.length : Int)) = true := decide_eq_true c4
    clear c4
    by_cases c5 : ((l1.length : Int) : Int).toNat ≤ 35184372088832
    · rw [if_pos c5] at H
      have c5b0 := eq_true c5
      have c5b1 : decide (((l1.length : Int) : Int).toNat ≤ 35184372088832) = true := decide_eq_true c5
      clear c5
      obtain ⟨y197, hy197⟩ : ∃ y_ : List Int, y_ = (List.replicate ((l1.length : Int) : Int).toNat 0) := ⟨_, rfl⟩
      replace H : (if 0 ≤ a2 then (if a2 < (l0_1.length : Int) then (impl_sums.l0 k l1 y197 (rd_L1 l0_1 a2) ((rd_L1 l0_1 a2).length : Int) 0) else (none)) else (none)) = some r := by first | (rw [hy197]; with_reducible exact H) | (have H2_ := (Option.bind_some _ _).symm.trans H; rw [hy197]; with_reducible exact H2_) | (have H2_ := (Option.bind_some _ _).symm.trans H; with_reducible exact H2_) | with_reducible exact H | (rw [hy197]; exact H) | exact H
      have Ny197 := Aside0.mk hy197
      clear hy197
      by_cases c6 : 0 ≤ a2
      · rw [if_pos c6] at H
        have c6b0 : decide (0 ≤ a2) = true := decide_eq_true c6
        clear c6
        by_cases c7 : a2 < (l0_1.length : Int)
        · rw [if_pos c7] at H
          have c7b0 : decide (a2 < (l0_1.length : Int)) = true := decide_eq_true c7
          clear c7
          have H' := Aside0.mk H
          clear H
          go_enter Try.func47, Try.ntmps47
          go_wp2_with (first | ((with_reducible refine gate_dst (N := 3) rfl ?_); refine box_event ?hg (N := 3) ?hd (cs := #[.slice A0_0 l0_0.length c0_0, .slice A0_1 l0_1.length c0_1]) (t := 28) ?hr ?_; (case hd => rfl); (case hg => rfl); (case hr => first | (go_simp; done) | (go_simp; rfl)); intro gb196 hg w8 hbox hb; have n0_ := Aside0.mk (below_step (by repeat (first | (with_reducible first | exact HB.out | apply below_alloc | apply pw_below_drewN | apply below_drew1) | exact HB.out)) hb); have n1_ := Aside0.mk (hbox); have n2_ := Aside0.mk ((by rw [hg]; exact (below_size (by repeat (first | (with_reducible first | exact HB.out | apply below_alloc | apply pw_below_drewN | apply below_drew1) | exact HB.out))) : w.heap.size ≤ gb196)); have n3_ := Aside0.mk ((by rw [hg]; exact (below_size (by repeat (first | (with_reducible first | exact HB.out | apply below_alloc | apply pw_below_drewN | apply below_drew1) | exact HB.out))) : w.heap.size ≤ gb196)); clear HB; have HB := n0_; have BK196 := n1_; have GW196 := n2_; have GE196 := n3_; clear n0_ n1_ n2_ n3_; clear hb hbox hg) | ((with_reducible refine gate_dst (N := 12) rfl ?_); refine Kd.R_make (Kd.int .i64) _ 3 rfl (N := 12) rfl 22 _ _ rfl (l1.length : Int) rfl rfl Try.underlying22 (.int .i64 0) 8 info3 rfl (by decide) (by omega) 0 (ok := fun _ => True) (okp := fun _ => True) rfl (fun _ hk => hk) trivial (of_decide_eq_true (by first | (with_reducible assumption) | assumption)) (Nat.le_trans (Nat.mul_le_mul_right _ (of_decide_eq_true (by first | (with_reducible assumption) | assumption) : (l1.length : Int).toNat ≤ 35184372088832)) (by omega)) (Below.refl _ _) (Nat.le_refl _) ?_; intro v198 w9 ho10 hb hg_ hnew_; clear hg_ hnew_; (first | rw [← Ny197.out] at ho10 | (simp only [Int.reduceToNat] at ho10; rw [← Ny197.out] at ho10)); have n0_ := Aside0.mk (Kd.R_lower ho10 (below_size (by repeat (first | (with_reducible first | exact HB.out | apply below_alloc | apply pw_below_drewN | apply below_drew1 | refine below_set ?_ GE196.out) | exact HB.out)))); have n1_ := Aside0.mk (blk_below (g := gb196) (o := .cells #[.slice A0_0 l0_0.length c0_0, .slice A0_1 l0_1.length c0_1] 28 (0, 0)) (by (with_reducible repeat (first | refine blk_drewN ?_ _ | refine blk_drew ?_ | refine blk_alloc ?_ _)); exact BK196.out) hb); have n2_ := Aside0.mk (below_step (by repeat (first | (with_reducible first | exact HB.out | apply below_alloc | apply pw_below_drewN | apply below_drew1 | refine below_set ?_ GE196.out) | exact HB.out)) hb); clear BK196; clear HB; have HO199 := n0_; have BK196 := n1_; have HB := n2_; clear n0_ n1_ n2_; clear hb ho10; have hcz11_0 : w9.cell? ⟨gb196, 0, none⟩ = some (.slice A0_0 l0_0.length c0_0) := (blk_cell BK196.out 0).trans rfl; have hcz11_1 : w9.cell? ⟨gb196, 1, none⟩ = some (.slice A0_1 l0_1.length c0_1) := (blk_cell BK196.out 1).trans rfl; have hfz11_0 := blk_frozen BK196.out 0; have hfz11_1 := blk_frozen BK196.out 1; have p200 : 0 ≤ (a2 : Int) := of_decide_eq_true (by first | (with_reducible assumption) | assumption); have q200 : a2 < (l0_1.length : Int) := of_decide_eq_true (by first | (with_reducible assumption) | assumption); obtain ⟨ad200, A200_0, c200_0, e200, hx200_0, hl200_0, hi200_0⟩ := at_L1 HR0_1.out a2 p200 q200; cases e200; replace hx200_0 := (HB.out.cell (World.block_lt_of_cell? w _ hx200_0)).trans hx200_0; have HR200_0 := Aside0.mk hi200_0; have HC200_0 := Aside0.mk hl200_0; clear hi200_0 hl200_0; replace p200 := eq_true p200; replace q200 := eq_true q200))
          go_loopg [19] k (fun kq v19 w' => ∃ (x7_1 : List Int) (x19_1 : Int), v19 = .int .i64 x19_1 ∧ Aside0 (impl_sums.l0 kq l1 x7_1 (rd_L1 l0_1 a2) ((rd_L1 l0_1 a2).length : Int) x19_1 = some r) ∧ Aside0 (kq ≤ k) ∧ Aside0 (Kd.R (Kd.int .i64) 3 w' w.heap.size (fun _ => True) v198 x7_1) ∧ Aside0 (w'.heap[gb196]? = some (.cells #[(.slice A0_0 l0_0.length c0_0), (.slice (some ad200) l0_1.length c0_1)] 28 (0, 0))) ∧ Aside0 (Below w.heap.size w w'))
          case atStart => exact ⟨(y197), (0), (by first | rfl | (simp; done) | (simp [*]; done)), H', ⟨Nat.le_refl _⟩, ⟨by (with_reducible repeat (first | apply Kd.R_alloc | apply Kd.R_drewN | apply Kd.R_drew)); exact HO199.out⟩, ⟨by (with_reducible repeat (first | refine blk_drewN ?_ _ | refine blk_drew ?_ | refine blk_alloc ?_ _)); exact BK196.out⟩, ⟨by repeat (first | (with_reducible first | exact HB.out | apply below_alloc | apply pw_below_drewN | apply below_drew1 | refine below_set ?_ GE196.out) | exact HB.out)⟩⟩
          case round =>
            clear H'
            try clear c1
            try clear c2
            try clear p2
            try clear q2
            try clear hx2
            try clear c4
            try clear c4b0
            try clear c4b1
            try clear c5
            try clear c5b0
            try clear c5b1
            try clear c6
            try clear c6b0
            try clear c7
            try clear c7b0
            try clear hcz11_0
            try clear hcz11_1
            try clear hfz11_0
            try clear hfz11_1
            try clear hx200_0
            try clear p200
            try clear q200
            obtain ⟨x7_1, x19_1, rfl, HA, HK1, HO_7, BK196, HB⟩ := hrel
            cases gk with
            | zero => exact absurd HA.out (by simp [impl_sums.l0])
            | succ k1 =>
              have H := HA.out
              clear HA
              simp only [impl_sums.l0] at H
              by_cases c12 : x19_1 < ((rd_L1 l0_1 a2).length : Int)
              · rw [if_pos c12] at H
                have c12b0 : decide (x19_1 < ((rd_L1 l0_1 a2).length : Int)) = true := decide_eq_true c12
                clear c12
                by_cases c13 : 0 ≤ x19_1
                · rw [if_pos c13] at H
                  have c13b0 : decide (0 ≤ x19_1) = true := decide_eq_true c13
                  clear c13
                  by_cases c14 : x19_1 < ((rd_L1 l0_1 a2).length : Int)
                  · rw [if_pos c14] at H
                    have c14b0 : decide (x19_1 < ((rd_L1 l0_1 a2).length : Int)) = true := decide_eq_true c14
                    clear c14
                    by_cases c15 : x19_1 < (l1.length : Int)
                    · rw [if_pos c15] at H
                      have c15b0 : decide (x19_1 < (l1.length : Int)) = true := decide_eq_true c15
                      clear c15
                      by_cases c16 : 0 ≤ (rd l1 x19_1)
                      · rw [if_pos c16] at H
                        have c16b0 : decide (0 ≤ (rd l1 x19_1)) = true := decide_eq_true c16
                        clear c16
                        by_cases c17 : (rd l1 x19_1) < (x7_1.length : Int)
                        · rw [if_pos c17] at H
                          have c17b0 : decide ((rd l1 x19_1) < (x7_1.length : Int)) = true := decide_eq_true c17
                          clear c17
                          obtain ⟨y204, hy204⟩ : ∃ y_ : List Int, y_ = (x7_1.set ((rd l1 x19_1) : Int).toNat (wrap64 ((rd x7_1 (rd l1 x19_1)) + (rd (rd_L1 l0_1 a2) x19_1)))) := ⟨_, rfl⟩
                          replace H : (impl_sums.l0 k1 l1 y204 (rd_L1 l0_1 a2) ((rd_L1 l0_1 a2).length : Int) (wrap64 (x19_1 + 1))) = some r := by first | (rw [hy204]; with_reducible exact H) | (have H2_ := (Option.bind_some _ _).symm.trans H; rw [hy204]; with_reducible exact H2_) | (have H2_ := (Option.bind_some _ _).symm.trans H; with_reducible exact H2_) | with_reducible exact H | (rw [hy204]; exact H) | exact H
                          have Ny204 := Aside0.mk hy204
                          clear hy204
                          have H' := Aside0.mk H
                          clear H
                          have p201 : 0 ≤ (x19_1 : Int) := of_decide_eq_true (by first | (with_reducible assumption) | assumption)
                          have q201 : x19_1 < ((rd_L1 l0_1 a2).length : Int) := of_decide_eq_true (by first | (with_reducible assumption) | assumption)
                          obtain ⟨ad201, e201, hx201_0⟩ := Kd.at_int HR200_0.out x19_1 p201 q201
                          cases e201
                          replace hx201_0 := (HB.out.cell (World.block_lt_of_cell? w _ hx201_0)).trans hx201_0
                          replace p201 := eq_true p201
                          replace q201 := eq_true q201
                          have p202 : 0 ≤ (x19_1 : Int) := of_decide_eq_true (by first | (with_reducible assumption) | assumption)
                          have q202 : x19_1 < (l1.length : Int) := of_decide_eq_true (by first | (with_reducible assumption) | assumption)
                          obtain ⟨ad202, e202, hx202_0⟩ := Kd.at_int HR1.out x19_1 p202 q202
                          cases e202
                          replace hx202_0 := (HB.out.cell (World.block_lt_of_cell? w _ hx202_0)).trans hx202_0
                          replace p202 := eq_true p202
                          replace q202 := eq_true q202
                          obtain ⟨Ao19, co19, eo19⟩ := Kd.R_slice HO_7.out
                          subst eo19
                          have p203 : 0 ≤ ((rd l1 x19_1) : Int) := of_decide_eq_true (by first | (with_reducible assumption) | assumption)
                          have q203 : (rd l1 x19_1) < (x7_1.length : Int) := of_decide_eq_true (by first | (with_reducible assumption) | assumption)
                          obtain ⟨ad203, e203, hx203_0⟩ := Kd.at_int (Kd.R_reads' HO_7.out).2.2 (rd l1 x19_1) p203 q203
                          cases e203
                          replace p203 := eq_true p203
                          replace q203 := eq_true q203
                          have p18 : 0 ≤ ((rd l1 x19_1) : Int) := of_decide_eq_true (by first | (with_reducible assumption) | assumption)
                          have q18 : ((rd l1 x19_1) : Int) < ((x7_1.length : Int) : Int) := of_decide_eq_true (by first | (with_reducible assumption) | assumption)
                          obtain ⟨go18, co18, eo18, gb18, gl18, cl18, HG18⟩ := Kd.R_form HO_7.out (by omega)
                          (first | cases eo18 | (injection eo18 with ea_ en_ ec_; (first | subst ea_ | (injection ea_ with ea_; subst ea_)); subst ec_; clear en_))
                          have GB18 := Aside0.mk gb18
                          have GG18 := Aside0.mk HG18
                          clear gb18 gl18 HG18
                          (first | simp only [add_plain] at hx203_0 | skip)
                          obtain ⟨hx18_0, hf18_0⟩ := Kd.R_celln 0 HO_7.out ((rd l1 x19_1) : Int) p18 q18
                          replace p18 := eq_true p18
                          replace q18 := eq_true q18
                          have HP20 := Kd.R_putg HO_7.out ((rd l1 x19_1) : Int) (wrap64 ((rd x7_1 (rd l1 x19_1)) + (rd (rd_L1 l0_1 a2) x19_1)))
                          go_wp2_with (first | ((with_reducible refine gate_store (t := 3) (p := 33) rfl ?_); refine store_event (t := 3) (p := 33) (v := ?vo_w21) (w1 := (wr.setCell ⟨go18, ((rd l1 x19_1) : Int).toNat, none⟩ (.int .i64 (wrap64 ((rd x7_1 (rd l1 x19_1)) + (rd (rd_L1 l0_1 a2) x19_1)))))) ?hg ?ho ?hn ?hr ?_; (case ho => rfl); (case hg => rfl); (case hn => rfl); (case hr => first | (go_simp; done) | (go_simp; rfl)); intro w21 hw; have hg : wr.grownBy w21 (some go18) := (by rw [hw]; exact HP20.2); have hp_ : Kd.R (Kd.int .i64) 3 w21 w.heap.size (fun _ => True) (.slice (some ⟨go18, 0, none⟩) x7_1.length co19) y204 := (by rw [hw, Ny204.out]; exact HP20.1); clear HP20; have n0_ := Aside0.mk (hp_); have n1_ := Aside0.mk (blk_grown (g := gb196) (o := .cells #[.slice A0_0 l0_0.length c0_0, .slice (some ad200) l0_1.length c0_1] 28 (0, 0)) (by (with_reducible repeat (first | refine blk_drewN ?_ _ | refine blk_drew ?_ | refine blk_alloc ?_ _)); exact BK196.out) hg (Kd.R_ne HO_7.out BK196.out (by decide))); have n2_ := Aside0.mk ((by rw [hw]; exact below_set (HB.out) GB18.out : Below w.heap.size w w21)); clear HO_7; clear BK196; clear HB; have HO_7 := n0_; have BK196 := n1_; have HB := n2_; clear n0_ n1_ n2_; clear hg hw hp_))
                          go_roundg k1
                          case measure => have := HK1.out; omega
                          case rel => exact ⟨(y204), (wrap64 (x19_1 + 1)), (by first | rfl | (simp; done) | (simp [*]; done)), H', ⟨by have := HK1.out; omega⟩, ⟨by (with_reducible repeat (first | apply Kd.R_alloc | apply Kd.R_drewN | apply Kd.R_drew)); exact HO_7.out⟩, ⟨by (with_reducible repeat (first | refine blk_drewN ?_ _ | refine blk_drew ?_ | refine blk_alloc ?_ _)); exact BK196.out⟩, ⟨by repeat (first | (with_reducible first | exact HB.out | apply below_alloc | apply pw_below_drewN | apply below_drew1 | refine below_set ?_ GE196.out) | exact HB.out)⟩⟩
                        · rw [if_neg c17] at H
                          exact absurd H (by simp)
                      · rw [if_neg c16] at H
                        exact absurd H (by simp)
                    · rw [if_neg c15] at H
                      exact absurd H (by simp)
                  · rw [if_neg c14] at H
                    exact absurd H (by simp)
                · rw [if_neg c13] at H
                  exact absurd H (by simp)
              · rw [if_neg c12] at H
                have c12b0 : decide (x19_1 < ((rd_L1 l0_1 a2).length : Int)) = false := decide_eq_false c12
                clear c12
                obtain rfl := Option.some.inj H
                go_wp2
                go_ret
                exact ⟨_, by first | rfl | (simp [errW_none, errW_some] <;> rfl) | (simp [*, errW_none, errW_some] <;> rfl), by (with_reducible repeat (first | apply Kd.R_alloc | apply Kd.R_drewN | apply Kd.R_drew)); exact HO_7.out, by repeat (first | (with_reducible first | exact HB.out | apply below_alloc | apply pw_below_drewN | apply below_drew1 | refine below_set ?_ GE196.out) | exact HB.out)⟩
        · rw [if_neg c7] at H
          exact absurd H (by simp)
      · rw [if_neg c6] at H
        exact absurd H (by simp)
    · rw [if_neg c5] at H
      exact absurd H (by simp)
  · rw [if_neg c4] at H
    exact absurd H (by simp)

end Go.Proofs.Ytablnoddkllhmaa.P
