/- What the Go functions that the laws reach compute, and that their calls come to just that: told by a program of this session (aprint.py). No condition. -/
import Derived.Test.YtablnoddkllhmaaP0
import Derived.Test.YtablnoddkllhmaaP1
import Derived.Test.YtablnoddkllhmaaP2
namespace Go.Proofs.Ytablnoddkllhmaa.P
open Go.RowKit Go.Proofs.YtablnoddkllhmaaW.PrintWords Go.Proofs.YtablnoddkllhmaaW.PrintLast Go.Proofs.YtablnoddkllhmaaW.PrintMore
attribute [local go_sem] max2_int min2_int max_two min_two max_three min_three max_four min_four
set_option linter.unusedVariables false
set_option linter.unusedSimpArgs false
mutual
def laws_FnChancesClasses.l0 : Nat → List Int → Int → List Int → List (List Int) → Option (Bool)
 | 0, _, _, _, _ => none
 | k + 1, x4, x6, x443000, x443001 => if x6 < (x4.length : Int) then (if 0 ≤ x6 then (if x6 < (x443000.length : Int) then (if 0 ≤ (rd x4 x6) then (if (rd x4 x6) < (x443000.length : Int) then (if (rd x443000 x6) = (rd x443000 (rd x4 x6)) then (if (rd x4 x6) < (x4.length : Int) then (if (rd x4 (rd x4 x6)) = (rd x4 x6) then (laws_FnChancesClasses.j1 k x4 x6 (rd x4 x6) (decide ((rd x4 x6) > x6)) x443000 x443001) else (laws_FnChancesClasses.j1 k x4 x6 (rd x4 x6) true x443000 x443001)) else (none)) else (laws_FnChancesClasses.j1 k x4 x6 (rd x4 x6) true x443000 x443001)) else (none)) else (none)) else (none)) else (none)) else (some true)
def laws_FnChancesClasses.j1 : Nat → List Int → Int → Int → Bool → List Int → List (List Int) → Option (Bool)
 | 0, _, _, _, _, _, _ => none
 | k + 1, x4, x6, x7, x58, x443000, x443001 => if x58 = true then (some false) else (laws_FnChancesClasses.l1 k x4 x6 x7 0 x443000 x443001)
def laws_FnChancesClasses.l1 : Nat → List Int → Int → Int → Int → List Int → List (List Int) → Option (Bool)
 | 0, _, _, _, _, _, _ => none
 | k + 1, x4, x6, x7, x8, x443000, x443001 => if x8 < (x4.length : Int) then (laws_FnChancesClasses.l2 k x4 x6 x7 x8 0 0 0 x443000 x443001) else (laws_FnChancesClasses.l0 k x4 (wrap64 (x6 + 1)) x443000 x443001)
def laws_FnChancesClasses.l2 : Nat → List Int → Int → Int → Int → Int → Int → Int → List Int → List (List Int) → Option (Bool)
 | 0, _, _, _, _, _, _, _, _, _ => none
 | k + 1, x4, x6, x7, x8, x9, x10, x11, x443000, x443001 => if x11 < (x4.length : Int) then (if 0 ≤ x11 then (if (rd x4 x11) = x8 then (if 0 ≤ x6 then (if x6 < (x443001.length : Int) then (if x11 < ((rd_L1 x443001 x6).length : Int) then (if 0 ≤ x7 then (if x7 < (x443001.length : Int) then (if x11 < ((rd_L1 x443001 x7).length : Int) then (laws_FnChancesClasses.l2 k x4 x6 x7 x8 (wrap64 (x9 + (rd (rd_L1 x443001 x6) x11))) (wrap64 (x10 + (rd (rd_L1 x443001 x7) x11))) (wrap64 (x11 + 1)) x443000 x443001) else (none)) else (none)) else (none)) else (none)) else (none)) else (none)) else (laws_FnChancesClasses.l2 k x4 x6 x7 x8 x9 x10 (wrap64 (x11 + 1)) x443000 x443001)) else (none)) else (if x9 = x10 then (laws_FnChancesClasses.l1 k x4 x6 x7 (wrap64 (x8 + 1)) x443000 x443001) else (some false))
end
def laws_FnChancesClasses.f (k : Nat) (l0 : List Int) : Option (Bool) := if (l0.length : Int) > 1048576 then (some true) else ((spec_DrawChancesClasses.f k l0).bind fun bt436 => ((impl_ChancesClasses.f k bt436.1 bt436.2).bind fun t443 => ((spec_ChancesClasses.f k bt436.1 bt436.2).bind fun t446 => ((laws_mnInts.f k t443 t446).bind fun t449 => (if t449 = true then (laws_FnChancesClasses.l0 k t443 0 bt436.1 bt436.2) else (some false))))))
theorem laws_FnChancesClasses.mono_l : ∀ k, (∀ y0 y1 y2 y3, LeO (laws_FnChancesClasses.l0 k y0 y1 y2 y3) (laws_FnChancesClasses.l0 (k + 1) y0 y1 y2 y3)) ∧ (∀ y0 y1 y2 y3 y4 y5, LeO (laws_FnChancesClasses.j1 k y0 y1 y2 y3 y4 y5) (laws_FnChancesClasses.j1 (k + 1) y0 y1 y2 y3 y4 y5)) ∧ (∀ y0 y1 y2 y3 y4 y5, LeO (laws_FnChancesClasses.l1 k y0 y1 y2 y3 y4 y5) (laws_FnChancesClasses.l1 (k + 1) y0 y1 y2 y3 y4 y5)) ∧ (∀ y0 y1 y2 y3 y4 y5 y6 y7 y8, LeO (laws_FnChancesClasses.l2 k y0 y1 y2 y3 y4 y5 y6 y7 y8) (laws_FnChancesClasses.l2 (k + 1) y0 y1 y2 y3 y4 y5 y6 y7 y8))
 | 0 => ⟨fun _ _ _ _ r h => by simp [laws_FnChancesClasses.l0] at h, fun _ _ _ _ _ _ r h => by simp [laws_FnChancesClasses.j1] at h, fun _ _ _ _ _ _ r h => by simp [laws_FnChancesClasses.l1] at h, fun _ _ _ _ _ _ _ _ _ r h => by simp [laws_FnChancesClasses.l2] at h⟩
 | k + 1 => by
  obtain ⟨ih0, ih1, ih2, ih3⟩ := laws_FnChancesClasses.mono_l k
  refine ⟨?_, ?_, ?_, ?_⟩
  ·intro y0 y1 y2 y3
   unfold laws_FnChancesClasses.l0
   repeat' first
   | (with_reducible exact ih0 _ _ _ _)
   | (with_reducible exact ih1 _ _ _ _ _ _)
   | (with_reducible exact ih2 _ _ _ _ _ _)
   | (with_reducible exact ih3 _ _ _ _ _ _ _ _ _)
   | (with_reducible exact impl_ChancesClasses.mono _ _ _)
   | (with_reducible exact laws_mnInts.mono _ _ _)
   | (with_reducible exact spec_ChancesClasses.mono _ _ _)
   | (with_reducible exact spec_DrawChancesClasses.mono _ _)
   | (with_reducible exact LeO.refl _)
   | (with_reducible exact LeO.none _)
   | (with_reducible refine LeO.ite ?_ ?_)
   | (with_reducible refine LeO.bind ?_ (fun _ => ?_))
   | exact ih0 _ _ _ _
   | exact ih1 _ _ _ _ _ _
   | exact ih2 _ _ _ _ _ _
   | exact ih3 _ _ _ _ _ _ _ _ _
   | exact impl_ChancesClasses.mono _ _ _
   | exact laws_mnInts.mono _ _ _
   | exact spec_ChancesClasses.mono _ _ _
   | exact spec_DrawChancesClasses.mono _ _
   | exact LeO.none _
   | refine LeO.ite ?_ ?_
   | refine LeO.bind ?_ (fun _ => ?_)
  ·intro y0 y1 y2 y3 y4 y5
   unfold laws_FnChancesClasses.j1
   repeat' first
   | (with_reducible exact ih0 _ _ _ _)
   | (with_reducible exact ih1 _ _ _ _ _ _)
   | (with_reducible exact ih2 _ _ _ _ _ _)
   | (with_reducible exact ih3 _ _ _ _ _ _ _ _ _)
   | (with_reducible exact impl_ChancesClasses.mono _ _ _)
   | (with_reducible exact laws_mnInts.mono _ _ _)
   | (with_reducible exact spec_ChancesClasses.mono _ _ _)
   | (with_reducible exact spec_DrawChancesClasses.mono _ _)
   | (with_reducible exact LeO.refl _)
   | (with_reducible exact LeO.none _)
   | (with_reducible refine LeO.ite ?_ ?_)
   | (with_reducible refine LeO.bind ?_ (fun _ => ?_))
   | exact ih0 _ _ _ _
   | exact ih1 _ _ _ _ _ _
   | exact ih2 _ _ _ _ _ _
   | exact ih3 _ _ _ _ _ _ _ _ _
   | exact impl_ChancesClasses.mono _ _ _
   | exact laws_mnInts.mono _ _ _
   | exact spec_ChancesClasses.mono _ _ _
   | exact spec_DrawChancesClasses.mono _ _
   | exact LeO.none _
   | refine LeO.ite ?_ ?_
   | refine LeO.bind ?_ (fun _ => ?_)
  ·intro y0 y1 y2 y3 y4 y5
   unfold laws_FnChancesClasses.l1
   repeat' first
   | (with_reducible exact ih0 _ _ _ _)
   | (with_reducible exact ih1 _ _ _ _ _ _)
   | (with_reducible exact ih2 _ _ _ _ _ _)
   | (with_reducible exact ih3 _ _ _ _ _ _ _ _ _)
   | (with_reducible exact impl_ChancesClasses.mono _ _ _)
   | (with_reducible exact laws_mnInts.mono _ _ _)
   | (with_reducible exact spec_ChancesClasses.mono _ _ _)
   | (with_reducible exact spec_DrawChancesClasses.mono _ _)
   | (with_reducible exact LeO.refl _)
   | (with_reducible exact LeO.none _)
   | (with_reducible refine LeO.ite ?_ ?_)
   | (with_reducible refine LeO.bind ?_ (fun _ => ?_))
   | exact ih0 _ _ _ _
   | exact ih1 _ _ _ _ _ _
   | exact ih2 _ _ _ _ _ _
   | exact ih3 _ _ _ _ _ _ _ _ _
   | exact impl_ChancesClasses.mono _ _ _
   | exact laws_mnInts.mono _ _ _
   | exact spec_ChancesClasses.mono _ _ _
   | exact spec_DrawChancesClasses.mono _ _
   | exact LeO.none _
   | refine LeO.ite ?_ ?_
   | refine LeO.bind ?_ (fun _ => ?_)
  ·intro y0 y1 y2 y3 y4 y5 y6 y7 y8
   unfold laws_FnChancesClasses.l2
   repeat' first
   | (with_reducible exact ih0 _ _ _ _)
   | (with_reducible exact ih1 _ _ _ _ _ _)
   | (with_reducible exact ih2 _ _ _ _ _ _)
   | (with_reducible exact ih3 _ _ _ _ _ _ _ _ _)
   | (with_reducible exact impl_ChancesClasses.mono _ _ _)
   | (with_reducible exact laws_mnInts.mono _ _ _)
   | (with_reducible exact spec_ChancesClasses.mono _ _ _)
   | (with_reducible exact spec_DrawChancesClasses.mono _ _)
   | (with_reducible exact LeO.refl _)
   | (with_reducible exact LeO.none _)
   | (with_reducible refine LeO.ite ?_ ?_)
   | (with_reducible refine LeO.bind ?_ (fun _ => ?_))
   | exact ih0 _ _ _ _
   | exact ih1 _ _ _ _ _ _
   | exact ih2 _ _ _ _ _ _
   | exact ih3 _ _ _ _ _ _ _ _ _
   | exact impl_ChancesClasses.mono _ _ _
   | exact laws_mnInts.mono _ _ _
   | exact spec_ChancesClasses.mono _ _ _
   | exact spec_DrawChancesClasses.mono _ _
   | exact LeO.none _
   | refine LeO.ite ?_ ?_
   | refine LeO.bind ?_ (fun _ => ?_)
theorem laws_FnChancesClasses.mono : ∀ a0 k, LeO (laws_FnChancesClasses.f k a0) (laws_FnChancesClasses.f (k + 1) a0) := by
 intro a0 k
 obtain ⟨ih0, ih1, ih2, ih3⟩ := laws_FnChancesClasses.mono_l k
 unfold laws_FnChancesClasses.f
 repeat' first
   | (with_reducible exact ih0 _ _ _ _)
   | (with_reducible exact ih1 _ _ _ _ _ _)
   | (with_reducible exact ih2 _ _ _ _ _ _)
   | (with_reducible exact ih3 _ _ _ _ _ _ _ _ _)
   | (with_reducible exact impl_ChancesClasses.mono _ _ _)
   | (with_reducible exact laws_mnInts.mono _ _ _)
   | (with_reducible exact spec_ChancesClasses.mono _ _ _)
   | (with_reducible exact spec_DrawChancesClasses.mono _ _)
   | (with_reducible exact LeO.refl _)
   | (with_reducible exact LeO.none _)
   | (with_reducible refine LeO.ite ?_ ?_)
   | (with_reducible refine LeO.bind ?_ (fun _ => ?_))
   | exact ih0 _ _ _ _
   | exact ih1 _ _ _ _ _ _
   | exact ih2 _ _ _ _ _ _
   | exact ih3 _ _ _ _ _ _ _ _ _
   | exact impl_ChancesClasses.mono _ _ _
   | exact laws_mnInts.mono _ _ _
   | exact spec_ChancesClasses.mono _ _ _
   | exact spec_DrawChancesClasses.mono _ _
   | exact LeO.none _
   | refine LeO.ite ?_ ?_
   | refine LeO.bind ?_ (fun _ => ?_)
set_option maxHeartbeats 8000000 in
set_option maxRecDepth 100000 in
theorem laws_FnChancesClasses.calls (k : Nat) (A0 : Option Addr) (c0 : Nat) (l0 : List Int) (r : Bool) (w : World) (hr0 : Kd.C (Kd.int .u8) w A0 l0.length l0) (hc0 : l0.length ≤ c0) (h : laws_FnChancesClasses.f k l0 = some r) :
  Calls Try.prog 7 #[.slice A0 l0.length c0] w fun e w' => e = .returned (.bool r) ∧ Below w.heap.size w w' := by
 have hu28 := Try.underlying28
 have HR0 := Aside0.mk hr0
 have HC0 := Aside0.mk hc0
 clear hr0 hc0
 have HB := Aside0.mk (Below.refl w.heap.size w)
 have H : (if (l0.length : Int) > 1048576 then (some true) else ((spec_DrawChancesClasses.f k l0).bind fun bt436 => ((impl_ChancesClasses.f k bt436.1 bt436.2).bind fun t443 => ((spec_ChancesClasses.f k bt436.1 bt436.2).bind fun t446 => ((laws_mnInts.f k t443 t446).bind fun t449 => (if t449 = true then (laws_FnChancesClasses.l0 k t443 0 bt436.1 bt436.2) else (some false))))))) = some r := h
 clear h
 by_cases c2 : (l0.length : Int) > 1048576
 ·rw [if_pos c2] at H
  have c2b0 : decide (1048576 < (l0.length : Int)) = true := decide_eq_true c2
  have c2b1 : decide (1048576 < l0.length) = true := decide_eq_true (by omega)
  clear c2
  obtain rfl := Option.some.inj H
  go_enter Try.func7, Try.ntmps7
  go_wp2
  repeat (go_quiet (fail); try go_wp2)
  go_ret
  exact ⟨by first | rfl | (simp [errW_none, errW_some] <;> rfl) | (simp [*, errW_none, errW_some] <;> rfl), by repeat (first | (with_reducible first | exact HB.out | apply below_alloc | apply pw_below_drewN | apply below_drew1) | exact HB.out)⟩
 ·rw [if_neg c2] at H
  have c2b0 : decide (1048576 < (l0.length : Int)) = false := decide_eq_false c2
  have c2b1 : decide (1048576 < l0.length) = false := decide_eq_false (by omega)
  clear c2
  replace H := Option.bind_eq_some_iff.mp H
  obtain ⟨⟨t436, t439⟩, A30, H⟩ := H
  replace H : ((impl_ChancesClasses.f k t436 t439).bind fun t443 => ((spec_ChancesClasses.f k t436 t439).bind fun t446 => ((laws_mnInts.f k t443 t446).bind fun t449 => (if t449 = true then (laws_FnChancesClasses.l0 k t443 0 t436 t439) else (some false))))) = some r := H
  have A3 := Aside0.mk A30
  clear A30
  replace H := Option.bind_eq_some_iff.mp H
  obtain ⟨t443, A40, H⟩ := H
  replace H : ((spec_ChancesClasses.f k t436 t439).bind fun t446 => ((laws_mnInts.f k t443 t446).bind fun t449 => (if t449 = true then (laws_FnChancesClasses.l0 k t443 0 t436 t439) else (some false)))) = some r := H
  have A4 := Aside0.mk A40
  clear A40
  replace H := Option.bind_eq_some_iff.mp H
  obtain ⟨t446, A50, H⟩ := H
  replace H : ((laws_mnInts.f k t443 t446).bind fun t449 => (if t449 = true then (laws_FnChancesClasses.l0 k t443 0 t436 t439) else (some false))) = some r := H
  have A5 := Aside0.mk A50
  clear A50
  replace H := Option.bind_eq_some_iff.mp H
  obtain ⟨t449, A60, H⟩ := H
  replace H : (if t449 = true then (laws_FnChancesClasses.l0 k t443 0 t436 t439) else (some false)) = some r := H
  have A6 := Aside0.mk A60
  clear A60
  by_cases c7 : t449 = true
  ·subst c7
   have H1 : (laws_FnChancesClasses.l0 k t443 0 t436 t439) = some r := by rw [if_pos rfl] at H; exact H
   clear H
   have H := H1
   clear H1
   have H' := Aside0.mk H
   clear H
   go_enter Try.func7, Try.ntmps7
   go_wp2_with (first | (go_at_call 29; (with_reducible refine (spec_DrawChancesClasses.calls k _ _ l0 t436 t439 _ ?side1 ?side2 A3.out).mono ?_); (case side1 => repeat (first | exact HR0.out | (with_reducible refine Kd.C_alloc ?_ _) | (with_reducible refine Kd.C_drewN ?_ _) | (with_reducible refine Kd.C_drew ?_))); (case side2 => exact HC0.out); rintro e w8 ⟨v437, v440, rfl, ho0, ho1, hb⟩; have n0_ := Aside0.mk (Kd.R_lower (Kd.R_mono (ok' := fun k_ => True) ho0 (fun _ hk_ => trivial)) (below_size (by repeat (first | (with_reducible first | exact HB.out | apply below_alloc | apply pw_below_drewN | apply below_drew1) | exact HB.out)))); have n1_ := Aside0.mk (Kd.N_lower (Kd.N_mono (ok' := fun k_ => some k_ ≠ (v437 : Value).ownBlock) ho1 (fun k_ hk_ => hk_.2)) (below_size (by repeat (first | (with_reducible first | exact HB.out | apply below_alloc | apply pw_below_drewN | apply below_drew1) | exact HB.out)))); have n2_ := Aside0.mk (below_step (by repeat (first | (with_reducible first | exact HB.out | apply below_alloc | apply pw_below_drewN | apply below_drew1) | exact HB.out)) hb); clear HB; have HO438 := n0_; have HO441 := n1_; have HB := n2_; clear n0_ n1_ n2_; (try clear hb); (try clear hb2); (try clear hk); (try clear hi); (try clear ho0); (try clear ho1)) | ((with_reducible refine gate_dst (N := 3) rfl ?_); refine box_event ?hg (N := 3) ?hd (cs := #[.slice none 0 0, .slice none 0 0]) (t := 28) ?hr ?_; (case hd => rfl); (case hg => rfl); (case hr => first | (go_simp; done) | (go_simp; rfl)); intro gb442 hg w9 hbox hb; have n0_ := Aside0.mk (Kd.R_below (by (with_reducible repeat (first | apply Kd.R_alloc | apply Kd.R_drewN | apply Kd.R_drew)); exact HO438.out) hb); have n1_ := Aside0.mk (Kd.N_below (Kd.N_elderB (by (with_reducible repeat (first | apply Kd.N_alloc | apply Kd.N_drewN | apply Kd.N_drew)); exact HO441.out) gb442 (Nat.le_of_eq hg.symm)) hb); have n2_ := Aside0.mk (below_step (by repeat (first | (with_reducible first | exact HB.out | apply below_alloc | apply pw_below_drewN | apply below_drew1) | exact HB.out)) hb); have n3_ := Aside0.mk (hbox); have n4_ := Aside0.mk ((by rw [hg]; exact (below_size (by repeat (first | (with_reducible first | exact HB.out | apply below_alloc | apply pw_below_drewN | apply below_drew1) | exact HB.out))) : w.heap.size ≤ gb442)); have n5_ := Aside0.mk ((by rw [hg]; exact (below_size (by repeat (first | (with_reducible first | exact HB.out | apply below_alloc | apply pw_below_drewN | apply below_drew1) | exact HB.out))) : w.heap.size ≤ gb442)); clear HO438; clear HO441; clear HB; have HO438 := n0_; have HO441 := n1_; have HB := n2_; have BK442 := n3_; have GW442 := n4_; have GE442 := n5_; clear n0_ n1_ n2_ n3_ n4_ n5_; clear hb hbox hg; obtain ⟨Ao10, co10, eo10⟩ := Kd.R_slice HO438.out; subst eo10; have hcz11_0 : w9.cell? ⟨gb442, 0, none⟩ = some (.slice none 0 0) := (blk_cell BK442.out 0).trans rfl; have hcz11_1 : w9.cell? ⟨gb442, 1, none⟩ = some (.slice none 0 0) := (blk_cell BK442.out 1).trans rfl; have hfz11_0 := blk_frozen BK442.out 0; have hfz11_1 := blk_frozen BK442.out 1; obtain ⟨Ao12, co12, eo12⟩ := Kd.N_slice HO441.out; subst eo12) | (go_at_call 20; (with_reducible refine (impl_ChancesClasses.calls k _ _ t436 _ _ t439 t443 _ ?side1 ?side2 ?side3 ?side4 A4.out).mono ?_); (case side1 => refine (Kd.R_reads' (e := 3) (base := w.heap.size) (ok := fun k_ => True) (n := t436.length) (c := co10) ?_).2.2; exact (by (with_reducible repeat (first | apply Kd.R_alloc | apply Kd.R_drewN | apply Kd.R_drew)); exact (Kd.R_mono (Kd.R_far (p := ⟨gb442, 1, none⟩) (Kd.R_far (p := ⟨gb442, 0, none⟩) (Kd.R_types HO438.out BK442.out (by decide)) (fun _ hk => hk.2) (.slice Ao10 t436.length co10)) (fun _ hk => hk.2) (.slice Ao12 t439.length co12)) (fun _ h_ => h_.1)))); (case side2 => exact (Kd.R_reads' HO438.out).2.1); (case side3 => refine (Kd.N_reads' (e := 22) (base := w.heap.size) (ok := fun k_ => (some k_ ≠ (.slice Ao10 t436.length co10 : Value).ownBlock ∧ k_ ≠ gb442)) (n := t439.length) (c := co12) ?_).2.2; exact (by (with_reducible repeat (first | apply Kd.N_alloc | apply Kd.N_drewN | apply Kd.N_drew)); exact (Kd.N_mono (Kd.N_far (p := ⟨gb442, 1, none⟩) (Kd.N_far (p := ⟨gb442, 0, none⟩) (Kd.N_mono HO441.out (fun k_ hk => (⟨hk, hk.2⟩ : _ ∧ k_ ≠ gb442))) (fun _ hk => hk.2) (.slice Ao10 t436.length co10)) (fun _ hk => hk.2) (.slice Ao12 t439.length co12)) (fun _ h_ => h_.1)))); (case side4 => exact (Kd.N_reads' HO441.out).2.1); rintro e w13 ⟨v444, rfl, ho0, hb⟩; have n0_ := Aside0.mk (Kd.R_elder' (by (with_reducible repeat (first | apply Kd.R_alloc | apply Kd.R_drewN | apply Kd.R_drew)); exact (Kd.R_mono (Kd.R_far (p := ⟨gb442, 1, none⟩) (Kd.R_far (p := ⟨gb442, 0, none⟩) (Kd.R_types HO438.out BK442.out (by decide)) (fun _ hk => hk.2) (.slice Ao10 t436.length co10)) (fun _ hk => hk.2) (.slice Ao12 t439.length co12)) (fun _ h_ => h_.1))) (Kd.R_base ho0) hb); have n1_ := Aside0.mk (Kd.N_elder' (by (with_reducible repeat (first | apply Kd.N_alloc | apply Kd.N_drewN | apply Kd.N_drew)); exact (Kd.N_mono (Kd.N_far (p := ⟨gb442, 1, none⟩) (Kd.N_far (p := ⟨gb442, 0, none⟩) (Kd.N_mono HO441.out (fun k_ hk => (⟨hk, hk.2⟩ : _ ∧ k_ ≠ gb442))) (fun _ hk => hk.2) (.slice Ao10 t436.length co10)) (fun _ hk => hk.2) (.slice Ao12 t439.length co12)) (fun _ h_ => h_.1))) (Kd.R_base ho0) hb); have n2_ := Aside0.mk (Kd.R_lower (Kd.R_new' ho0 (Kd.R_lt (by (with_reducible repeat (first | apply Kd.R_alloc | apply Kd.R_drewN | apply Kd.R_drew)); exact (Kd.R_mono (Kd.R_far (p := ⟨gb442, 1, none⟩) (Kd.R_far (p := ⟨gb442, 0, none⟩) (Kd.R_types HO438.out BK442.out (by decide)) (fun _ hk => hk.2) (.slice Ao10 t436.length co10)) (fun _ hk => hk.2) (.slice Ao12 t439.length co12)) (fun _ h_ => h_.1))))) (below_size (by repeat (first | (with_reducible first | exact HB.out | apply below_alloc | apply pw_below_drewN | apply below_drew1 | refine below_set ?_ GE442.out) | exact HB.out)))); have n3_ := Aside0.mk (blk_below (g := gb442) (o := .cells #[.slice Ao10 t436.length co10, .slice Ao12 t439.length co12] 28 (0, 0)) (by (with_reducible repeat (first | refine blk_drewN ?_ _ | refine blk_drew ?_ | refine blk_alloc ?_ _)); refine blk_put (cs := #[.slice Ao10 t436.length co10, .slice none 0 0]) ?_ 1 _ rfl; (with_reducible repeat (first | refine blk_drewN ?_ _ | refine blk_drew ?_ | refine blk_alloc ?_ _)); refine blk_put (cs := #[.slice none 0 0, .slice none 0 0]) ?_ 0 _ rfl; (with_reducible repeat (first | refine blk_drewN ?_ _ | refine blk_drew ?_ | refine blk_alloc ?_ _)); exact BK442.out) hb); have n4_ := Aside0.mk (below_step (by repeat (first | (with_reducible first | exact HB.out | apply below_alloc | apply pw_below_drewN | apply below_drew1 | refine below_set ?_ GE442.out) | exact HB.out)) hb); clear HO438; clear HO441; clear BK442; clear HB; have HO438 := n0_; have HO441 := n1_; have HO445 := n2_; have BK442 := n3_; have HB := n4_; clear n0_ n1_ n2_ n3_ n4_; (try clear hb); (try clear hb2); (try clear hk); (try clear hi); (try clear ho0); have hcz14_0 : w13.cell? ⟨gb442, 0, none⟩ = some (.slice Ao10 t436.length co10) := (blk_cell BK442.out 0).trans rfl; have hcz14_1 : w13.cell? ⟨gb442, 1, none⟩ = some (.slice Ao12 t439.length co12) := (blk_cell BK442.out 1).trans rfl; have hfz14_0 := blk_frozen BK442.out 0; have hfz14_1 := blk_frozen BK442.out 1) | (go_at_call 30; (with_reducible refine (spec_ChancesClasses.calls k _ _ t436 _ _ t439 t446 _ ?side1 ?side2 ?side3 ?side4 A5.out).mono ?_); (case side1 => repeat (first | exact (Kd.R_reads' HO438.out).2.2 | (with_reducible refine Kd.C_alloc ?_ _) | (with_reducible refine Kd.C_drewN ?_ _) | (with_reducible refine Kd.C_drew ?_))); (case side2 => exact (Kd.R_reads' HO438.out).2.1); (case side3 => repeat (first | exact (Kd.N_reads' HO441.out).2.2 | (with_reducible refine Kd.C_alloc ?_ _) | (with_reducible refine Kd.C_drewN ?_ _) | (with_reducible refine Kd.C_drew ?_))); (case side4 => exact (Kd.N_reads' HO441.out).2.1); rintro e w15 ⟨v447, rfl, ho0, hb⟩; have n0_ := Aside0.mk (Kd.R_elder' (by (with_reducible repeat (first | apply Kd.R_alloc | apply Kd.R_drewN | apply Kd.R_drew)); exact HO438.out) (Kd.R_base ho0) hb); have n1_ := Aside0.mk (Kd.N_elder' (by (with_reducible repeat (first | apply Kd.N_alloc | apply Kd.N_drewN | apply Kd.N_drew)); exact HO441.out) (Kd.R_base ho0) hb); have n2_ := Aside0.mk (Kd.R_elder' (by (with_reducible repeat (first | apply Kd.R_alloc | apply Kd.R_drewN | apply Kd.R_drew)); exact HO445.out) (Kd.R_base ho0) hb); have n3_ := Aside0.mk (Kd.R_lower (Kd.R_new' (Kd.R_new' ho0 (Kd.R_lt (by (with_reducible repeat (first | apply Kd.R_alloc | apply Kd.R_drewN | apply Kd.R_drew)); exact HO438.out))) (Kd.R_lt (by (with_reducible repeat (first | apply Kd.R_alloc | apply Kd.R_drewN | apply Kd.R_drew)); exact HO445.out))) (below_size (by repeat (first | (with_reducible first | exact HB.out | apply below_alloc | apply pw_below_drewN | apply below_drew1 | refine below_set ?_ GE442.out) | exact HB.out)))); have n4_ := Aside0.mk (blk_below (g := gb442) (o := .cells #[.slice Ao10 t436.length co10, .slice Ao12 t439.length co12] 28 (0, 0)) (by (with_reducible repeat (first | refine blk_drewN ?_ _ | refine blk_drew ?_ | refine blk_alloc ?_ _)); exact BK442.out) hb); have n5_ := Aside0.mk (below_step (by repeat (first | (with_reducible first | exact HB.out | apply below_alloc | apply pw_below_drewN | apply below_drew1 | refine below_set ?_ GE442.out) | exact HB.out)) hb); clear HO438; clear HO441; clear HO445; clear BK442; clear HB; have HO438 := n0_; have HO441 := n1_; have HO445 := n2_; have HO448 := n3_; have BK442 := n4_; have HB := n5_; clear n0_ n1_ n2_ n3_ n4_ n5_; (try clear hb); (try clear hb2); (try clear hk); (try clear hi); (try clear ho0); obtain ⟨Ao16, co16, eo16⟩ := Kd.R_slice HO445.out; subst eo16; obtain ⟨Ao17, co17, eo17⟩ := Kd.R_slice HO448.out; subst eo17) | (go_at_call 24; (with_reducible refine (laws_mnInts.calls k _ _ t443 _ _ t446 true _ ?side1 ?side2 ?side3 ?side4 A6.out).mono ?_); (case side1 => repeat (first | exact (Kd.R_reads' HO445.out).2.2 | (with_reducible refine Kd.C_alloc ?_ _) | (with_reducible refine Kd.C_drewN ?_ _) | (with_reducible refine Kd.C_drew ?_))); (case side2 => exact (Kd.R_reads' HO445.out).2.1); (case side3 => repeat (first | exact (Kd.R_reads' HO448.out).2.2 | (with_reducible refine Kd.C_alloc ?_ _) | (with_reducible refine Kd.C_drewN ?_ _) | (with_reducible refine Kd.C_drew ?_))); (case side4 => exact (Kd.R_reads' HO448.out).2.1); rintro e w' ⟨rfl, ⟨nd, rfl⟩⟩; (try first | exact ⟨rfl, _, World.drewN_drewN _ _ _⟩ | exact ⟨rfl, _, Eq.trans (World.drewN_drewN _ _ _) (congrArg (World.drewN _) (Nat.add_assoc _ _ _))⟩)))
   repeat (go_quiet (first | (go_at_call 29; (with_reducible refine (spec_DrawChancesClasses.calls k _ _ l0 t436 t439 _ ?side1 ?side2 A3.out).mono ?_); (case side1 => repeat (first | exact HR0.out | (with_reducible refine Kd.C_alloc ?_ _) | (with_reducible refine Kd.C_drewN ?_ _) | (with_reducible refine Kd.C_drew ?_))); (case side2 => exact HC0.out); rintro e w8 ⟨v437, v440, rfl, ho0, ho1, hb⟩; have n0_ := Aside0.mk (Kd.R_lower (Kd.R_mono (ok' := fun k_ => True) ho0 (fun _ hk_ => trivial)) (below_size (by repeat (first | (with_reducible first | exact HB.out | apply below_alloc | apply pw_below_drewN | apply below_drew1) | exact HB.out)))); have n1_ := Aside0.mk (Kd.N_lower (Kd.N_mono (ok' := fun k_ => some k_ ≠ (v437 : Value).ownBlock) ho1 (fun k_ hk_ => hk_.2)) (below_size (by repeat (first | (with_reducible first | exact HB.out | apply below_alloc | apply pw_below_drewN | apply below_drew1) | exact HB.out)))); have n2_ := Aside0.mk (below_step (by repeat (first | (with_reducible first | exact HB.out | apply below_alloc | apply pw_below_drewN | apply below_drew1) | exact HB.out)) hb); clear HB; have HO438 := n0_; have HO441 := n1_; have HB := n2_; clear n0_ n1_ n2_; (try clear hb); (try clear hb2); (try clear hk); (try clear hi); (try clear ho0); (try clear ho1)) | ((with_reducible refine gate_dst (N := 3) rfl ?_); refine box_event ?hg (N := 3) ?hd (cs := #[.slice none 0 0, .slice none 0 0]) (t := 28) ?hr ?_; (case hd => rfl); (case hg => rfl); (case hr => first | (go_simp; done) | (go_simp; rfl)); intro gb442 hg w9 hbox hb; have n0_ := Aside0.mk (Kd.R_below (by (with_reducible repeat (first | apply Kd.R_alloc | apply Kd.R_drewN | apply Kd.R_drew)); exact HO438.out) hb); have n1_ := Aside0.mk (Kd.N_below (Kd.N_elderB (by (with_reducible repeat (first | apply Kd.N_alloc | apply Kd.N_drewN | apply Kd.N_drew)); exact HO441.out) gb442 (Nat.le_of_eq hg.symm)) hb); have n2_ := Aside0.mk (below_step (by repeat (first | (with_reducible first | exact HB.out | apply below_alloc | apply pw_below_drewN | apply below_drew1) | exact HB.out)) hb); have n3_ := Aside0.mk (hbox); have n4_ := Aside0.mk ((by rw [hg]; exact (below_size (by repeat (first | (with_reducible first | exact HB.out | apply below_alloc | apply pw_below_drewN | apply below_drew1) | exact HB.out))) : w.heap.size ≤ gb442)); have n5_ := Aside0.mk ((by rw [hg]; exact (below_size (by repeat (first | (with_reducible first | exact HB.out | apply below_alloc | apply pw_below_drewN | apply below_drew1) | exact HB.out))) : w.heap.size ≤ gb442)); clear HO438; clear HO441; clear HB; have HO438 := n0_; have HO441 := n1_; have HB := n2_; have BK442 := n3_; have GW442 := n4_; have GE442 := n5_; clear n0_ n1_ n2_ n3_ n4_ n5_; clear hb hbox hg; obtain ⟨Ao10, co10, eo10⟩ := Kd.R_slice HO438.out; subst eo10; have hcz11_0 : w9.cell? ⟨gb442, 0, none⟩ = some (.slice none 0 0) := (blk_cell BK442.out 0).trans rfl; have hcz11_1 : w9.cell? ⟨gb442, 1, none⟩ = some (.slice none 0 0) := (blk_cell BK442.out 1).trans rfl; have hfz11_0 := blk_frozen BK442.out 0; have hfz11_1 := blk_frozen BK442.out 1; obtain ⟨Ao12, co12, eo12⟩ := Kd.N_slice HO441.out; subst eo12) | (go_at_call 20; (with_reducible refine (impl_ChancesClasses.calls k _ _ t436 _ _ t439 t443 _ ?side1 ?side2 ?side3 ?side4 A4.out).mono ?_); (case side1 => refine (Kd.R_reads' (e := 3) (base := w.heap.size) (ok := fun k_ => True) (n := t436.length) (c := co10) ?_).2.2; exact (by (with_reducible repeat (first | apply Kd.R_alloc | apply Kd.R_drewN | apply Kd.R_drew)); exact (Kd.R_mono (Kd.R_far (p := ⟨gb442, 1, none⟩) (Kd.R_far (p := ⟨gb442, 0, none⟩) (Kd.R_types HO438.out BK442.out (by decide)) (fun _ hk => hk.2) (.slice Ao10 t436.length co10)) (fun _ hk => hk.2) (.slice Ao12 t439.length co12)) (fun _ h_ => h_.1)))); (case side2 => exact (Kd.R_reads' HO438.out).2.1); (case side3 => refine (Kd.N_reads' (e := 22) (base := w.heap.size) (ok := fun k_ => (some k_ ≠ (.slice Ao10 t436.length co10 : Value).ownBlock ∧ k_ ≠ gb442)) (n := t439.length) (c := co12) ?_).2.2; exact (by (with_reducible repeat (first | apply Kd.N_alloc | apply Kd.N_drewN | apply Kd.N_drew)); exact (Kd.N_mono (Kd.N_far (p := ⟨gb442, 1, none⟩) (Kd.N_far (p := ⟨gb442, 0, none⟩) (Kd.N_mono HO441.out (fun k_ hk => (⟨hk, hk.2⟩ : _ ∧ k_ ≠ gb442))) (fun _ hk => hk.2) (.slice Ao10 t436.length co10)) (fun _ hk => hk.2) (.slice Ao12 t439.length co12)) (fun _ h_ => h_.1)))); (case side4 => exact (Kd.N_reads' HO441.out).2.1); rintro e w13 ⟨v444, rfl, ho0, hb⟩; have n0_ := Aside0.mk (Kd.R_elder' (by (with_reducible repeat (first | apply Kd.R_alloc | apply Kd.R_drewN | apply Kd.R_drew)); exact (Kd.R_mono (Kd.R_far (p := ⟨gb442, 1, none⟩) (Kd.R_far (p := ⟨gb442, 0, none⟩) (Kd.R_types HO438.out BK442.out (by decide)) (fun _ hk => hk.2) (.slice Ao10 t436.length co10)) (fun _ hk => hk.2) (.slice Ao12 t439.length co12)) (fun _ h_ => h_.1))) (Kd.R_base ho0) hb); have n1_ := Aside0.mk (Kd.N_elder' (by (with_reducible repeat (first | apply Kd.N_alloc | apply Kd.N_drewN | apply Kd.N_drew)); exact (Kd.N_mono (Kd.N_far (p := ⟨gb442, 1, none⟩) (Kd.N_far (p := ⟨gb442, 0, none⟩) (Kd.N_mono HO441.out (fun k_ hk => (⟨hk, hk.2⟩ : _ ∧ k_ ≠ gb442))) (fun _ hk => hk.2) (.slice Ao10 t436.length co10)) (fun _ hk => hk.2) (.slice Ao12 t439.length co12)) (fun _ h_ => h_.1))) (Kd.R_base ho0) hb); have n2_ := Aside0.mk (Kd.R_lower (Kd.R_new' ho0 (Kd.R_lt (by (with_reducible repeat (first | apply Kd.R_alloc | apply Kd.R_drewN | apply Kd.R_drew)); exact (Kd.R_mono (Kd.R_far (p := ⟨gb442, 1, none⟩) (Kd.R_far (p := ⟨gb442, 0, none⟩) (Kd.R_types HO438.out BK442.out (by decide)) (fun _ hk => hk.2) (.slice Ao10 t436.length co10)) (fun _ hk => hk.2) (.slice Ao12 t439.length co12)) (fun _ h_ => h_.1))))) (below_size (by repeat (first | (with_reducible first | exact HB.out | apply below_alloc | apply pw_below_drewN | apply below_drew1 | refine below_set ?_ GE442.out) | exact HB.out)))); have n3_ := Aside0.mk (blk_below (g := gb442) (o := .cells #[.slice Ao10 t436.length co10, .slice Ao12 t439.length co12] 28 (0, 0)) (by (with_reducible repeat (first | refine blk_drewN ?_ _ | refine blk_drew ?_ | refine blk_alloc ?_ _)); refine blk_put (cs := #[.slice Ao10 t436.length co10, .slice none 0 0]) ?_ 1 _ rfl; (with_reducible repeat (first | refine blk_drewN ?_ _ | refine blk_drew ?_ | refine blk_alloc ?_ _)); refine blk_put (cs := #[.slice none 0 0, .slice none 0 0]) ?_ 0 _ rfl; (with_reducible repeat (first | refine blk_drewN ?_ _ | refine blk_drew ?_ | refine blk_alloc ?_ _)); exact BK442.out) hb); have n4_ := Aside0.mk (below_step (by repeat (first | (with_reducible first | exact HB.out | apply below_alloc | apply pw_below_drewN | apply below_drew1 | refine below_set ?_ GE442.out) | exact HB.out)) hb); clear HO438; clear HO441; clear BK442; clear HB; have HO438 := n0_; have HO441 := n1_; have HO445 := n2_; have BK442 := n3_; have HB := n4_; clear n0_ n1_ n2_ n3_ n4_; (try clear hb); (try clear hb2); (try clear hk); (try clear hi); (try clear ho0); have hcz14_0 : w13.cell? ⟨gb442, 0, none⟩ = some (.slice Ao10 t436.length co10) := (blk_cell BK442.out 0).trans rfl; have hcz14_1 : w13.cell? ⟨gb442, 1, none⟩ = some (.slice Ao12 t439.length co12) := (blk_cell BK442.out 1).trans rfl; have hfz14_0 := blk_frozen BK442.out 0; have hfz14_1 := blk_frozen BK442.out 1) | (go_at_call 30; (with_reducible refine (spec_ChancesClasses.calls k _ _ t436 _ _ t439 t446 _ ?side1 ?side2 ?side3 ?side4 A5.out).mono ?_); (case side1 => repeat (first | exact (Kd.R_reads' HO438.out).2.2 | (with_reducible refine Kd.C_alloc ?_ _) | (with_reducible refine Kd.C_drewN ?_ _) | (with_reducible refine Kd.C_drew ?_))); (case side2 => exact (Kd.R_reads' HO438.out).2.1); (case side3 => repeat (first | exact (Kd.N_reads' HO441.out).2.2 | (with_reducible refine Kd.C_alloc ?_ _) | (with_reducible refine Kd.C_drewN ?_ _) | (with_reducible refine Kd.C_drew ?_))); (case side4 => exact (Kd.N_reads' HO441.out).2.1); rintro e w15 ⟨v447, rfl, ho0, hb⟩; have n0_ := Aside0.mk (Kd.R_elder' (by (with_reducible repeat (first | apply Kd.R_alloc | apply Kd.R_drewN | apply Kd.R_drew)); exact HO438.out) (Kd.R_base ho0) hb); have n1_ := Aside0.mk (Kd.N_elder' (by (with_reducible repeat (first | apply Kd.N_alloc | apply Kd.N_drewN | apply Kd.N_drew)); exact HO441.out) (Kd.R_base ho0) hb); have n2_ := Aside0.mk (Kd.R_elder' (by (with_reducible repeat (first | apply Kd.R_alloc | apply Kd.R_drewN | apply Kd.R_drew)); exact HO445.out) (Kd.R_base ho0) hb); have n3_ := Aside0.mk (Kd.R_lower (Kd.R_new' (Kd.R_new' ho0 (Kd.R_lt (by (with_reducible repeat (first | apply Kd.R_alloc | apply Kd.R_drewN | apply Kd.R_drew)); exact HO438.out))) (Kd.R_lt (by (with_reducible repeat (first | apply Kd.R_alloc | apply Kd.R_drewN | apply Kd.R_drew)); exact HO445.out))) (below_size (by repeat (first | (with_reducible first | exact HB.out | apply below_alloc | apply pw_below_drewN | apply below_drew1 | refine below_set ?_ GE442.out) | exact HB.out)))); have n4_ := Aside0.mk (blk_below (g := gb442) (o := .cells #[.slice Ao10 t436.length co10, .slice Ao12 t439.length co12] 28 (0, 0)) (by (with_reducible repeat (first | refine blk_drewN ?_ _ | refine blk_drew ?_ | refine blk_alloc ?_ _)); exact BK442.out) hb); have n5_ := Aside0.mk (below_step (by repeat (first | (with_reducible first | exact HB.out | apply below_alloc | apply pw_below_drewN | apply below_drew1 | refine below_set ?_ GE442.out) | exact HB.out)) hb); clear HO438; clear HO441; clear HO445; clear BK442; clear HB; have HO438 := n0_; have HO441 := n1_; have HO445 := n2_; have HO448 := n3_; have BK442 := n4_; have HB := n5_; clear n0_ n1_ n2_ n3_ n4_ n5_; (try clear hb); (try clear hb2); (try clear hk); (try clear hi); (try clear ho0); obtain ⟨Ao16, co16, eo16⟩ := Kd.R_slice HO445.out; subst eo16; obtain ⟨Ao17, co17, eo17⟩ := Kd.R_slice HO448.out; subst eo17) | (go_at_call 24; (with_reducible refine (laws_mnInts.calls k _ _ t443 _ _ t446 true _ ?side1 ?side2 ?side3 ?side4 A6.out).mono ?_); (case side1 => repeat (first | exact (Kd.R_reads' HO445.out).2.2 | (with_reducible refine Kd.C_alloc ?_ _) | (with_reducible refine Kd.C_drewN ?_ _) | (with_reducible refine Kd.C_drew ?_))); (case side2 => exact (Kd.R_reads' HO445.out).2.1); (case side3 => repeat (first | exact (Kd.R_reads' HO448.out).2.2 | (with_reducible refine Kd.C_alloc ?_ _) | (with_reducible refine Kd.C_drewN ?_ _) | (with_reducible refine Kd.C_drew ?_))); (case side4 => exact (Kd.R_reads' HO448.out).2.1); rintro e w' ⟨rfl, ⟨nd, rfl⟩⟩; (try first | exact ⟨rfl, _, World.drewN_drewN _ _ _⟩ | exact ⟨rfl, _, Eq.trans (World.drewN_drewN _ _ _) (congrArg (World.drewN _) (Nat.add_assoc _ _ _))⟩))); try go_wp2_with (first | (go_at_call 29; (with_reducible refine (spec_DrawChancesClasses.calls k _ _ l0 t436 t439 _ ?side1 ?side2 A3.out).mono ?_); (case side1 => repeat (first | exact HR0.out | (with_reducible refine Kd.C_alloc ?_ _) | (with_reducible refine Kd.C_drewN ?_ _) | (with_reducible refine Kd.C_drew ?_))); (case side2 => exact HC0.out); rintro e w8 ⟨v437, v440, rfl, ho0, ho1, hb⟩; have n0_ := Aside0.mk (Kd.R_lower (Kd.R_mono (ok' := fun k_ => True) ho0 (fun _ hk_ => trivial)) (below_size (by repeat (first | (with_reducible first | exact HB.out | apply below_alloc | apply pw_below_drewN | apply below_drew1) | exact HB.out)))); have n1_ := Aside0.mk (Kd.N_lower (Kd.N_mono (ok' := fun k_ => some k_ ≠ (v437 : Value).ownBlock) ho1 (fun k_ hk_ => hk_.2)) (below_size (by repeat (first | (with_reducible first | exact HB.out | apply below_alloc | apply pw_below_drewN | apply below_drew1) | exact HB.out)))); have n2_ := Aside0.mk (below_step (by repeat (first | (with_reducible first | exact HB.out | apply below_alloc | apply pw_below_drewN | apply below_drew1) | exact HB.out)) hb); clear HB; have HO438 := n0_; have HO441 := n1_; have HB := n2_; clear n0_ n1_ n2_; (try clear hb); (try clear hb2); (try clear hk); (try clear hi); (try clear ho0); (try clear ho1)) | ((with_reducible refine gate_dst (N := 3) rfl ?_); refine box_event ?hg (N := 3) ?hd (cs := #[.slice none 0 0, .slice none 0 0]) (t := 28) ?hr ?_; (case hd => rfl); (case hg => rfl); (case hr => first | (go_simp; done) | (go_simp; rfl)); intro gb442 hg w9 hbox hb; have n0_ := Aside0.mk (Kd.R_below (by (with_reducible repeat (first | apply Kd.R_alloc | apply Kd.R_drewN | apply Kd.R_drew)); exact HO438.out) hb); have n1_ := Aside0.mk (Kd.N_below (Kd.N_elderB (by (with_reducible repeat (first | apply Kd.N_alloc | apply Kd.N_drewN | apply Kd.N_drew)); exact HO441.out) gb442 (Nat.le_of_eq hg.symm)) hb); have n2_ := Aside0.mk (below_step (by repeat (first | (with_reducible first | exact HB.out | apply below_alloc | apply pw_below_drewN | apply below_drew1) | exact HB.out)) hb); have n3_ := Aside0.mk (hbox); have n4_ := Aside0.mk ((by rw [hg]; exact (below_size (by repeat (first | (with_reducible first | exact HB.out | apply below_alloc | apply pw_below_drewN | apply below_drew1) | exact HB.out))) : w.heap.size ≤ gb442)); have n5_ := Aside0.mk ((by rw [hg]; exact (below_size (by repeat (first | (with_reducible first | exact HB.out | apply below_alloc | apply pw_below_drewN | apply below_drew1) | exact HB.out))) : w.heap.size ≤ gb442)); clear HO438; clear HO441; clear HB; have HO438 := n0_; have HO441 := n1_; have HB := n2_; have BK442 := n3_; have GW442 := n4_; have GE442 := n5_; clear n0_ n1_ n2_ n3_ n4_ n5_; clear hb hbox hg; obtain ⟨Ao10, co10, eo10⟩ := Kd.R_slice HO438.out; subst eo10; have hcz11_0 : w9.cell? ⟨gb442, 0, none⟩ = some (.slice none 0 0) := (blk_cell BK442.out 0).trans rfl; have hcz11_1 : w9.cell? ⟨gb442, 1, none⟩ = some (.slice none 0 0) := (blk_cell BK442.out 1).trans rfl; have hfz11_0 := blk_frozen BK442.out 0; have hfz11_1 := blk_frozen BK442.out 1; obtain ⟨Ao12, co12, eo12⟩ := Kd.N_slice HO441.out; subst eo12) | (go_at_call 20; (with_reducible refine (impl_ChancesClasses.calls k _ _ t436 _ _ t439 t443 _ ?side1 ?side2 ?side3 ?side4 A4.out).mono ?_); (case side1 => refine (Kd.R_reads' (e := 3) (base := w.heap.size) (ok := fun k_ => True) (n := t436.length) (c := co10) ?_).2.2; exact (by (with_reducible repeat (first | apply Kd.R_alloc | apply Kd.R_drewN | apply Kd.R_drew)); exact (Kd.R_mono (Kd.R_far (p := ⟨gb442, 1, none⟩) (Kd.R_far (p := ⟨gb442, 0, none⟩) (Kd.R_types HO438.out BK442.out (by decide)) (fun _ hk => hk.2) (.slice Ao10 t436.length co10)) (fun _ hk => hk.2) (.slice Ao12 t439.length co12)) (fun _ h_ => h_.1)))); (case side2 => exact (Kd.R_reads' HO438.out).2.1); (case side3 => refine (Kd.N_reads' (e := 22) (base := w.heap.size) (ok := fun k_ => (some k_ ≠ (.slice Ao10 t436.length co10 : Value).ownBlock ∧ k_ ≠ gb442)) (n := t439.length) (c := co12) ?_).2.2; exact (by (with_reducible repeat (first | apply Kd.N_alloc | apply Kd.N_drewN | apply Kd.N_drew)); exact (Kd.N_mono (Kd.N_far (p := ⟨gb442, 1, none⟩) (Kd.N_far (p := ⟨gb442, 0, none⟩) (Kd.N_mono HO441.out (fun k_ hk => (⟨hk, hk.2⟩ : _ ∧ k_ ≠ gb442))) (fun _ hk => hk.2) (.slice Ao10 t436.length co10)) (fun _ hk => hk.2) (.slice Ao12 t439.length co12)) (fun _ h_ => h_.1)))); (case side4 => exact (Kd.N_reads' HO441.out).2.1); rintro e w13 ⟨v444, rfl, ho0, hb⟩; have n0_ := Aside0.mk (Kd.R_elder' (by (with_reducible repeat (first | apply Kd.R_alloc | apply Kd.R_drewN | apply Kd.R_drew)); exact (Kd.R_mono (Kd.R_far (p := ⟨gb442, 1, none⟩) (Kd.R_far (p := ⟨gb442, 0, none⟩) (Kd.R_types HO438.out BK442.out (by decide)) (fun _ hk => hk.2) (.slice Ao10 t436.length co10)) (fun _ hk => hk.2) (.slice Ao12 t439.length co12)) (fun _ h_ => h_.1))) (Kd.R_base ho0) hb); have n1_ := Aside0.mk (Kd.N_elder' (by (with_reducible repeat (first | apply Kd.N_alloc | apply Kd.N_drewN | apply Kd.N_drew)); exact (Kd.N_mono (Kd.N_far (p := ⟨gb442, 1, none⟩) (Kd.N_far (p := ⟨gb442, 0, none⟩) (Kd.N_mono HO441.out (fun k_ hk => (⟨hk, hk.2⟩ : _ ∧ k_ ≠ gb442))) (fun _ hk => hk.2) (.slice Ao10 t436.length co10)) (fun _ hk => hk.2) (.slice Ao12 t439.length co12)) (fun _ h_ => h_.1))) (Kd.R_base ho0) hb); have n2_ := Aside0.mk (Kd.R_lower (Kd.R_new' ho0 (Kd.R_lt (by (with_reducible repeat (first | apply Kd.R_alloc | apply Kd.R_drewN | apply Kd.R_drew)); exact (Kd.R_mono (Kd.R_far (p := ⟨gb442, 1, none⟩) (Kd.R_far (p := ⟨gb442, 0, none⟩) (Kd.R_types HO438.out BK442.out (by decide)) (fun _ hk => hk.2) (.slice Ao10 t436.length co10)) (fun _ hk => hk.2) (.slice Ao12 t439.length co12)) (fun _ h_ => h_.1))))) (below_size (by repeat (first | (with_reducible first | exact HB.out | apply below_alloc | apply pw_below_drewN | apply below_drew1 | refine below_set ?_ GE442.out) | exact HB.out)))); have n3_ := Aside0.mk (blk_below (g := gb442) (o := .cells #[.slice Ao10 t436.length co10, .slice Ao12 t439.length co12] 28 (0, 0)) (by (with_reducible repeat (first | refine blk_drewN ?_ _ | refine blk_drew ?_ | refine blk_alloc ?_ _)); refine blk_put (cs := #[.slice Ao10 t436.length co10, .slice none 0 0]) ?_ 1 _ rfl; (with_reducible repeat (first | refine blk_drewN ?_ _ | refine blk_drew ?_ | refine blk_alloc ?_ _)); refine blk_put (cs := #[.slice none 0 0, .slice none 0 0]) ?_ 0 _ rfl; (with_reducible repeat (first | refine blk_drewN ?_ _ | refine blk_drew ?_ | refine blk_alloc ?_ _)); exact BK442.out) hb); have n4_ := Aside0.mk (below_step (by repeat (first | (with_reducible first | exact HB.out | apply below_alloc | apply pw_below_drewN | apply below_drew1 | refine below_set ?_ GE442.out) | exact HB.out)) hb); clear HO438; clear HO441; clear BK442; clear HB; have HO438 := n0_; have HO441 := n1_; have HO445 := n2_; have BK442 := n3_; have HB := n4_; clear n0_ n1_ n2_ n3_ n4_; (try clear hb); (try clear hb2); (try clear hk); (try clear hi); (try clear ho0); have hcz14_0 : w13.cell? ⟨gb442, 0, none⟩ = some (.slice Ao10 t436.length co10) := (blk_cell BK442.out 0).trans rfl; have hcz14_1 : w13.cell? ⟨gb442, 1, none⟩ = some (.slice Ao12 t439.length co12) := (blk_cell BK442.out 1).trans rfl; have hfz14_0 := blk_frozen BK442.out 0; have hfz14_1 := blk_frozen BK442.out 1) | (go_at_call 30; (with_reducible refine (spec_ChancesClasses.calls k _ _ t436 _ _ t439 t446 _ ?side1 ?side2 ?side3 ?side4 A5.out).mono ?_); (case side1 => repeat (first | exact (Kd.R_reads' HO438.out).2.2 | (with_reducible refine Kd.C_alloc ?_ _) | (with_reducible refine Kd.C_drewN ?_ _) | (with_reducible refine Kd.C_drew ?_))); (case side2 => exact (Kd.R_reads' HO438.out).2.1); (case side3 => repeat (first | exact (Kd.N_reads' HO441.out).2.2 | (with_reducible refine Kd.C_alloc ?_ _) | (with_reducible refine Kd.C_drewN ?_ _) | (with_reducible refine Kd.C_drew ?_))); (case side4 => exact (Kd.N_reads' HO441.out).2.1); rintro e w15 ⟨v447, rfl, ho0, hb⟩; have n0_ := Aside0.mk (Kd.R_elder' (by (with_reducible repeat (first | apply Kd.R_alloc | apply Kd.R_drewN | apply Kd.R_drew)); exact HO438.out) (Kd.R_base ho0) hb); have n1_ := Aside0.mk (Kd.N_elder' (by (with_reducible repeat (first | apply Kd.N_alloc | apply Kd.N_drewN | apply Kd.N_drew)); exact HO441.out) (Kd.R_base ho0) hb); have n2_ := Aside0.mk (Kd.R_elder' (by (with_reducible repeat (first | apply Kd.R_alloc | apply Kd.R_drewN | apply Kd.R_drew)); exact HO445.out) (Kd.R_base ho0) hb); have n3_ := Aside0.mk (Kd.R_lower (Kd.R_new' (Kd.R_new' ho0 (Kd.R_lt (by (with_reducible repeat (first | apply Kd.R_alloc | apply Kd.R_drewN | apply Kd.R_drew)); exact HO438.out))) (Kd.R_lt (by (with_reducible repeat (first | apply Kd.R_alloc | apply Kd.R_drewN | apply Kd.R_drew)); exact HO445.out))) (below_size (by repeat (first | (with_reducible first | exact HB.out | apply below_alloc | apply pw_below_drewN | apply below_drew1 | refine below_set ?_ GE442.out) | exact HB.out)))); have n4_ := Aside0.mk (blk_below (g := gb442) (o := .cells #[.slice Ao10 t436.length co10, .slice Ao12 t439.length co12] 28 (0, 0)) (by (with_reducible repeat (first | refine blk_drewN ?_ _ | refine blk_drew ?_ | refine blk_alloc ?_ _)); exact BK442.out) hb); have n5_ := Aside0.mk (below_step (by repeat (first | (with_reducible first | exact HB.out | apply below_alloc | apply pw_below_drewN | apply below_drew1 | refine below_set ?_ GE442.out) | exact HB.out)) hb); clear HO438; clear HO441; clear HO445; clear BK442; clear HB; have HO438 := n0_; have HO441 := n1_; have HO445 := n2_; have HO448 := n3_; have BK442 := n4_; have HB := n5_; clear n0_ n1_ n2_ n3_ n4_ n5_; (try clear hb); (try clear hb2); (try clear hk); (try clear hi); (try clear ho0); obtain ⟨Ao16, co16, eo16⟩ := Kd.R_slice HO445.out; subst eo16; obtain ⟨Ao17, co17, eo17⟩ := Kd.R_slice HO448.out; subst eo17) | (go_at_call 24; (with_reducible refine (laws_mnInts.calls k _ _ t443 _ _ t446 true _ ?side1 ?side2 ?side3 ?side4 A6.out).mono ?_); (case side1 => repeat (first | exact (Kd.R_reads' HO445.out).2.2 | (with_reducible refine Kd.C_alloc ?_ _) | (with_reducible refine Kd.C_drewN ?_ _) | (with_reducible refine Kd.C_drew ?_))); (case side2 => exact (Kd.R_reads' HO445.out).2.1); (case side3 => repeat (first | exact (Kd.R_reads' HO448.out).2.2 | (with_reducible refine Kd.C_alloc ?_ _) | (with_reducible refine Kd.C_drewN ?_ _) | (with_reducible refine Kd.C_drew ?_))); (case side4 => exact (Kd.R_reads' HO448.out).2.1); rintro e w' ⟨rfl, ⟨nd, rfl⟩⟩; (try first | exact ⟨rfl, _, World.drewN_drewN _ _ _⟩ | exact ⟨rfl, _, Eq.trans (World.drewN_drewN _ _ _) (congrArg (World.drewN _) (Nat.add_assoc _ _ _))⟩))))
   go_loopg [6] k (fun kq v6 w' => ∃ (x6_1 : Int), v6 = .int .i64 x6_1 ∧ Aside0 (laws_FnChancesClasses.l0 kq t443 x6_1 t436 t439 = some r) ∧ Aside0 (kq ≤ k) ∧ Aside0 (Kd.R (Kd.int .i64) 3 w' w.heap.size (fun k_ => some k_ ≠ ((.slice Ao10 t436.length co10) : Value).ownBlock) (.slice Ao16 t443.length co16) t443) ∧ Aside0 (Kd.R (Kd.int .i64) 3 w' w.heap.size (fun k_ => some k_ ≠ ((.slice Ao16 t443.length co16) : Value).ownBlock) (.slice Ao10 t436.length co10) t436) ∧ Aside0 (Kd.N (Kd.slice 3 (Kd.int .i64)) 22 w' w.heap.size (fun k_ => some k_ ≠ ((.slice Ao16 t443.length co16) : Value).ownBlock ∧ some k_ ≠ ((.slice Ao10 t436.length co10) : Value).ownBlock ∧ k_ ≠ gb442) (.slice Ao12 t439.length co12) t439) ∧ Aside0 (w'.heap[gb442]? = some (.cells #[(.slice Ao10 t436.length co10), (.slice Ao12 t439.length co12)] 28 (0, 0))) ∧ Aside0 (Below w.heap.size w w'))
   case atStart => exact ⟨(0), (by first | rfl | (simp; done) | (simp [*]; done)), H', ⟨Nat.le_refl _⟩, ⟨by (with_reducible repeat (first | apply Kd.R_alloc | apply Kd.R_drewN | apply Kd.R_drew)); exact Kd.R_mono HO445.out (fun _ hk => hk.1.2)⟩, ⟨by (with_reducible repeat (first | apply Kd.R_alloc | apply Kd.R_drewN | apply Kd.R_drew)); exact Kd.R_mono HO438.out (fun _ hk => hk.1.2)⟩, ⟨by (with_reducible repeat (first | apply Kd.N_alloc | apply Kd.N_drewN | apply Kd.N_drew)); exact Kd.N_mono HO441.out (fun _ hk => ⟨hk.1.2, ⟨hk.1.1.1, hk.1.1.2⟩⟩)⟩, ⟨by (with_reducible repeat (first | refine blk_drewN ?_ _ | refine blk_drew ?_ | refine blk_alloc ?_ _)); exact BK442.out⟩, ⟨by repeat (first | (with_reducible first | exact HB.out | apply below_alloc | apply pw_below_drewN | apply below_drew1 | refine below_set ?_ GE442.out) | exact HB.out)⟩⟩
   case round =>
    clear H'
    try clear c2
    try clear c2b0
    try clear c2b1
    try clear p2
    try clear c7
    try clear hcz11_0
    try clear hcz11_1
    try clear hcz14_0
    try clear hcz14_1
    try clear hfz11_0
    try clear hfz11_1
    try clear hfz14_0
    try clear hfz14_1
    obtain ⟨x6_1, rfl, HA, HK1, HO_4, HO_443000, HO_443001, BK442, HB⟩ := hrel
    cases gk with
    | zero => exact absurd HA.out (by simp [laws_FnChancesClasses.l0])
    | succ k1 =>
     have H := HA.out
     clear HA
     simp only [laws_FnChancesClasses.l0] at H
     by_cases c18 : x6_1 < (t443.length : Int)
     ·rw [if_pos c18] at H
      have c18b0 : decide (x6_1 < (t443.length : Int)) = true := decide_eq_true c18
      clear c18
      by_cases c19 : 0 ≤ x6_1
      ·rw [if_pos c19] at H
       have c19b0 : decide (0 ≤ x6_1) = true := decide_eq_true c19
       clear c19
       have HC20 := Aside0.mk H
       clear H
       have p450 : 0 ≤ (x6_1 : Int) := of_decide_eq_true (by first | (with_reducible assumption) | assumption)
       have q450 : x6_1 < (t443.length : Int) := of_decide_eq_true (by first | (with_reducible assumption) | assumption)
       obtain ⟨ad450, e450, hx450_0⟩ := Kd.at_int (Kd.R_reads' HO_4.out).2.2 x6_1 p450 q450
       cases e450
       replace p450 := eq_true p450
       replace q450 := eq_true q450
       go_upto_region 12 with (fail)
       repeat (go_quiet (fail); go_upto_region 12 with (fail))
       go_cut [58] (fun v58 wc => ∃ (kq : Nat) (x58_19 : Bool), v58 = .bool x58_19 ∧ Aside0 (laws_FnChancesClasses.j1 kq t443 x6_1 (rd t443 x6_1) x58_19 t436 t439 = some r) ∧ Aside0 (kq ≤ k1) ∧ Aside0 (Kd.R (Kd.int .i64) 3 wc w.heap.size (fun k_ => some k_ ≠ ((.slice Ao10 t436.length co10) : Value).ownBlock) (.slice (some ad450) t443.length co16) t443) ∧ Aside0 (Kd.R (Kd.int .i64) 3 wc w.heap.size (fun k_ => some k_ ≠ ((.slice (some ad450) t443.length co16) : Value).ownBlock) (.slice Ao10 t436.length co10) t436) ∧ Aside0 (Kd.N (Kd.slice 3 (Kd.int .i64)) 22 wc w.heap.size (fun k_ => some k_ ≠ ((.slice (some ad450) t443.length co16) : Value).ownBlock ∧ some k_ ≠ ((.slice Ao10 t436.length co10) : Value).ownBlock ∧ k_ ≠ gb442) (.slice Ao12 t439.length co12) t439) ∧ Aside0 (wc.heap[gb442]? = some (.cells #[(.slice Ao10 t436.length co10), (.slice Ao12 t439.length co12)] 28 (0, 0))) ∧ Aside0 (Below w.heap.size w wc))
       case first =>
        have H := HC20.out
        clear HC20
        by_cases c21 : x6_1 < (t436.length : Int)
        ·rw [if_pos c21] at H
         have c21b0 : decide (x6_1 < (t436.length : Int)) = true := decide_eq_true c21
         clear c21
         (first | rw [c21b0] | (simp only [i64_w, i32_w]; rw [c21b0]) | skip)
         by_cases c22 : 0 ≤ (rd t443 x6_1)
         ·rw [if_pos c22] at H
          have c22b0 : decide (0 ≤ (rd t443 x6_1)) = true := decide_eq_true c22
          clear c22
          by_cases c23 : (rd t443 x6_1) < (t436.length : Int)
          ·rw [if_pos c23] at H
           have c23b0 : decide ((rd t443 x6_1) < (t436.length : Int)) = true := decide_eq_true c23
           clear c23
           by_cases c24 : (rd t436 x6_1) = (rd t436 (rd t443 x6_1))
           ·rw [if_pos c24] at H
            have c24b0 : ((rd t436 x6_1) == (rd t436 (rd t443 x6_1))) = true := beq_iff_eq.mpr c24
            have c24b1 : ((rd t436 x6_1) != (rd t436 (rd t443 x6_1))) = false := bne_eq_false_iff_eq.mpr c24
            clear c24
            by_cases c25 : (rd t443 x6_1) < (t443.length : Int)
            ·rw [if_pos c25] at H
             have c25b0 : decide ((rd t443 x6_1) < (t443.length : Int)) = true := decide_eq_true c25
             clear c25
             by_cases c26 : (rd t443 (rd t443 x6_1)) = (rd t443 x6_1)
             ·rw [if_pos c26] at H
              have c26b0 : ((rd t443 (rd t443 x6_1)) == (rd t443 x6_1)) = true := beq_iff_eq.mpr c26
              have c26b1 : ((rd t443 (rd t443 x6_1)) != (rd t443 x6_1)) = false := bne_eq_false_iff_eq.mpr c26
              clear c26
              have H' := Aside0.mk H
              clear H
              have hcz27_0 : wr.cell? ⟨gb442, 0, none⟩ = some (.slice Ao10 t436.length co10) := (blk_cell BK442.out 0).trans rfl
              have hcz27_1 : wr.cell? ⟨gb442, 1, none⟩ = some (.slice Ao12 t439.length co12) := (blk_cell BK442.out 1).trans rfl
              have hfz27_0 := blk_frozen BK442.out 0
              have hfz27_1 := blk_frozen BK442.out 1
              have p451 : 0 ≤ (x6_1 : Int) := of_decide_eq_true (by first | (with_reducible assumption) | assumption)
              have q451 : x6_1 < (t436.length : Int) := of_decide_eq_true (by first | (with_reducible assumption) | assumption)
              obtain ⟨ad451, e451, hx451_0⟩ := Kd.at_int (Kd.R_reads' HO_443000.out).2.2 x6_1 p451 q451
              cases e451
              replace p451 := eq_true p451
              replace q451 := eq_true q451
              have p452 : 0 ≤ ((rd t443 x6_1) : Int) := of_decide_eq_true (by first | (with_reducible assumption) | assumption)
              have q452 : (rd t443 x6_1) < (t436.length : Int) := of_decide_eq_true (by first | (with_reducible assumption) | assumption)
              obtain ⟨ad452, e452, hx452_0⟩ := Kd.at_int (Kd.R_reads' HO_443000.out).2.2 (rd t443 x6_1) p452 q452
              obtain rfl : ad451 = ad452 := (by injection e452)
              replace p452 := eq_true p452
              replace q452 := eq_true q452
              have p453 : 0 ≤ ((rd t443 x6_1) : Int) := of_decide_eq_true (by first | (with_reducible assumption) | assumption)
              have q453 : (rd t443 x6_1) < (t443.length : Int) := of_decide_eq_true (by first | (with_reducible assumption) | assumption)
              obtain ⟨ad453, e453, hx453_0⟩ := Kd.at_int (Kd.R_reads' HO_4.out).2.2 (rd t443 x6_1) p453 q453
              obtain rfl : ad450 = ad453 := (by injection e453)
              replace p453 := eq_true p453
              replace q453 := eq_true q453
              go_wp2
              repeat (go_quiet (fail); try go_wp2)
              go_meet
              case rel => exact ⟨_, (decide ((rd t443 x6_1) > x6_1)), (by first | rfl | (simp; done) | (simp [*]; done)), H', ⟨by have := HK1.out; first | omega | exact Nat.le_refl _⟩, ⟨by (with_reducible repeat (first | apply Kd.R_alloc | apply Kd.R_drewN | apply Kd.R_drew)); exact HO_4.out⟩, ⟨by (with_reducible repeat (first | apply Kd.R_alloc | apply Kd.R_drewN | apply Kd.R_drew)); exact HO_443000.out⟩, ⟨by (with_reducible repeat (first | apply Kd.N_alloc | apply Kd.N_drewN | apply Kd.N_drew)); exact HO_443001.out⟩, ⟨by (with_reducible repeat (first | refine blk_drewN ?_ _ | refine blk_drew ?_ | refine blk_alloc ?_ _)); exact BK442.out⟩, ⟨by repeat (first | (with_reducible first | exact HB.out | apply below_alloc | apply pw_below_drewN | apply below_drew1 | refine below_set ?_ GE442.out) | exact HB.out)⟩⟩
             ·rw [if_neg c26] at H
              have c26b0 : ((rd t443 (rd t443 x6_1)) == (rd t443 x6_1)) = false := beq_eq_false_iff_ne.mpr c26
              have c26b1 : ((rd t443 (rd t443 x6_1)) != (rd t443 x6_1)) = true := bne_iff_ne.mpr c26
              have H' := Aside0.mk H
              clear H
              have hcz28_0 : wr.cell? ⟨gb442, 0, none⟩ = some (.slice Ao10 t436.length co10) := (blk_cell BK442.out 0).trans rfl
              have hcz28_1 : wr.cell? ⟨gb442, 1, none⟩ = some (.slice Ao12 t439.length co12) := (blk_cell BK442.out 1).trans rfl
              have hfz28_0 := blk_frozen BK442.out 0
              have hfz28_1 := blk_frozen BK442.out 1
              have p451 : 0 ≤ (x6_1 : Int) := of_decide_eq_true (by first | (with_reducible assumption) | assumption)
              have q451 : x6_1 < (t436.length : Int) := of_decide_eq_true (by first | (with_reducible assumption) | assumption)
              obtain ⟨ad451, e451, hx451_0⟩ := Kd.at_int (Kd.R_reads' HO_443000.out).2.2 x6_1 p451 q451
              cases e451
              replace p451 := eq_true p451
              replace q451 := eq_true q451
              have p452 : 0 ≤ ((rd t443 x6_1) : Int) := of_decide_eq_true (by first | (with_reducible assumption) | assumption)
              have q452 : (rd t443 x6_1) < (t436.length : Int) := of_decide_eq_true (by first | (with_reducible assumption) | assumption)
              obtain ⟨ad452, e452, hx452_0⟩ := Kd.at_int (Kd.R_reads' HO_443000.out).2.2 (rd t443 x6_1) p452 q452
              obtain rfl : ad451 = ad452 := (by injection e452)
              replace p452 := eq_true p452
              replace q452 := eq_true q452
              have p453 : 0 ≤ ((rd t443 x6_1) : Int) := of_decide_eq_true (by first | (with_reducible assumption) | assumption)
              have q453 : (rd t443 x6_1) < (t443.length : Int) := of_decide_eq_true (by first | (with_reducible assumption) | assumption)
              obtain ⟨ad453, e453, hx453_0⟩ := Kd.at_int (Kd.R_reads' HO_4.out).2.2 (rd t443 x6_1) p453 q453
              obtain rfl : ad450 = ad453 := (by injection e453)
              replace p453 := eq_true p453
              replace q453 := eq_true q453
              go_wp2
              repeat (go_quiet (fail); try go_wp2)
              go_meet
              case rel => exact ⟨_, (true), (by first | rfl | (simp; done) | (simp [*]; done)), H', ⟨by have := HK1.out; first | omega | exact Nat.le_refl _⟩, ⟨by (with_reducible repeat (first | apply Kd.R_alloc | apply Kd.R_drewN | apply Kd.R_drew)); exact HO_4.out⟩, ⟨by (with_reducible repeat (first | apply Kd.R_alloc | apply Kd.R_drewN | apply Kd.R_drew)); exact HO_443000.out⟩, ⟨by (with_reducible repeat (first | apply Kd.N_alloc | apply Kd.N_drewN | apply Kd.N_drew)); exact HO_443001.out⟩, ⟨by (with_reducible repeat (first | refine blk_drewN ?_ _ | refine blk_drew ?_ | refine blk_alloc ?_ _)); exact BK442.out⟩, ⟨by repeat (first | (with_reducible first | exact HB.out | apply below_alloc | apply pw_below_drewN | apply below_drew1 | refine below_set ?_ GE442.out) | exact HB.out)⟩⟩
            ·rw [if_neg c25] at H
             exact absurd H (by simp)
           ·rw [if_neg c24] at H
            have c24b0 : ((rd t436 x6_1) == (rd t436 (rd t443 x6_1))) = false := beq_eq_false_iff_ne.mpr c24
            have c24b1 : ((rd t436 x6_1) != (rd t436 (rd t443 x6_1))) = true := bne_iff_ne.mpr c24
            have H' := Aside0.mk H
            clear H
            have hcz29_0 : wr.cell? ⟨gb442, 0, none⟩ = some (.slice Ao10 t436.length co10) := (blk_cell BK442.out 0).trans rfl
            have hcz29_1 : wr.cell? ⟨gb442, 1, none⟩ = some (.slice Ao12 t439.length co12) := (blk_cell BK442.out 1).trans rfl
            have hfz29_0 := blk_frozen BK442.out 0
            have hfz29_1 := blk_frozen BK442.out 1
            have p451 : 0 ≤ (x6_1 : Int) := of_decide_eq_true (by first | (with_reducible assumption) | assumption)
            have q451 : x6_1 < (t436.length : Int) := of_decide_eq_true (by first | (with_reducible assumption) | assumption)
            obtain ⟨ad451, e451, hx451_0⟩ := Kd.at_int (Kd.R_reads' HO_443000.out).2.2 x6_1 p451 q451
            cases e451
            replace p451 := eq_true p451
            replace q451 := eq_true q451
            have p452 : 0 ≤ ((rd t443 x6_1) : Int) := of_decide_eq_true (by first | (with_reducible assumption) | assumption)
            have q452 : (rd t443 x6_1) < (t436.length : Int) := of_decide_eq_true (by first | (with_reducible assumption) | assumption)
            obtain ⟨ad452, e452, hx452_0⟩ := Kd.at_int (Kd.R_reads' HO_443000.out).2.2 (rd t443 x6_1) p452 q452
            obtain rfl : ad451 = ad452 := (by injection e452)
            replace p452 := eq_true p452
            replace q452 := eq_true q452
            go_wp2
            repeat (go_quiet (fail); try go_wp2)
            go_meet
            case rel => exact ⟨_, (true), (by first | rfl | (simp; done) | (simp [*]; done)), H', ⟨by have := HK1.out; first | omega | exact Nat.le_refl _⟩, ⟨by (with_reducible repeat (first | apply Kd.R_alloc | apply Kd.R_drewN | apply Kd.R_drew)); exact HO_4.out⟩, ⟨by (with_reducible repeat (first | apply Kd.R_alloc | apply Kd.R_drewN | apply Kd.R_drew)); exact HO_443000.out⟩, ⟨by (with_reducible repeat (first | apply Kd.N_alloc | apply Kd.N_drewN | apply Kd.N_drew)); exact HO_443001.out⟩, ⟨by (with_reducible repeat (first | refine blk_drewN ?_ _ | refine blk_drew ?_ | refine blk_alloc ?_ _)); exact BK442.out⟩, ⟨by repeat (first | (with_reducible first | exact HB.out | apply below_alloc | apply pw_below_drewN | apply below_drew1 | refine below_set ?_ GE442.out) | exact HB.out)⟩⟩
          ·rw [if_neg c23] at H
           exact absurd H (by simp)
         ·rw [if_neg c22] at H
          exact absurd H (by simp)
        ·rw [if_neg c21] at H
         exact absurd H (by simp)
       case rest =>
        clear HC20
        try clear c1
        try clear c2
        try clear c2b0
        try clear c2b1
        try clear p2
        try clear p4
        try clear q4
        try clear hx4
        try clear c7
        try clear c18
        try clear c18b0
        try clear c19
        try clear c19b0
        try clear c21
        try clear c21b0
        try clear c22
        try clear c22b0
        try clear c23
        try clear c23b0
        try clear c24
        try clear c24b0
        try clear c24b1
        try clear c25
        try clear c25b0
        try clear c26
        try clear c26b0
        try clear c26b1
        try clear hcz11_0
        try clear hcz11_1
        try clear hcz14_0
        try clear hcz14_1
        try clear hcz27_0
        try clear hcz27_1
        try clear hcz28_0
        try clear hcz28_1
        try clear hcz29_0
        try clear hcz29_1
        try clear hfz11_0
        try clear hfz11_1
        try clear hfz14_0
        try clear hfz14_1
        try clear hfz27_0
        try clear hfz27_1
        try clear hfz28_0
        try clear hfz28_1
        try clear hfz29_0
        try clear hfz29_1
        try clear hx450_0
        try clear hx451_0
        try clear hx452_0
        try clear hx453_0
        try clear p2
        try clear p450
        try clear p451
        try clear p452
        try clear p453
        try clear q450
        try clear q451
        try clear q452
        try clear q453
        obtain ⟨kq, x58_19, rfl, HA, HJ19, HO_4, HO_443000, HO_443001, BK442, HB⟩ := hcut
        cases kq with
        | zero => exact absurd HA.out (by simp [laws_FnChancesClasses.j1])
        | succ kj19 =>
         have H := HA.out
         clear HA
         simp only [laws_FnChancesClasses.j1] at H
         by_cases c30 : x58_19 = true
         ·subst c30
          have H1 : (some false) = some r := by rw [if_pos rfl] at H; exact H
          clear H
          have H := H1
          clear H1
          obtain rfl := Option.some.inj H
          go_wp2
          repeat (go_quiet (fail); try go_wp2)
          go_ret
          exact ⟨by first | rfl | (simp [errW_none, errW_some] <;> rfl) | (simp [*, errW_none, errW_some] <;> rfl), by repeat (first | (with_reducible first | exact HB.out | apply below_alloc | apply pw_below_drewN | apply below_drew1 | refine below_set ?_ GE442.out) | exact HB.out)⟩
         ·replace c30 := Bool.eq_false_iff.mpr c30
          subst c30
          have H1 : (laws_FnChancesClasses.l1 kj19 t443 x6_1 (rd t443 x6_1) 0 t436 t439) = some r := by rw [if_neg (show ¬ (false = true) by decide)] at H; exact H
          clear H
          have H := H1
          clear H1
          have H' := Aside0.mk H
          clear H
          go_wp2
          repeat (go_quiet (fail); try go_wp2)
          go_loopg [8] kj19 (fun kq v8 w' => ∃ (x8_3 : Int), v8 = .int .i64 x8_3 ∧ Aside0 (laws_FnChancesClasses.l1 kq t443 x6_1 (rd t443 x6_1) x8_3 t436 t439 = some r) ∧ Aside0 (kq ≤ kj19) ∧ Aside0 (Kd.R (Kd.int .i64) 3 w' w.heap.size (fun k_ => some k_ ≠ ((.slice Ao10 t436.length co10) : Value).ownBlock) (.slice (some ad450) t443.length co16) t443) ∧ Aside0 (Kd.R (Kd.int .i64) 3 w' w.heap.size (fun k_ => some k_ ≠ ((.slice (some ad450) t443.length co16) : Value).ownBlock) (.slice Ao10 t436.length co10) t436) ∧ Aside0 (Kd.N (Kd.slice 3 (Kd.int .i64)) 22 w' w.heap.size (fun k_ => some k_ ≠ ((.slice (some ad450) t443.length co16) : Value).ownBlock ∧ some k_ ≠ ((.slice Ao10 t436.length co10) : Value).ownBlock ∧ k_ ≠ gb442) (.slice Ao12 t439.length co12) t439) ∧ Aside0 (w'.heap[gb442]? = some (.cells #[(.slice Ao10 t436.length co10), (.slice Ao12 t439.length co12)] 28 (0, 0))) ∧ Aside0 (Below w.heap.size w w'))
          case atStart => exact ⟨(0), (by first | rfl | (simp; done) | (simp [*]; done)), H', ⟨Nat.le_refl _⟩, ⟨by (with_reducible repeat (first | apply Kd.R_alloc | apply Kd.R_drewN | apply Kd.R_drew)); exact HO_4.out⟩, ⟨by (with_reducible repeat (first | apply Kd.R_alloc | apply Kd.R_drewN | apply Kd.R_drew)); exact HO_443000.out⟩, ⟨by (with_reducible repeat (first | apply Kd.N_alloc | apply Kd.N_drewN | apply Kd.N_drew)); exact HO_443001.out⟩, ⟨by (with_reducible repeat (first | refine blk_drewN ?_ _ | refine blk_drew ?_ | refine blk_alloc ?_ _)); exact BK442.out⟩, ⟨by repeat (first | (with_reducible first | exact HB.out | apply below_alloc | apply pw_below_drewN | apply below_drew1 | refine below_set ?_ GE442.out) | exact HB.out)⟩⟩
          case round =>
           clear H'
           try clear c1
           try clear c2
           try clear c2b0
           try clear c2b1
           try clear p2
           try clear c3
           try clear p4
           try clear q4
           try clear hx4
           try clear c7
           try clear c18
           try clear c18b0
           try clear c19
           try clear c19b0
           try clear c21
           try clear c21b0
           try clear c22
           try clear c22b0
           try clear c23
           try clear c23b0
           try clear c24
           try clear c24b0
           try clear c24b1
           try clear c25
           try clear c25b0
           try clear c26
           try clear c26b0
           try clear c26b1
           try clear c30
           try clear hcz11_0
           try clear hcz11_1
           try clear hcz14_0
           try clear hcz14_1
           try clear hcz27_0
           try clear hcz27_1
           try clear hcz28_0
           try clear hcz28_1
           try clear hcz29_0
           try clear hcz29_1
           try clear hfz11_0
           try clear hfz11_1
           try clear hfz14_0
           try clear hfz14_1
           try clear hfz27_0
           try clear hfz27_1
           try clear hfz28_0
           try clear hfz28_1
           try clear hfz29_0
           try clear hfz29_1
           try clear hx450_0
           try clear hx451_0
           try clear hx452_0
           try clear hx453_0
           try clear p2
           try clear p4
           try clear p450
           try clear p451
           try clear p452
           try clear p453
           try clear q4
           try clear q450
           try clear q451
           try clear q452
           try clear q453
           obtain ⟨x8_3, rfl, HA, HK3, HO_4, HO_443000, HO_443001, BK442, HB⟩ := hrel
           cases gk with
           | zero => exact absurd HA.out (by simp [laws_FnChancesClasses.l1])
           | succ k3 =>
            have H := HA.out
            clear HA
            simp only [laws_FnChancesClasses.l1] at H
            by_cases c31 : x8_3 < (t443.length : Int)
            ·rw [if_pos c31] at H
             have c31b0 : decide (x8_3 < (t443.length : Int)) = true := decide_eq_true c31
             clear c31
             have H' := Aside0.mk H
             clear H
             go_wp2
             repeat (go_quiet (fail); try go_wp2)
             go_loopg [9, 10, 11] k3 (fun kq v9 v10 v11 w' => ∃ (x9_4 : Int) (x10_4 : Int) (x11_4 : Int), v9 = .int .i64 x9_4 ∧ v10 = .int .i64 x10_4 ∧ v11 = .int .i64 x11_4 ∧ Aside0 (laws_FnChancesClasses.l2 kq t443 x6_1 (rd t443 x6_1) x8_3 x9_4 x10_4 x11_4 t436 t439 = some r) ∧ Aside0 (kq ≤ k3) ∧ Aside0 (Kd.R (Kd.int .i64) 3 w' w.heap.size (fun k_ => some k_ ≠ ((.slice Ao10 t436.length co10) : Value).ownBlock) (.slice (some ad450) t443.length co16) t443) ∧ Aside0 (Kd.R (Kd.int .i64) 3 w' w.heap.size (fun k_ => some k_ ≠ ((.slice (some ad450) t443.length co16) : Value).ownBlock) (.slice Ao10 t436.length co10) t436) ∧ Aside0 (Kd.N (Kd.slice 3 (Kd.int .i64)) 22 w' w.heap.size (fun k_ => some k_ ≠ ((.slice (some ad450) t443.length co16) : Value).ownBlock ∧ some k_ ≠ ((.slice Ao10 t436.length co10) : Value).ownBlock ∧ k_ ≠ gb442) (.slice Ao12 t439.length co12) t439) ∧ Aside0 (w'.heap[gb442]? = some (.cells #[(.slice Ao10 t436.length co10), (.slice Ao12 t439.length co12)] 28 (0, 0))) ∧ Aside0 (Below w.heap.size w w'))
             case atStart => exact ⟨(0), (0), (0), (by first | rfl | (simp; done) | (simp [*]; done)), (by first | rfl | (simp; done) | (simp [*]; done)), (by first | rfl | (simp; done) | (simp [*]; done)), H', ⟨Nat.le_refl _⟩, ⟨by (with_reducible repeat (first | apply Kd.R_alloc | apply Kd.R_drewN | apply Kd.R_drew)); exact HO_4.out⟩, ⟨by (with_reducible repeat (first | apply Kd.R_alloc | apply Kd.R_drewN | apply Kd.R_drew)); exact HO_443000.out⟩, ⟨by (with_reducible repeat (first | apply Kd.N_alloc | apply Kd.N_drewN | apply Kd.N_drew)); exact HO_443001.out⟩, ⟨by (with_reducible repeat (first | refine blk_drewN ?_ _ | refine blk_drew ?_ | refine blk_alloc ?_ _)); exact BK442.out⟩, ⟨by repeat (first | (with_reducible first | exact HB.out | apply below_alloc | apply pw_below_drewN | apply below_drew1 | refine below_set ?_ GE442.out) | exact HB.out)⟩⟩
             case round =>
              clear H'
              try clear c1
              try clear c2
              try clear c2b0
              try clear c2b1
              try clear p2
              try clear c3
              try clear p4
              try clear q4
              try clear hx4
              try clear c7
              try clear c18
              try clear c18b0
              try clear c19
              try clear c19b0
              try clear c21
              try clear c21b0
              try clear c22
              try clear c22b0
              try clear c23
              try clear c23b0
              try clear c24
              try clear c24b0
              try clear c24b1
              try clear c25
              try clear c25b0
              try clear c26
              try clear c26b0
              try clear c26b1
              try clear c30
              try clear c31
              try clear c31b0
              try clear hcz11_0
              try clear hcz11_1
              try clear hcz14_0
              try clear hcz14_1
              try clear hcz27_0
              try clear hcz27_1
              try clear hcz28_0
              try clear hcz28_1
              try clear hcz29_0
              try clear hcz29_1
              try clear hfz11_0
              try clear hfz11_1
              try clear hfz14_0
              try clear hfz14_1
              try clear hfz27_0
              try clear hfz27_1
              try clear hfz28_0
              try clear hfz28_1
              try clear hfz29_0
              try clear hfz29_1
              try clear hx450_0
              try clear hx451_0
              try clear hx452_0
              try clear hx453_0
              try clear p2
              try clear p4
              try clear p450
              try clear p451
              try clear p452
              try clear p453
              try clear q4
              try clear q450
              try clear q451
              try clear q452
              try clear q453
              obtain ⟨x9_4, x10_4, x11_4, rfl, rfl, rfl, HA, HK4, HO_4, HO_443000, HO_443001, BK442, HB⟩ := hrel
              cases gk with
              | zero => exact absurd HA.out (by simp [laws_FnChancesClasses.l2])
              | succ k4 =>
               have H := HA.out
               clear HA
               simp only [laws_FnChancesClasses.l2] at H
               by_cases c32 : x11_4 < (t443.length : Int)
               ·rw [if_pos c32] at H
                have c32b0 : decide (x11_4 < (t443.length : Int)) = true := decide_eq_true c32
                clear c32
                by_cases c33 : 0 ≤ x11_4
                ·rw [if_pos c33] at H
                 have c33b0 : decide (0 ≤ x11_4) = true := decide_eq_true c33
                 clear c33
                 by_cases c34 : (rd t443 x11_4) = x8_3
                 ·rw [if_pos c34] at H
                  have c34b0 : ((rd t443 x11_4) == x8_3) = true := beq_iff_eq.mpr c34
                  have c34b1 : ((rd t443 x11_4) != x8_3) = false := bne_eq_false_iff_eq.mpr c34
                  clear c34
                  by_cases c35 : 0 ≤ x6_1
                  ·rw [if_pos c35] at H
                   have c35b0 : decide (0 ≤ x6_1) = true := decide_eq_true c35
                   clear c35
                   by_cases c36 : x6_1 < (t439.length : Int)
                   ·rw [if_pos c36] at H
                    have c36b0 : decide (x6_1 < (t439.length : Int)) = true := decide_eq_true c36
                    clear c36
                    by_cases c37 : x11_4 < ((rd_L1 t439 x6_1).length : Int)
                    ·rw [if_pos c37] at H
                     have c37b0 : decide (x11_4 < ((rd_L1 t439 x6_1).length : Int)) = true := decide_eq_true c37
                     clear c37
                     by_cases c38 : 0 ≤ (rd t443 x6_1)
                     ·rw [if_pos c38] at H
                      have c38b0 : decide (0 ≤ (rd t443 x6_1)) = true := decide_eq_true c38
                      clear c38
                      by_cases c39 : (rd t443 x6_1) < (t439.length : Int)
                      ·rw [if_pos c39] at H
                       have c39b0 : decide ((rd t443 x6_1) < (t439.length : Int)) = true := decide_eq_true c39
                       clear c39
                       by_cases c40 : x11_4 < ((rd_L1 t439 (rd t443 x6_1)).length : Int)
                       ·rw [if_pos c40] at H
                        have c40b0 : decide (x11_4 < ((rd_L1 t439 (rd t443 x6_1)).length : Int)) = true := decide_eq_true c40
                        clear c40
                        have H' := Aside0.mk H
                        clear H
                        have p454 : 0 ≤ (x11_4 : Int) := of_decide_eq_true (by first | (with_reducible assumption) | assumption)
                        have q454 : x11_4 < (t443.length : Int) := of_decide_eq_true (by first | (with_reducible assumption) | assumption)
                        obtain ⟨ad454, e454, hx454_0⟩ := Kd.at_int (Kd.R_reads' HO_4.out).2.2 x11_4 p454 q454
                        obtain rfl : ad450 = ad454 := (by injection e454)
                        replace p454 := eq_true p454
                        replace q454 := eq_true q454
                        have hcz41_0 : wr.cell? ⟨gb442, 0, none⟩ = some (.slice Ao10 t436.length co10) := (blk_cell BK442.out 0).trans rfl
                        have hcz41_1 : wr.cell? ⟨gb442, 1, none⟩ = some (.slice Ao12 t439.length co12) := (blk_cell BK442.out 1).trans rfl
                        have hfz41_0 := blk_frozen BK442.out 0
                        have hfz41_1 := blk_frozen BK442.out 1
                        have p455 : 0 ≤ (x6_1 : Int) := of_decide_eq_true (by first | (with_reducible assumption) | assumption)
                        have q455 : x6_1 < (t439.length : Int) := of_decide_eq_true (by first | (with_reducible assumption) | assumption)
                        obtain ⟨ad455, A455_0, c455_0, e455, hx455_0, hl455_0, hi455_0⟩ := at_L1 (Kd.N_reads' HO_443001.out).2.2 x6_1 p455 q455
                        cases e455
                        obtain ⟨ce455, hce455, hMe455, hcc455⟩ := Kd.N_get HO_443001.out [] x6_1 p455 (by first | exact q455 | exact of_decide_eq_true (by first | (with_reducible assumption) | assumption) | (have e_ := (Kd.N_reads' HO_443001.out).1; omega))
                        obtain ⟨ua455_0, uc455_0, rfl, ul455_0, ge455_0⟩ := Kd.FK_slice_open hMe455
                        have hv455_0 := hcc455 0 _ rfl
                        rw [Nat.add_zero, show ((Kd.slice 3 (Kd.int .i64))).sz = 1 from rfl, Nat.mul_one] at hv455_0
                        replace hv455_0 := Option.some.inj (hv455_0.symm.trans hx455_0)
                        injection hv455_0 with hva_ hvn_ hvc_
                        rw [hva_] at ge455_0
                        rw [hvc_] at ul455_0
                        have HL455_0 := Aside0.mk (show Kd.V (Kd.int .i64) 3 _ w.heap.size _ _ (rd_L1 t439 x6_1) from Kd.V_mk ul455_0 ge455_0)
                        clear hva_ hvn_ hvc_ ge455_0 ul455_0
                        clear hcc455 hce455
                        have HR455_0 := Aside0.mk hi455_0
                        have HC455_0 := Aside0.mk hl455_0
                        clear hi455_0 hl455_0
                        replace p455 := eq_true p455
                        replace q455 := eq_true q455
                        have p456 : 0 ≤ (x11_4 : Int) := of_decide_eq_true (by first | (with_reducible assumption) | assumption)
                        have q456 : x11_4 < ((rd_L1 t439 x6_1).length : Int) := of_decide_eq_true (by first | (with_reducible assumption) | assumption)
                        obtain ⟨ad456, e456, hx456_0⟩ := Kd.at_int (by repeat (first | (with_reducible exact HR455_0.out) | (with_reducible refine Kd.C_alloc ?_ _) | (with_reducible refine Kd.C_drewN ?_ _) | (with_reducible refine Kd.C_drew ?_) | exact HR455_0.out)) x11_4 p456 q456
                        cases e456
                        replace p456 := eq_true p456
                        replace q456 := eq_true q456
                        have p457 : 0 ≤ ((rd t443 x6_1) : Int) := of_decide_eq_true (by first | (with_reducible assumption) | assumption)
                        have q457 : (rd t443 x6_1) < (t439.length : Int) := of_decide_eq_true (by first | (with_reducible assumption) | assumption)
                        obtain ⟨ad457, A457_0, c457_0, e457, hx457_0, hl457_0, hi457_0⟩ := at_L1 (Kd.N_reads' HO_443001.out).2.2 (rd t443 x6_1) p457 q457
                        obtain rfl : ad455 = ad457 := (by injection e457)
                        obtain ⟨ce457, hce457, hMe457, hcc457⟩ := Kd.N_get HO_443001.out [] (rd t443 x6_1) p457 (by first | exact q457 | exact of_decide_eq_true (by first | (with_reducible assumption) | assumption) | (have e_ := (Kd.N_reads' HO_443001.out).1; omega))
                        obtain ⟨ua457_0, uc457_0, rfl, ul457_0, ge457_0⟩ := Kd.FK_slice_open hMe457
                        have hv457_0 := hcc457 0 _ rfl
                        rw [Nat.add_zero, show ((Kd.slice 3 (Kd.int .i64))).sz = 1 from rfl, Nat.mul_one] at hv457_0
                        replace hv457_0 := Option.some.inj (hv457_0.symm.trans hx457_0)
                        injection hv457_0 with hva_ hvn_ hvc_
                        rw [hva_] at ge457_0
                        rw [hvc_] at ul457_0
                        have HL457_0 := Aside0.mk (show Kd.V (Kd.int .i64) 3 _ w.heap.size _ _ (rd_L1 t439 (rd t443 x6_1)) from Kd.V_mk ul457_0 ge457_0)
                        clear hva_ hvn_ hvc_ ge457_0 ul457_0
                        clear hcc457 hce457
                        have HR457_0 := Aside0.mk hi457_0
                        have HC457_0 := Aside0.mk hl457_0
                        clear hi457_0 hl457_0
                        replace p457 := eq_true p457
                        replace q457 := eq_true q457
                        have p458 : 0 ≤ (x11_4 : Int) := of_decide_eq_true (by first | (with_reducible assumption) | assumption)
                        have q458 : x11_4 < ((rd_L1 t439 (rd t443 x6_1)).length : Int) := of_decide_eq_true (by first | (with_reducible assumption) | assumption)
                        obtain ⟨ad458, e458, hx458_0⟩ := Kd.at_int (by repeat (first | (with_reducible exact HR457_0.out) | (with_reducible refine Kd.C_alloc ?_ _) | (with_reducible refine Kd.C_drewN ?_ _) | (with_reducible refine Kd.C_drew ?_) | exact HR457_0.out)) x11_4 p458 q458
                        cases e458
                        replace p458 := eq_true p458
                        replace q458 := eq_true q458
                        go_wp2
                        repeat (go_quiet (fail); try go_wp2)
                        go_roundg k4
                        case measure => have := HK1.out; have := HJ19.out; have := HK3.out; have := HK4.out; omega
                        case rel => exact ⟨(wrap64 (x9_4 + (rd (rd_L1 t439 x6_1) x11_4))), (wrap64 (x10_4 + (rd (rd_L1 t439 (rd t443 x6_1)) x11_4))), (wrap64 (x11_4 + 1)), (by first | rfl | (simp; done) | (simp [*]; done)), (by first | rfl | (simp; done) | (simp [*]; done)), (by first | rfl | (simp; done) | (simp [*]; done)), H', ⟨by have := HK1.out; have := HJ19.out; have := HK3.out; have := HK4.out; omega⟩, ⟨by (with_reducible repeat (first | apply Kd.R_alloc | apply Kd.R_drewN | apply Kd.R_drew)); exact HO_4.out⟩, ⟨by (with_reducible repeat (first | apply Kd.R_alloc | apply Kd.R_drewN | apply Kd.R_drew)); exact HO_443000.out⟩, ⟨by (with_reducible repeat (first | apply Kd.N_alloc | apply Kd.N_drewN | apply Kd.N_drew)); exact HO_443001.out⟩, ⟨by (with_reducible repeat (first | refine blk_drewN ?_ _ | refine blk_drew ?_ | refine blk_alloc ?_ _)); exact BK442.out⟩, ⟨by repeat (first | (with_reducible first | exact HB.out | apply below_alloc | apply pw_below_drewN | apply below_drew1 | refine below_set ?_ GE442.out) | exact HB.out)⟩⟩
                       ·rw [if_neg c40] at H
                        exact absurd H (by simp)
                      ·rw [if_neg c39] at H
                       exact absurd H (by simp)
                     ·rw [if_neg c38] at H
                      exact absurd H (by simp)
                    ·rw [if_neg c37] at H
                     exact absurd H (by simp)
                   ·rw [if_neg c36] at H
                    exact absurd H (by simp)
                  ·rw [if_neg c35] at H
                   exact absurd H (by simp)
                 ·rw [if_neg c34] at H
                  have c34b0 : ((rd t443 x11_4) == x8_3) = false := beq_eq_false_iff_ne.mpr c34
                  have c34b1 : ((rd t443 x11_4) != x8_3) = true := bne_iff_ne.mpr c34
                  have H' := Aside0.mk H
                  clear H
                  have p454 : 0 ≤ (x11_4 : Int) := of_decide_eq_true (by first | (with_reducible assumption) | assumption)
                  have q454 : x11_4 < (t443.length : Int) := of_decide_eq_true (by first | (with_reducible assumption) | assumption)
                  obtain ⟨ad454, e454, hx454_0⟩ := Kd.at_int (Kd.R_reads' HO_4.out).2.2 x11_4 p454 q454
                  obtain rfl : ad450 = ad454 := (by injection e454)
                  replace p454 := eq_true p454
                  replace q454 := eq_true q454
                  go_wp2
                  repeat (go_quiet (fail); try go_wp2)
                  go_roundg k4
                  case measure => have := HK1.out; have := HJ19.out; have := HK3.out; have := HK4.out; omega
                  case rel => exact ⟨(x9_4), (x10_4), (wrap64 (x11_4 + 1)), (by first | rfl | (simp; done) | (simp [*]; done)), (by first | rfl | (simp; done) | (simp [*]; done)), (by first | rfl | (simp; done) | (simp [*]; done)), H', ⟨by have := HK1.out; have := HJ19.out; have := HK3.out; have := HK4.out; omega⟩, ⟨by (with_reducible repeat (first | apply Kd.R_alloc | apply Kd.R_drewN | apply Kd.R_drew)); exact HO_4.out⟩, ⟨by (with_reducible repeat (first | apply Kd.R_alloc | apply Kd.R_drewN | apply Kd.R_drew)); exact HO_443000.out⟩, ⟨by (with_reducible repeat (first | apply Kd.N_alloc | apply Kd.N_drewN | apply Kd.N_drew)); exact HO_443001.out⟩, ⟨by (with_reducible repeat (first | refine blk_drewN ?_ _ | refine blk_drew ?_ | refine blk_alloc ?_ _)); exact BK442.out⟩, ⟨by repeat (first | (with_reducible first | exact HB.out | apply below_alloc | apply pw_below_drewN | apply below_drew1 | refine below_set ?_ GE442.out) | exact HB.out)⟩⟩
                ·rw [if_neg c33] at H
                 exact absurd H (by simp)
               ·rw [if_neg c32] at H
                have c32b0 : decide (x11_4 < (t443.length : Int)) = false := decide_eq_false c32
                clear c32
                by_cases c42 : x9_4 = x10_4
                ·rw [if_pos c42] at H
                 have c42b0 : (x9_4 == x10_4) = true := beq_iff_eq.mpr c42
                 have c42b1 : (x9_4 != x10_4) = false := bne_eq_false_iff_eq.mpr c42
                 clear c42
                 have H' := Aside0.mk H
                 clear H
                 go_wp2
                 repeat (go_quiet (fail); try go_wp2)
                 go_roundg k4
                 case measure => have := HK1.out; have := HJ19.out; have := HK3.out; have := HK4.out; omega
                 case rel => exact ⟨(wrap64 (x8_3 + 1)), (by first | rfl | (simp; done) | (simp [*]; done)), H', ⟨by have := HK1.out; have := HJ19.out; have := HK3.out; have := HK4.out; omega⟩, ⟨by (with_reducible repeat (first | apply Kd.R_alloc | apply Kd.R_drewN | apply Kd.R_drew)); exact HO_4.out⟩, ⟨by (with_reducible repeat (first | apply Kd.R_alloc | apply Kd.R_drewN | apply Kd.R_drew)); exact HO_443000.out⟩, ⟨by (with_reducible repeat (first | apply Kd.N_alloc | apply Kd.N_drewN | apply Kd.N_drew)); exact HO_443001.out⟩, ⟨by (with_reducible repeat (first | refine blk_drewN ?_ _ | refine blk_drew ?_ | refine blk_alloc ?_ _)); exact BK442.out⟩, ⟨by repeat (first | (with_reducible first | exact HB.out | apply below_alloc | apply pw_below_drewN | apply below_drew1 | refine below_set ?_ GE442.out) | exact HB.out)⟩⟩
                ·rw [if_neg c42] at H
                 have c42b0 : (x9_4 == x10_4) = false := beq_eq_false_iff_ne.mpr c42
                 have c42b1 : (x9_4 != x10_4) = true := bne_iff_ne.mpr c42
                 obtain rfl := Option.some.inj H
                 go_wp2
                 repeat (go_quiet (fail); try go_wp2)
                 go_ret
                 exact ⟨by first | rfl | (simp [errW_none, errW_some] <;> rfl) | (simp [*, errW_none, errW_some] <;> rfl), by repeat (first | (with_reducible first | exact HB.out | apply below_alloc | apply pw_below_drewN | apply below_drew1 | refine below_set ?_ GE442.out) | exact HB.out)⟩
            ·rw [if_neg c31] at H
             have c31b0 : decide (x8_3 < (t443.length : Int)) = false := decide_eq_false c31
             clear c31
             have H' := Aside0.mk H
             clear H
             go_wp2
             repeat (go_quiet (fail); try go_wp2)
             go_roundg k3
             case measure => have := HK1.out; have := HJ19.out; have := HK3.out; omega
             case rel => exact ⟨(wrap64 (x6_1 + 1)), (by first | rfl | (simp; done) | (simp [*]; done)), H', ⟨by have := HK1.out; have := HJ19.out; have := HK3.out; omega⟩, ⟨by (with_reducible repeat (first | apply Kd.R_alloc | apply Kd.R_drewN | apply Kd.R_drew)); exact HO_4.out⟩, ⟨by (with_reducible repeat (first | apply Kd.R_alloc | apply Kd.R_drewN | apply Kd.R_drew)); exact HO_443000.out⟩, ⟨by (with_reducible repeat (first | apply Kd.N_alloc | apply Kd.N_drewN | apply Kd.N_drew)); exact HO_443001.out⟩, ⟨by (with_reducible repeat (first | refine blk_drewN ?_ _ | refine blk_drew ?_ | refine blk_alloc ?_ _)); exact BK442.out⟩, ⟨by repeat (first | (with_reducible first | exact HB.out | apply below_alloc | apply pw_below_drewN | apply below_drew1 | refine below_set ?_ GE442.out) | exact HB.out)⟩⟩
      ·rw [if_neg c19] at H
       exact absurd H (by simp)
     ·rw [if_neg c18] at H
      have c18b0 : decide (x6_1 < (t443.length : Int)) = false := decide_eq_false c18
      clear c18
      obtain rfl := Option.some.inj H
      go_wp2
      repeat (go_quiet (fail); try go_wp2)
      go_ret
      exact ⟨by first | rfl | (simp [errW_none, errW_some] <;> rfl) | (simp [*, errW_none, errW_some] <;> rfl), by repeat (first | (with_reducible first | exact HB.out | apply below_alloc | apply pw_below_drewN | apply below_drew1 | refine below_set ?_ GE442.out) | exact HB.out)⟩
  ·replace c7 := Bool.eq_false_iff.mpr c7
   subst c7
   have H1 : (some false) = some r := by rw [if_neg (show ¬ (false = true) by decide)] at H; exact H
   clear H
   have H := H1
   clear H1
   obtain rfl := Option.some.inj H
   go_enter Try.func7, Try.ntmps7
   go_wp2_with (first | (go_at_call 29; (with_reducible refine (spec_DrawChancesClasses.calls k _ _ l0 t436 t439 _ ?side1 ?side2 A3.out).mono ?_); (case side1 => repeat (first | exact HR0.out | (with_reducible refine Kd.C_alloc ?_ _) | (with_reducible refine Kd.C_drewN ?_ _) | (with_reducible refine Kd.C_drew ?_))); (case side2 => exact HC0.out); rintro e w43 ⟨v437, v440, rfl, ho0, ho1, hb⟩; have n0_ := Aside0.mk (Kd.R_lower (Kd.R_mono (ok' := fun k_ => True) ho0 (fun _ hk_ => trivial)) (below_size (by repeat (first | (with_reducible first | exact HB.out | apply below_alloc | apply pw_below_drewN | apply below_drew1) | exact HB.out)))); have n1_ := Aside0.mk (Kd.N_lower (Kd.N_mono (ok' := fun k_ => some k_ ≠ (v437 : Value).ownBlock) ho1 (fun k_ hk_ => hk_.2)) (below_size (by repeat (first | (with_reducible first | exact HB.out | apply below_alloc | apply pw_below_drewN | apply below_drew1) | exact HB.out)))); have n2_ := Aside0.mk (below_step (by repeat (first | (with_reducible first | exact HB.out | apply below_alloc | apply pw_below_drewN | apply below_drew1) | exact HB.out)) hb); clear HB; have HO438 := n0_; have HO441 := n1_; have HB := n2_; clear n0_ n1_ n2_; (try clear hb); (try clear hb2); (try clear hk); (try clear hi); (try clear ho0); (try clear ho1)) | ((with_reducible refine gate_dst (N := 3) rfl ?_); refine box_event ?hg (N := 3) ?hd (cs := #[.slice none 0 0, .slice none 0 0]) (t := 28) ?hr ?_; (case hd => rfl); (case hg => rfl); (case hr => first | (go_simp; done) | (go_simp; rfl)); intro gb442 hg w44 hbox hb; have n0_ := Aside0.mk (Kd.R_below (by (with_reducible repeat (first | apply Kd.R_alloc | apply Kd.R_drewN | apply Kd.R_drew)); exact HO438.out) hb); have n1_ := Aside0.mk (Kd.N_below (Kd.N_elderB (by (with_reducible repeat (first | apply Kd.N_alloc | apply Kd.N_drewN | apply Kd.N_drew)); exact HO441.out) gb442 (Nat.le_of_eq hg.symm)) hb); have n2_ := Aside0.mk (below_step (by repeat (first | (with_reducible first | exact HB.out | apply below_alloc | apply pw_below_drewN | apply below_drew1) | exact HB.out)) hb); have n3_ := Aside0.mk (hbox); have n4_ := Aside0.mk ((by rw [hg]; exact (below_size (by repeat (first | (with_reducible first | exact HB.out | apply below_alloc | apply pw_below_drewN | apply below_drew1) | exact HB.out))) : w.heap.size ≤ gb442)); have n5_ := Aside0.mk ((by rw [hg]; exact (below_size (by repeat (first | (with_reducible first | exact HB.out | apply below_alloc | apply pw_below_drewN | apply below_drew1) | exact HB.out))) : w.heap.size ≤ gb442)); clear HO438; clear HO441; clear HB; have HO438 := n0_; have HO441 := n1_; have HB := n2_; have BK442 := n3_; have GW442 := n4_; have GE442 := n5_; clear n0_ n1_ n2_ n3_ n4_ n5_; clear hb hbox hg; obtain ⟨Ao45, co45, eo45⟩ := Kd.R_slice HO438.out; subst eo45; have hcz46_0 : w44.cell? ⟨gb442, 0, none⟩ = some (.slice none 0 0) := (blk_cell BK442.out 0).trans rfl; have hcz46_1 : w44.cell? ⟨gb442, 1, none⟩ = some (.slice none 0 0) := (blk_cell BK442.out 1).trans rfl; have hfz46_0 := blk_frozen BK442.out 0; have hfz46_1 := blk_frozen BK442.out 1; obtain ⟨Ao47, co47, eo47⟩ := Kd.N_slice HO441.out; subst eo47) | (go_at_call 20; (with_reducible refine (impl_ChancesClasses.calls k _ _ t436 _ _ t439 t443 _ ?side1 ?side2 ?side3 ?side4 A4.out).mono ?_); (case side1 => refine (Kd.R_reads' (e := 3) (base := w.heap.size) (ok := fun k_ => True) (n := t436.length) (c := co45) ?_).2.2; exact (by (with_reducible repeat (first | apply Kd.R_alloc | apply Kd.R_drewN | apply Kd.R_drew)); exact (Kd.R_mono (Kd.R_far (p := ⟨gb442, 1, none⟩) (Kd.R_far (p := ⟨gb442, 0, none⟩) (Kd.R_types HO438.out BK442.out (by decide)) (fun _ hk => hk.2) (.slice Ao45 t436.length co45)) (fun _ hk => hk.2) (.slice Ao47 t439.length co47)) (fun _ h_ => h_.1)))); (case side2 => exact (Kd.R_reads' HO438.out).2.1); (case side3 => refine (Kd.N_reads' (e := 22) (base := w.heap.size) (ok := fun k_ => (some k_ ≠ (.slice Ao45 t436.length co45 : Value).ownBlock ∧ k_ ≠ gb442)) (n := t439.length) (c := co47) ?_).2.2; exact (by (with_reducible repeat (first | apply Kd.N_alloc | apply Kd.N_drewN | apply Kd.N_drew)); exact (Kd.N_mono (Kd.N_far (p := ⟨gb442, 1, none⟩) (Kd.N_far (p := ⟨gb442, 0, none⟩) (Kd.N_mono HO441.out (fun k_ hk => (⟨hk, hk.2⟩ : _ ∧ k_ ≠ gb442))) (fun _ hk => hk.2) (.slice Ao45 t436.length co45)) (fun _ hk => hk.2) (.slice Ao47 t439.length co47)) (fun _ h_ => h_.1)))); (case side4 => exact (Kd.N_reads' HO441.out).2.1); rintro e w48 ⟨v444, rfl, ho0, hb⟩; have n0_ := Aside0.mk (Kd.R_elder' (by (with_reducible repeat (first | apply Kd.R_alloc | apply Kd.R_drewN | apply Kd.R_drew)); exact (Kd.R_mono (Kd.R_far (p := ⟨gb442, 1, none⟩) (Kd.R_far (p := ⟨gb442, 0, none⟩) (Kd.R_types HO438.out BK442.out (by decide)) (fun _ hk => hk.2) (.slice Ao45 t436.length co45)) (fun _ hk => hk.2) (.slice Ao47 t439.length co47)) (fun _ h_ => h_.1))) (Kd.R_base ho0) hb); have n1_ := Aside0.mk (Kd.N_elder' (by (with_reducible repeat (first | apply Kd.N_alloc | apply Kd.N_drewN | apply Kd.N_drew)); exact (Kd.N_mono (Kd.N_far (p := ⟨gb442, 1, none⟩) (Kd.N_far (p := ⟨gb442, 0, none⟩) (Kd.N_mono HO441.out (fun k_ hk => (⟨hk, hk.2⟩ : _ ∧ k_ ≠ gb442))) (fun _ hk => hk.2) (.slice Ao45 t436.length co45)) (fun _ hk => hk.2) (.slice Ao47 t439.length co47)) (fun _ h_ => h_.1))) (Kd.R_base ho0) hb); have n2_ := Aside0.mk (Kd.R_lower (Kd.R_new' ho0 (Kd.R_lt (by (with_reducible repeat (first | apply Kd.R_alloc | apply Kd.R_drewN | apply Kd.R_drew)); exact (Kd.R_mono (Kd.R_far (p := ⟨gb442, 1, none⟩) (Kd.R_far (p := ⟨gb442, 0, none⟩) (Kd.R_types HO438.out BK442.out (by decide)) (fun _ hk => hk.2) (.slice Ao45 t436.length co45)) (fun _ hk => hk.2) (.slice Ao47 t439.length co47)) (fun _ h_ => h_.1))))) (below_size (by repeat (first | (with_reducible first | exact HB.out | apply below_alloc | apply pw_below_drewN | apply below_drew1 | refine below_set ?_ GE442.out) | exact HB.out)))); have n3_ := Aside0.mk (blk_below (g := gb442) (o := .cells #[.slice Ao45 t436.length co45, .slice Ao47 t439.length co47] 28 (0, 0)) (by (with_reducible repeat (first | refine blk_drewN ?_ _ | refine blk_drew ?_ | refine blk_alloc ?_ _)); refine blk_put (cs := #[.slice Ao45 t436.length co45, .slice none 0 0]) ?_ 1 _ rfl; (with_reducible repeat (first | refine blk_drewN ?_ _ | refine blk_drew ?_ | refine blk_alloc ?_ _)); refine blk_put (cs := #[.slice none 0 0, .slice none 0 0]) ?_ 0 _ rfl; (with_reducible repeat (first | refine blk_drewN ?_ _ | refine blk_drew ?_ | refine blk_alloc ?_ _)); exact BK442.out) hb); have n4_ := Aside0.mk (below_step (by repeat (first | (with_reducible first | exact HB.out | apply below_alloc | apply pw_below_drewN | apply below_drew1 | refine below_set ?_ GE442.out) | exact HB.out)) hb); clear HO438; clear HO441; clear BK442; clear HB; have HO438 := n0_; have HO441 := n1_; have HO445 := n2_; have BK442 := n3_; have HB := n4_; clear n0_ n1_ n2_ n3_ n4_; (try clear hb); (try clear hb2); (try clear hk); (try clear hi); (try clear ho0); have hcz49_0 : w48.cell? ⟨gb442, 0, none⟩ = some (.slice Ao45 t436.length co45) := (blk_cell BK442.out 0).trans rfl; have hcz49_1 : w48.cell? ⟨gb442, 1, none⟩ = some (.slice Ao47 t439.length co47) := (blk_cell BK442.out 1).trans rfl; have hfz49_0 := blk_frozen BK442.out 0; have hfz49_1 := blk_frozen BK442.out 1) | (go_at_call 30; (with_reducible refine (spec_ChancesClasses.calls k _ _ t436 _ _ t439 t446 _ ?side1 ?side2 ?side3 ?side4 A5.out).mono ?_); (case side1 => repeat (first | exact (Kd.R_reads' HO438.out).2.2 | (with_reducible refine Kd.C_alloc ?_ _) | (with_reducible refine Kd.C_drewN ?_ _) | (with_reducible refine Kd.C_drew ?_))); (case side2 => exact (Kd.R_reads' HO438.out).2.1); (case side3 => repeat (first | exact (Kd.N_reads' HO441.out).2.2 | (with_reducible refine Kd.C_alloc ?_ _) | (with_reducible refine Kd.C_drewN ?_ _) | (with_reducible refine Kd.C_drew ?_))); (case side4 => exact (Kd.N_reads' HO441.out).2.1); rintro e w50 ⟨v447, rfl, ho0, hb⟩; have n0_ := Aside0.mk (Kd.R_elder' (by (with_reducible repeat (first | apply Kd.R_alloc | apply Kd.R_drewN | apply Kd.R_drew)); exact HO438.out) (Kd.R_base ho0) hb); have n1_ := Aside0.mk (Kd.N_elder' (by (with_reducible repeat (first | apply Kd.N_alloc | apply Kd.N_drewN | apply Kd.N_drew)); exact HO441.out) (Kd.R_base ho0) hb); have n2_ := Aside0.mk (Kd.R_elder' (by (with_reducible repeat (first | apply Kd.R_alloc | apply Kd.R_drewN | apply Kd.R_drew)); exact HO445.out) (Kd.R_base ho0) hb); have n3_ := Aside0.mk (Kd.R_lower (Kd.R_new' (Kd.R_new' ho0 (Kd.R_lt (by (with_reducible repeat (first | apply Kd.R_alloc | apply Kd.R_drewN | apply Kd.R_drew)); exact HO438.out))) (Kd.R_lt (by (with_reducible repeat (first | apply Kd.R_alloc | apply Kd.R_drewN | apply Kd.R_drew)); exact HO445.out))) (below_size (by repeat (first | (with_reducible first | exact HB.out | apply below_alloc | apply pw_below_drewN | apply below_drew1 | refine below_set ?_ GE442.out) | exact HB.out)))); have n4_ := Aside0.mk (blk_below (g := gb442) (o := .cells #[.slice Ao45 t436.length co45, .slice Ao47 t439.length co47] 28 (0, 0)) (by (with_reducible repeat (first | refine blk_drewN ?_ _ | refine blk_drew ?_ | refine blk_alloc ?_ _)); exact BK442.out) hb); have n5_ := Aside0.mk (below_step (by repeat (first | (with_reducible first | exact HB.out | apply below_alloc | apply pw_below_drewN | apply below_drew1 | refine below_set ?_ GE442.out) | exact HB.out)) hb); clear HO438; clear HO441; clear HO445; clear BK442; clear HB; have HO438 := n0_; have HO441 := n1_; have HO445 := n2_; have HO448 := n3_; have BK442 := n4_; have HB := n5_; clear n0_ n1_ n2_ n3_ n4_ n5_; (try clear hb); (try clear hb2); (try clear hk); (try clear hi); (try clear ho0); obtain ⟨Ao51, co51, eo51⟩ := Kd.R_slice HO445.out; subst eo51; obtain ⟨Ao52, co52, eo52⟩ := Kd.R_slice HO448.out; subst eo52) | (go_at_call 24; (with_reducible refine (laws_mnInts.calls k _ _ t443 _ _ t446 false _ ?side1 ?side2 ?side3 ?side4 A6.out).mono ?_); (case side1 => repeat (first | exact (Kd.R_reads' HO445.out).2.2 | (with_reducible refine Kd.C_alloc ?_ _) | (with_reducible refine Kd.C_drewN ?_ _) | (with_reducible refine Kd.C_drew ?_))); (case side2 => exact (Kd.R_reads' HO445.out).2.1); (case side3 => repeat (first | exact (Kd.R_reads' HO448.out).2.2 | (with_reducible refine Kd.C_alloc ?_ _) | (with_reducible refine Kd.C_drewN ?_ _) | (with_reducible refine Kd.C_drew ?_))); (case side4 => exact (Kd.R_reads' HO448.out).2.1); rintro e w' ⟨rfl, ⟨nd, rfl⟩⟩; (try first | exact ⟨rfl, _, World.drewN_drewN _ _ _⟩ | exact ⟨rfl, _, Eq.trans (World.drewN_drewN _ _ _) (congrArg (World.drewN _) (Nat.add_assoc _ _ _))⟩)))
   repeat (go_quiet (first | (go_at_call 29; (with_reducible refine (spec_DrawChancesClasses.calls k _ _ l0 t436 t439 _ ?side1 ?side2 A3.out).mono ?_); (case side1 => repeat (first | exact HR0.out | (with_reducible refine Kd.C_alloc ?_ _) | (with_reducible refine Kd.C_drewN ?_ _) | (with_reducible refine Kd.C_drew ?_))); (case side2 => exact HC0.out); rintro e w43 ⟨v437, v440, rfl, ho0, ho1, hb⟩; have n0_ := Aside0.mk (Kd.R_lower (Kd.R_mono (ok' := fun k_ => True) ho0 (fun _ hk_ => trivial)) (below_size (by repeat (first | (with_reducible first | exact HB.out | apply below_alloc | apply pw_below_drewN | apply below_drew1) | exact HB.out)))); have n1_ := Aside0.mk (Kd.N_lower (Kd.N_mono (ok' := fun k_ => some k_ ≠ (v437 : Value).ownBlock) ho1 (fun k_ hk_ => hk_.2)) (below_size (by repeat (first | (with_reducible first | exact HB.out | apply below_alloc | apply pw_below_drewN | apply below_drew1) | exact HB.out)))); have n2_ := Aside0.mk (below_step (by repeat (first | (with_reducible first | exact HB.out | apply below_alloc | apply pw_below_drewN | apply below_drew1) | exact HB.out)) hb); clear HB; have HO438 := n0_; have HO441 := n1_; have HB := n2_; clear n0_ n1_ n2_; (try clear hb); (try clear hb2); (try clear hk); (try clear hi); (try clear ho0); (try clear ho1)) | ((with_reducible refine gate_dst (N := 3) rfl ?_); refine box_event ?hg (N := 3) ?hd (cs := #[.slice none 0 0, .slice none 0 0]) (t := 28) ?hr ?_; (case hd => rfl); (case hg => rfl); (case hr => first | (go_simp; done) | (go_simp; rfl)); intro gb442 hg w44 hbox hb; have n0_ := Aside0.mk (Kd.R_below (by (with_reducible repeat (first | apply Kd.R_alloc | apply Kd.R_drewN | apply Kd.R_drew)); exact HO438.out) hb); have n1_ := Aside0.mk (Kd.N_below (Kd.N_elderB (by (with_reducible repeat (first | apply Kd.N_alloc | apply Kd.N_drewN | apply Kd.N_drew)); exact HO441.out) gb442 (Nat.le_of_eq hg.symm)) hb); have n2_ := Aside0.mk (below_step (by repeat (first | (with_reducible first | exact HB.out | apply below_alloc | apply pw_below_drewN | apply below_drew1) | exact HB.out)) hb); have n3_ := Aside0.mk (hbox); have n4_ := Aside0.mk ((by rw [hg]; exact (below_size (by repeat (first | (with_reducible first | exact HB.out | apply below_alloc | apply pw_below_drewN | apply below_drew1) | exact HB.out))) : w.heap.size ≤ gb442)); have n5_ := Aside0.mk ((by rw [hg]; exact (below_size (by repeat (first | (with_reducible first | exact HB.out | apply below_alloc | apply pw_below_drewN | apply below_drew1) | exact HB.out))) : w.heap.size ≤ gb442)); clear HO438; clear HO441; clear HB; have HO438 := n0_; have HO441 := n1_; have HB := n2_; have BK442 := n3_; have GW442 := n4_; have GE442 := n5_; clear n0_ n1_ n2_ n3_ n4_ n5_; clear hb hbox hg; obtain ⟨Ao45, co45, eo45⟩ := Kd.R_slice HO438.out; subst eo45; have hcz46_0 : w44.cell? ⟨gb442, 0, none⟩ = some (.slice none 0 0) := (blk_cell BK442.out 0).trans rfl; have hcz46_1 : w44.cell? ⟨gb442, 1, none⟩ = some (.slice none 0 0) := (blk_cell BK442.out 1).trans rfl; have hfz46_0 := blk_frozen BK442.out 0; have hfz46_1 := blk_frozen BK442.out 1; obtain ⟨Ao47, co47, eo47⟩ := Kd.N_slice HO441.out; subst eo47) | (go_at_call 20; (with_reducible refine (impl_ChancesClasses.calls k _ _ t436 _ _ t439 t443 _ ?side1 ?side2 ?side3 ?side4 A4.out).mono ?_); (case side1 => refine (Kd.R_reads' (e := 3) (base := w.heap.size) (ok := fun k_ => True) (n := t436.length) (c := co45) ?_).2.2; exact (by (with_reducible repeat (first | apply Kd.R_alloc | apply Kd.R_drewN | apply Kd.R_drew)); exact (Kd.R_mono (Kd.R_far (p := ⟨gb442, 1, none⟩) (Kd.R_far (p := ⟨gb442, 0, none⟩) (Kd.R_types HO438.out BK442.out (by decide)) (fun _ hk => hk.2) (.slice Ao45 t436.length co45)) (fun _ hk => hk.2) (.slice Ao47 t439.length co47)) (fun _ h_ => h_.1)))); (case side2 => exact (Kd.R_reads' HO438.out).2.1); (case side3 => refine (Kd.N_reads' (e := 22) (base := w.heap.size) (ok := fun k_ => (some k_ ≠ (.slice Ao45 t436.length co45 : Value).ownBlock ∧ k_ ≠ gb442)) (n := t439.length) (c := co47) ?_).2.2; exact (by (with_reducible repeat (first | apply Kd.N_alloc | apply Kd.N_drewN | apply Kd.N_drew)); exact (Kd.N_mono (Kd.N_far (p := ⟨gb442, 1, none⟩) (Kd.N_far (p := ⟨gb442, 0, none⟩) (Kd.N_mono HO441.out (fun k_ hk => (⟨hk, hk.2⟩ : _ ∧ k_ ≠ gb442))) (fun _ hk => hk.2) (.slice Ao45 t436.length co45)) (fun _ hk => hk.2) (.slice Ao47 t439.length co47)) (fun _ h_ => h_.1)))); (case side4 => exact (Kd.N_reads' HO441.out).2.1); rintro e w48 ⟨v444, rfl, ho0, hb⟩; have n0_ := Aside0.mk (Kd.R_elder' (by (with_reducible repeat (first | apply Kd.R_alloc | apply Kd.R_drewN | apply Kd.R_drew)); exact (Kd.R_mono (Kd.R_far (p := ⟨gb442, 1, none⟩) (Kd.R_far (p := ⟨gb442, 0, none⟩) (Kd.R_types HO438.out BK442.out (by decide)) (fun _ hk => hk.2) (.slice Ao45 t436.length co45)) (fun _ hk => hk.2) (.slice Ao47 t439.length co47)) (fun _ h_ => h_.1))) (Kd.R_base ho0) hb); have n1_ := Aside0.mk (Kd.N_elder' (by (with_reducible repeat (first | apply Kd.N_alloc | apply Kd.N_drewN | apply Kd.N_drew)); exact (Kd.N_mono (Kd.N_far (p := ⟨gb442, 1, none⟩) (Kd.N_far (p := ⟨gb442, 0, none⟩) (Kd.N_mono HO441.out (fun k_ hk => (⟨hk, hk.2⟩ : _ ∧ k_ ≠ gb442))) (fun _ hk => hk.2) (.slice Ao45 t436.length co45)) (fun _ hk => hk.2) (.slice Ao47 t439.length co47)) (fun _ h_ => h_.1))) (Kd.R_base ho0) hb); have n2_ := Aside0.mk (Kd.R_lower (Kd.R_new' ho0 (Kd.R_lt (by (with_reducible repeat (first | apply Kd.R_alloc | apply Kd.R_drewN | apply Kd.R_drew)); exact (Kd.R_mono (Kd.R_far (p := ⟨gb442, 1, none⟩) (Kd.R_far (p := ⟨gb442, 0, none⟩) (Kd.R_types HO438.out BK442.out (by decide)) (fun _ hk => hk.2) (.slice Ao45 t436.length co45)) (fun _ hk => hk.2) (.slice Ao47 t439.length co47)) (fun _ h_ => h_.1))))) (below_size (by repeat (first | (with_reducible first | exact HB.out | apply below_alloc | apply pw_below_drewN | apply below_drew1 | refine below_set ?_ GE442.out) | exact HB.out)))); have n3_ := Aside0.mk (blk_below (g := gb442) (o := .cells #[.slice Ao45 t436.length co45, .slice Ao47 t439.length co47] 28 (0, 0)) (by (with_reducible repeat (first | refine blk_drewN ?_ _ | refine blk_drew ?_ | refine blk_alloc ?_ _)); refine blk_put (cs := #[.slice Ao45 t436.length co45, .slice none 0 0]) ?_ 1 _ rfl; (with_reducible repeat (first | refine blk_drewN ?_ _ | refine blk_drew ?_ | refine blk_alloc ?_ _)); refine blk_put (cs := #[.slice none 0 0, .slice none 0 0]) ?_ 0 _ rfl; (with_reducible repeat (first | refine blk_drewN ?_ _ | refine blk_drew ?_ | refine blk_alloc ?_ _)); exact BK442.out) hb); have n4_ := Aside0.mk (below_step (by repeat (first | (with_reducible first | exact HB.out | apply below_alloc | apply pw_below_drewN | apply below_drew1 | refine below_set ?_ GE442.out) | exact HB.out)) hb); clear HO438; clear HO441; clear BK442; clear HB; have HO438 := n0_; have HO441 := n1_; have HO445 := n2_; have BK442 := n3_; have HB := n4_; clear n0_ n1_ n2_ n3_ n4_; (try clear hb); (try clear hb2); (try clear hk); (try clear hi); (try clear ho0); have hcz49_0 : w48.cell? ⟨gb442, 0, none⟩ = some (.slice Ao45 t436.length co45) := (blk_cell BK442.out 0).trans rfl; have hcz49_1 : w48.cell? ⟨gb442, 1, none⟩ = some (.slice Ao47 t439.length co47) := (blk_cell BK442.out 1).trans rfl; have hfz49_0 := blk_frozen BK442.out 0; have hfz49_1 := blk_frozen BK442.out 1) | (go_at_call 30; (with_reducible refine (spec_ChancesClasses.calls k _ _ t436 _ _ t439 t446 _ ?side1 ?side2 ?side3 ?side4 A5.out).mono ?_); (case side1 => repeat (first | exact (Kd.R_reads' HO438.out).2.2 | (with_reducible refine Kd.C_alloc ?_ _) | (with_reducible refine Kd.C_drewN ?_ _) | (with_reducible refine Kd.C_drew ?_))); (case side2 => exact (Kd.R_reads' HO438.out).2.1); (case side3 => repeat (first | exact (Kd.N_reads' HO441.out).2.2 | (with_reducible refine Kd.C_alloc ?_ _) | (with_reducible refine Kd.C_drewN ?_ _) | (with_reducible refine Kd.C_drew ?_))); (case side4 => exact (Kd.N_reads' HO441.out).2.1); rintro e w50 ⟨v447, rfl, ho0, hb⟩; have n0_ := Aside0.mk (Kd.R_elder' (by (with_reducible repeat (first | apply Kd.R_alloc | apply Kd.R_drewN | apply Kd.R_drew)); exact HO438.out) (Kd.R_base ho0) hb); have n1_ := Aside0.mk (Kd.N_elder' (by (with_reducible repeat (first | apply Kd.N_alloc | apply Kd.N_drewN | apply Kd.N_drew)); exact HO441.out) (Kd.R_base ho0) hb); have n2_ := Aside0.mk (Kd.R_elder' (by (with_reducible repeat (first | apply Kd.R_alloc | apply Kd.R_drewN | apply Kd.R_drew)); exact HO445.out) (Kd.R_base ho0) hb); have n3_ := Aside0.mk (Kd.R_lower (Kd.R_new' (Kd.R_new' ho0 (Kd.R_lt (by (with_reducible repeat (first | apply Kd.R_alloc | apply Kd.R_drewN | apply Kd.R_drew)); exact HO438.out))) (Kd.R_lt (by (with_reducible repeat (first | apply Kd.R_alloc | apply Kd.R_drewN | apply Kd.R_drew)); exact HO445.out))) (below_size (by repeat (first | (with_reducible first | exact HB.out | apply below_alloc | apply pw_below_drewN | apply below_drew1 | refine below_set ?_ GE442.out) | exact HB.out)))); have n4_ := Aside0.mk (blk_below (g := gb442) (o := .cells #[.slice Ao45 t436.length co45, .slice Ao47 t439.length co47] 28 (0, 0)) (by (with_reducible repeat (first | refine blk_drewN ?_ _ | refine blk_drew ?_ | refine blk_alloc ?_ _)); exact BK442.out) hb); have n5_ := Aside0.mk (below_step (by repeat (first | (with_reducible first | exact HB.out | apply below_alloc | apply pw_below_drewN | apply below_drew1 | refine below_set ?_ GE442.out) | exact HB.out)) hb); clear HO438; clear HO441; clear HO445; clear BK442; clear HB; have HO438 := n0_; have HO441 := n1_; have HO445 := n2_; have HO448 := n3_; have BK442 := n4_; have HB := n5_; clear n0_ n1_ n2_ n3_ n4_ n5_; (try clear hb); (try clear hb2); (try clear hk); (try clear hi); (try clear ho0); obtain ⟨Ao51, co51, eo51⟩ := Kd.R_slice HO445.out; subst eo51; obtain ⟨Ao52, co52, eo52⟩ := Kd.R_slice HO448.out; subst eo52) | (go_at_call 24; (with_reducible refine (laws_mnInts.calls k _ _ t443 _ _ t446 false _ ?side1 ?side2 ?side3 ?side4 A6.out).mono ?_); (case side1 => repeat (first | exact (Kd.R_reads' HO445.out).2.2 | (with_reducible refine Kd.C_alloc ?_ _) | (with_reducible refine Kd.C_drewN ?_ _) | (with_reducible refine Kd.C_drew ?_))); (case side2 => exact (Kd.R_reads' HO445.out).2.1); (case side3 => repeat (first | exact (Kd.R_reads' HO448.out).2.2 | (with_reducible refine Kd.C_alloc ?_ _) | (with_reducible refine Kd.C_drewN ?_ _) | (with_reducible refine Kd.C_drew ?_))); (case side4 => exact (Kd.R_reads' HO448.out).2.1); rintro e w' ⟨rfl, ⟨nd, rfl⟩⟩; (try first | exact ⟨rfl, _, World.drewN_drewN _ _ _⟩ | exact ⟨rfl, _, Eq.trans (World.drewN_drewN _ _ _) (congrArg (World.drewN _) (Nat.add_assoc _ _ _))⟩))); try go_wp2_with (first | (go_at_call 29; (with_reducible refine (spec_DrawChancesClasses.calls k _ _ l0 t436 t439 _ ?side1 ?side2 A3.out).mono ?_); (case side1 => repeat (first | exact HR0.out | (with_reducible refine Kd.C_alloc ?_ _) | (with_reducible refine Kd.C_drewN ?_ _) | (with_reducible refine Kd.C_drew ?_))); (case side2 => exact HC0.out); rintro e w43 ⟨v437, v440, rfl, ho0, ho1, hb⟩; have n0_ := Aside0.mk (Kd.R_lower (Kd.R_mono (ok' := fun k_ => True) ho0 (fun _ hk_ => trivial)) (below_size (by repeat (first | (with_reducible first | exact HB.out | apply below_alloc | apply pw_below_drewN | apply below_drew1) | exact HB.out)))); have n1_ := Aside0.mk (Kd.N_lower (Kd.N_mono (ok' := fun k_ => some k_ ≠ (v437 : Value).ownBlock) ho1 (fun k_ hk_ => hk_.2)) (below_size (by repeat (first | (with_reducible first | exact HB.out | apply below_alloc | apply pw_below_drewN | apply below_drew1) | exact HB.out)))); have n2_ := Aside0.mk (below_step (by repeat (first | (with_reducible first | exact HB.out | apply below_alloc | apply pw_below_drewN | apply below_drew1) | exact HB.out)) hb); clear HB; have HO438 := n0_; have HO441 := n1_; have HB := n2_; clear n0_ n1_ n2_; (try clear hb); (try clear hb2); (try clear hk); (try clear hi); (try clear ho0); (try clear ho1)) | ((with_reducible refine gate_dst (N := 3) rfl ?_); refine box_event ?hg (N := 3) ?hd (cs := #[.slice none 0 0, .slice none 0 0]) (t := 28) ?hr ?_; (case hd => rfl); (case hg => rfl); (case hr => first | (go_simp; done) | (go_simp; rfl)); intro gb442 hg w44 hbox hb; have n0_ := Aside0.mk (Kd.R_below (by (with_reducible repeat (first | apply Kd.R_alloc | apply Kd.R_drewN | apply Kd.R_drew)); exact HO438.out) hb); have n1_ := Aside0.mk (Kd.N_below (Kd.N_elderB (by (with_reducible repeat (first | apply Kd.N_alloc | apply Kd.N_drewN | apply Kd.N_drew)); exact HO441.out) gb442 (Nat.le_of_eq hg.symm)) hb); have n2_ := Aside0.mk (below_step (by repeat (first | (with_reducible first | exact HB.out | apply below_alloc | apply pw_below_drewN | apply below_drew1) | exact HB.out)) hb); have n3_ := Aside0.mk (hbox); have n4_ := Aside0.mk ((by rw [hg]; exact (below_size (by repeat (first | (with_reducible first | exact HB.out | apply below_alloc | apply pw_below_drewN | apply below_drew1) | exact HB.out))) : w.heap.size ≤ gb442)); have n5_ := Aside0.mk ((by rw [hg]; exact (below_size (by repeat (first | (with_reducible first | exact HB.out | apply below_alloc | apply pw_below_drewN | apply below_drew1) | exact HB.out))) : w.heap.size ≤ gb442)); clear HO438; clear HO441; clear HB; have HO438 := n0_; have HO441 := n1_; have HB := n2_; have BK442 := n3_; have GW442 := n4_; have GE442 := n5_; clear n0_ n1_ n2_ n3_ n4_ n5_; clear hb hbox hg; obtain ⟨Ao45, co45, eo45⟩ := Kd.R_slice HO438.out; subst eo45; have hcz46_0 : w44.cell? ⟨gb442, 0, none⟩ = some (.slice none 0 0) := (blk_cell BK442.out 0).trans rfl; have hcz46_1 : w44.cell? ⟨gb442, 1, none⟩ = some (.slice none 0 0) := (blk_cell BK442.out 1).trans rfl; have hfz46_0 := blk_frozen BK442.out 0; have hfz46_1 := blk_frozen BK442.out 1; obtain ⟨Ao47, co47, eo47⟩ := Kd.N_slice HO441.out; subst eo47) | (go_at_call 20; (with_reducible refine (impl_ChancesClasses.calls k _ _ t436 _ _ t439 t443 _ ?side1 ?side2 ?side3 ?side4 A4.out).mono ?_); (case side1 => refine (Kd.R_reads' (e := 3) (base := w.heap.size) (ok := fun k_ => True) (n := t436.length) (c := co45) ?_).2.2; exact (by (with_reducible repeat (first | apply Kd.R_alloc | apply Kd.R_drewN | apply Kd.R_drew)); exact (Kd.R_mono (Kd.R_far (p := ⟨gb442, 1, none⟩) (Kd.R_far (p := ⟨gb442, 0, none⟩) (Kd.R_types HO438.out BK442.out (by decide)) (fun _ hk => hk.2) (.slice Ao45 t436.length co45)) (fun _ hk => hk.2) (.slice Ao47 t439.length co47)) (fun _ h_ => h_.1)))); (case side2 => exact (Kd.R_reads' HO438.out).2.1); (case side3 => refine (Kd.N_reads' (e := 22) (base := w.heap.size) (ok := fun k_ => (some k_ ≠ (.slice Ao45 t436.length co45 : Value).ownBlock ∧ k_ ≠ gb442)) (n := t439.length) (c := co47) ?_).2.2; exact (by (with_reducible repeat (first | apply Kd.N_alloc | apply Kd.N_drewN | apply Kd.N_drew)); exact (Kd.N_mono (Kd.N_far (p := ⟨gb442, 1, none⟩) (Kd.N_far (p := ⟨gb442, 0, none⟩) (Kd.N_mono HO441.out (fun k_ hk => (⟨hk, hk.2⟩ : _ ∧ k_ ≠ gb442))) (fun _ hk => hk.2) (.slice Ao45 t436.length co45)) (fun _ hk => hk.2) (.slice Ao47 t439.length co47)) (fun _ h_ => h_.1)))); (case side4 => exact (Kd.N_reads' HO441.out).2.1); rintro e w48 ⟨v444, rfl, ho0, hb⟩; have n0_ := Aside0.mk (Kd.R_elder' (by (with_reducible repeat (first | apply Kd.R_alloc | apply Kd.R_drewN | apply Kd.R_drew)); exact (Kd.R_mono (Kd.R_far (p := ⟨gb442, 1, none⟩) (Kd.R_far (p := ⟨gb442, 0, none⟩) (Kd.R_types HO438.out BK442.out (by decide)) (fun _ hk => hk.2) (.slice Ao45 t436.length co45)) (fun _ hk => hk.2) (.slice Ao47 t439.length co47)) (fun _ h_ => h_.1))) (Kd.R_base ho0) hb); have n1_ := Aside0.mk (Kd.N_elder' (by (with_reducible repeat (first | apply Kd.N_alloc | apply Kd.N_drewN | apply Kd.N_drew)); exact (Kd.N_mono (Kd.N_far (p := ⟨gb442, 1, none⟩) (Kd.N_far (p := ⟨gb442, 0, none⟩) (Kd.N_mono HO441.out (fun k_ hk => (⟨hk, hk.2⟩ : _ ∧ k_ ≠ gb442))) (fun _ hk => hk.2) (.slice Ao45 t436.length co45)) (fun _ hk => hk.2) (.slice Ao47 t439.length co47)) (fun _ h_ => h_.1))) (Kd.R_base ho0) hb); have n2_ := Aside0.mk (Kd.R_lower (Kd.R_new' ho0 (Kd.R_lt (by (with_reducible repeat (first | apply Kd.R_alloc | apply Kd.R_drewN | apply Kd.R_drew)); exact (Kd.R_mono (Kd.R_far (p := ⟨gb442, 1, none⟩) (Kd.R_far (p := ⟨gb442, 0, none⟩) (Kd.R_types HO438.out BK442.out (by decide)) (fun _ hk => hk.2) (.slice Ao45 t436.length co45)) (fun _ hk => hk.2) (.slice Ao47 t439.length co47)) (fun _ h_ => h_.1))))) (below_size (by repeat (first | (with_reducible first | exact HB.out | apply below_alloc | apply pw_below_drewN | apply below_drew1 | refine below_set ?_ GE442.out) | exact HB.out)))); have n3_ := Aside0.mk (blk_below (g := gb442) (o := .cells #[.slice Ao45 t436.length co45, .slice Ao47 t439.length co47] 28 (0, 0)) (by (with_reducible repeat (first | refine blk_drewN ?_ _ | refine blk_drew ?_ | refine blk_alloc ?_ _)); refine blk_put (cs := #[.slice Ao45 t436.length co45, .slice none 0 0]) ?_ 1 _ rfl; (with_reducible repeat (first | refine blk_drewN ?_ _ | refine blk_drew ?_ | refine blk_alloc ?_ _)); refine blk_put (cs := #[.slice none 0 0, .slice none 0 0]) ?_ 0 _ rfl; (with_reducible repeat (first | refine blk_drewN ?_ _ | refine blk_drew ?_ | refine blk_alloc ?_ _)); exact BK442.out) hb); have n4_ := Aside0.mk (below_step (by repeat (first | (with_reducible first | exact HB.out | apply below_alloc | apply pw_below_drewN | apply below_drew1 | refine below_set ?_ GE442.out) | exact HB.out)) hb); clear HO438; clear HO441; clear BK442; clear HB; have HO438 := n0_; have HO441 := n1_; have HO445 := n2_; have BK442 := n3_; have HB := n4_; clear n0_ n1_ n2_ n3_ n4_; (try clear hb); (try clear hb2); (try clear hk); (try clear hi); (try clear ho0); have hcz49_0 : w48.cell? ⟨gb442, 0, none⟩ = some (.slice Ao45 t436.length co45) := (blk_cell BK442.out 0).trans rfl; have hcz49_1 : w48.cell? ⟨gb442, 1, none⟩ = some (.slice Ao47 t439.length co47) := (blk_cell BK442.out 1).trans rfl; have hfz49_0 := blk_frozen BK442.out 0; have hfz49_1 := blk_frozen BK442.out 1) | (go_at_call 30; (with_reducible refine (spec_ChancesClasses.calls k _ _ t436 _ _ t439 t446 _ ?side1 ?side2 ?side3 ?side4 A5.out).mono ?_); (case side1 => repeat (first | exact (Kd.R_reads' HO438.out).2.2 | (with_reducible refine Kd.C_alloc ?_ _) | (with_reducible refine Kd.C_drewN ?_ _) | (with_reducible refine Kd.C_drew ?_))); (case side2 => exact (Kd.R_reads' HO438.out).2.1); (case side3 => repeat (first | exact (Kd.N_reads' HO441.out).2.2 | (with_reducible refine Kd.C_alloc ?_ _) | (with_reducible refine Kd.C_drewN ?_ _) | (with_reducible refine Kd.C_drew ?_))); (case side4 => exact (Kd.N_reads' HO441.out).2.1); rintro e w50 ⟨v447, rfl, ho0, hb⟩; have n0_ := Aside0.mk (Kd.R_elder' (by (with_reducible repeat (first | apply Kd.R_alloc | apply Kd.R_drewN | apply Kd.R_drew)); exact HO438.out) (Kd.R_base ho0) hb); have n1_ := Aside0.mk (Kd.N_elder' (by (with_reducible repeat (first | apply Kd.N_alloc | apply Kd.N_drewN | apply Kd.N_drew)); exact HO441.out) (Kd.R_base ho0) hb); have n2_ := Aside0.mk (Kd.R_elder' (by (with_reducible repeat (first | apply Kd.R_alloc | apply Kd.R_drewN | apply Kd.R_drew)); exact HO445.out) (Kd.R_base ho0) hb); have n3_ := Aside0.mk (Kd.R_lower (Kd.R_new' (Kd.R_new' ho0 (Kd.R_lt (by (with_reducible repeat (first | apply Kd.R_alloc | apply Kd.R_drewN | apply Kd.R_drew)); exact HO438.out))) (Kd.R_lt (by (with_reducible repeat (first | apply Kd.R_alloc | apply Kd.R_drewN | apply Kd.R_drew)); exact HO445.out))) (below_size (by repeat (first | (with_reducible first | exact HB.out | apply below_alloc | apply pw_below_drewN | apply below_drew1 | refine below_set ?_ GE442.out) | exact HB.out)))); have n4_ := Aside0.mk (blk_below (g := gb442) (o := .cells #[.slice Ao45 t436.length co45, .slice Ao47 t439.length co47] 28 (0, 0)) (by (with_reducible repeat (first | refine blk_drewN ?_ _ | refine blk_drew ?_ | refine blk_alloc ?_ _)); exact BK442.out) hb); have n5_ := Aside0.mk (below_step (by repeat (first | (with_reducible first | exact HB.out | apply below_alloc | apply pw_below_drewN | apply below_drew1 | refine below_set ?_ GE442.out) | exact HB.out)) hb); clear HO438; clear HO441; clear HO445; clear BK442; clear HB; have HO438 := n0_; have HO441 := n1_; have HO445 := n2_; have HO448 := n3_; have BK442 := n4_; have HB := n5_; clear n0_ n1_ n2_ n3_ n4_ n5_; (try clear hb); (try clear hb2); (try clear hk); (try clear hi); (try clear ho0); obtain ⟨Ao51, co51, eo51⟩ := Kd.R_slice HO445.out; subst eo51; obtain ⟨Ao52, co52, eo52⟩ := Kd.R_slice HO448.out; subst eo52) | (go_at_call 24; (with_reducible refine (laws_mnInts.calls k _ _ t443 _ _ t446 false _ ?side1 ?side2 ?side3 ?side4 A6.out).mono ?_); (case side1 => repeat (first | exact (Kd.R_reads' HO445.out).2.2 | (with_reducible refine Kd.C_alloc ?_ _) | (with_reducible refine Kd.C_drewN ?_ _) | (with_reducible refine Kd.C_drew ?_))); (case side2 => exact (Kd.R_reads' HO445.out).2.1); (case side3 => repeat (first | exact (Kd.R_reads' HO448.out).2.2 | (with_reducible refine Kd.C_alloc ?_ _) | (with_reducible refine Kd.C_drewN ?_ _) | (with_reducible refine Kd.C_drew ?_))); (case side4 => exact (Kd.R_reads' HO448.out).2.1); rintro e w' ⟨rfl, ⟨nd, rfl⟩⟩; (try first | exact ⟨rfl, _, World.drewN_drewN _ _ _⟩ | exact ⟨rfl, _, Eq.trans (World.drewN_drewN _ _ _) (congrArg (World.drewN _) (Nat.add_assoc _ _ _))⟩))))
   go_ret
   exact ⟨by first | rfl | (simp [errW_none, errW_some] <;> rfl) | (simp [*, errW_none, errW_some] <;> rfl), by repeat (first | (with_reducible first | exact HB.out | apply below_alloc | apply pw_below_drewN | apply below_drew1 | refine below_set ?_ GE442.out) | exact HB.out)⟩
def laws_FnChancesClasses.Pure : Prop := ∀ (l0 : List Int), l0.length ≤ maxLen → l0.length * 1 ≤ 140737488351232 → (∀ x ∈ l0, (Lit.int .u8 x).wf = true) → ∃ k, laws_FnChancesClasses.f k l0 = some true
theorem laws_FnChancesClasses.walk (P : laws_FnChancesClasses.Pure) (a0 : Option Addr) (len0 cap0 : Nat) (z0 : List Int) (w : World) (w0 : (a0 = none ∧ len0 = 0 ∧ cap0 = 0 ∧ z0 = []) ∨ ∃ x, a0 = some x ∧ len0 ≤ cap0 ∧ cap0 ≤ maxLen ∧ z0.length = cap0 ∧ (∀ i, i < z0.length → w.cell? (x.add i) = some (.int .u8 (z0.getD i 0))) ∧ ∀ n ∈ z0, (Lit.int .u8 n).wf = true) (y0 : len0 * 1 ≤ 140737488351232) :
  Calls Try.prog 7 #[.slice a0 len0 cap0] w fun e w' => e = .returned (.bool true) ∧ Below w.heap.size w w' := by
 obtain ⟨l0, rfl, hr0, hm0, hw0, hc0⟩ := ReadsInt.ofRowC w0
 obtain ⟨k, h⟩ := P l0 hm0 y0 hw0
 refine (laws_FnChancesClasses.calls k _ _ l0 true w (Kd.C_of_reads (d := (0 : Int)) (h1 := fun _ => rfl) hr0) hc0 h).mono ?_
 rintro e w' ⟨rfl, hd⟩
 exact ⟨rfl, hd⟩
end Go.Proofs.Ytablnoddkllhmaa.P
