/- What the Go functions that the laws reach compute, and that their calls come to just that: told by a program of this session (aprint.py). No condition. -/
import Derived.Test.YtnkgcjdlfenepaaP0
import Derived.Test.YtnkgcjdlfenepaaP2
import Derived.Test.YtnkgcjdlfenepaaP3
import Derived.Test.YtnkgcjdlfenepaaHPass
import Derived.Test.YtnkgcjdlfenepaaCut
namespace Go.Proofs.Ytnkgcjdlfenepaa.P
open Go.RowKit Go.Proofs.YtnkgcjdlfenepaaW.PrintWords Go.Proofs.YtnkgcjdlfenepaaW.PrintLast Go.Proofs.YtnkgcjdlfenepaaW.PrintMore
attribute [local go_sem] max2_int min2_int max_two min_two max_three min_three max_four min_four
set_option linter.unusedVariables false
set_option linter.unusedSimpArgs false
def laws_eqClock.body (g:List (S29) → List (S29) → Option (Bool)) (a0_0:Int) (a0_1:Int) (l0_2:List (S29)) (a1_0:Int) (a1_1:Int) (l1_2:List (S29)):Option (Bool):=if a0_0 = a1_0 then (if a0_1 = a1_1 then ((g l0_2 l1_2).bind fun t168=>(if t168 = true then (some true) else (some false))) else (some false)) else (some false)
theorem laws_eqClock.body_mono {g g':List (S29) → List (S29) → Option (Bool)} (hg:∀ y0 y1,LeO (g y0 y1) (g' y0 y1)):∀ a0_0 a0_1 l0_2 a1_0 a1_1 l1_2,LeO (laws_eqClock.body g a0_0 a0_1 l0_2 a1_0 a1_1 l1_2) (laws_eqClock.body g' a0_0 a0_1 l0_2 a1_0 a1_1 l1_2):=by
 intro a0_0 a0_1 l0_2 a1_0 a1_1 l1_2
 unfold laws_eqClock.body
 repeat' first
   | (with_reducible exact hg _ _)
   | (with_reducible exact LeO.refl _)
   | (with_reducible exact LeO.none _)
   | (with_reducible refine LeO.ite ?_ ?_)
   | (with_reducible refine LeO.bind ?_ (fun _=>?_))
   | exact hg _ _
   | exact LeO.none _
   | refine LeO.ite ?_ ?_
   | refine LeO.bind ?_ (fun _=>?_)
mutual
def laws_eqClockS.l0:Nat → List (S29) → List (S29) → Int → Option (Bool)
 | 0,_,_,_=>none
 | k + 1,x0,x1,x5=>if x5 < (x0.length:Int) then (if 0 ≤ x5 then (if x5 < (x1.length:Int) then ((laws_eqClock.body (fun y0 y1=>laws_eqClockS.f k y0 y1) ((rd_T29 x0 x5).f0) ((rd_T29 x0 x5).f1) ((rd_T29 x0 x5).f2) ((rd_T29 x1 x5).f0) ((rd_T29 x1 x5).f1) ((rd_T29 x1 x5).f2)).bind fun t165=>(if t165 = true then (laws_eqClockS.l0 k x0 x1 (wrap64 (x5 + 1))) else (some false))) else (none)) else (none)) else (some true)
def laws_eqClockS.f:Nat → List (S29) → List (S29) → Option (Bool)
 | 0,_,_=>none
 | k + 1,l0,l1=>if (l0.length:Int) = (l1.length:Int) then (laws_eqClockS.l0 k l0 l1 0) else (some false)
end
abbrev laws_eqClock.f (k:Nat) (a0_0:Int) (a0_1:Int) (l0_2:List (S29)) (a1_0:Int) (a1_1:Int) (l1_2:List (S29)):Option (Bool):=laws_eqClock.body (fun y0 y1=>laws_eqClockS.f k y0 y1) a0_0 a0_1 l0_2 a1_0 a1_1 l1_2
theorem laws_eqClockS.mono_l:∀ k,(∀ y0 y1,LeO (laws_eqClockS.f k y0 y1) (laws_eqClockS.f (k + 1) y0 y1))∧(∀ y0 y1 y2,LeO (laws_eqClockS.l0 k y0 y1 y2) (laws_eqClockS.l0 (k + 1) y0 y1 y2))
 | 0=>⟨fun _ _ r h=>by simp [laws_eqClockS.f] at h,fun _ _ _ r h=>by simp [laws_eqClockS.l0] at h⟩
 | k + 1=>by
  obtain ⟨ih0,ih1⟩:=laws_eqClockS.mono_l k
  refine ⟨?_,?_⟩
  ·intro y0 y1
   unfold laws_eqClockS.f
   repeat' first
   | (with_reducible exact ih0 _ _)
   | (with_reducible exact ih1 _ _ _)
   | (with_reducible exact laws_eqClock.body_mono (fun y0 y1=>ih0 y0 y1) _ _ _ _ _ _)
   | (with_reducible exact LeO.refl _)
   | (with_reducible exact LeO.none _)
   | (with_reducible refine LeO.ite ?_ ?_)
   | (with_reducible refine LeO.bind ?_ (fun _=>?_))
   | exact ih0 _ _
   | exact ih1 _ _ _
   | exact LeO.none _
   | refine LeO.ite ?_ ?_
   | refine LeO.bind ?_ (fun _=>?_)
  ·intro y0 y1 y2
   unfold laws_eqClockS.l0
   repeat' first
   | (with_reducible exact ih0 _ _)
   | (with_reducible exact ih1 _ _ _)
   | (with_reducible exact laws_eqClock.body_mono (fun y0 y1=>ih0 y0 y1) _ _ _ _ _ _)
   | (with_reducible exact LeO.refl _)
   | (with_reducible exact LeO.none _)
   | (with_reducible refine LeO.ite ?_ ?_)
   | (with_reducible refine LeO.bind ?_ (fun _=>?_))
   | exact ih0 _ _
   | exact ih1 _ _ _
   | exact LeO.none _
   | refine LeO.ite ?_ ?_
   | refine LeO.bind ?_ (fun _=>?_)
theorem laws_eqClockS.mono:∀ a0 a1 k,LeO (laws_eqClockS.f k a0 a1) (laws_eqClockS.f (k + 1) a0 a1):=by
 intro a0 a1 k
 obtain ⟨ih0,ih1⟩:=laws_eqClockS.mono_l k
 exact ih0 a0 a1
def laws_eqClockS.T6:Bool × List (List Nat × List Nat):=(true,[([],[]),([],[]),([0,1],[0,1]),([2],[2]),([],[]),([],[]),([4,5],[4,5]),([6],[6]),([3,7],[3,7]),([8],[8])])
def laws_eqClockS.B6:List Nat:=[0,0,3,7,0,0,48,112,255,511]
theorem laws_eqClockS.tab6:rtab .any (opsOf Try.f44 6) = laws_eqClockS.T6:=by kernel_rfl
theorem laws_eqClockS.bits6:waitsOk laws_eqClockS.T6.2 laws_eqClockS.B6 = true:=by kernel_rfl
theorem laws_eqClock.mono:∀ a0_0 a0_1 l0_2 a1_0 a1_1 l1_2 k,LeO (laws_eqClock.f k a0_0 a0_1 l0_2 a1_0 a1_1 l1_2) (laws_eqClock.f (k + 1) a0_0 a0_1 l0_2 a1_0 a1_1 l1_2):=fun a0_0 a0_1 l0_2 a1_0 a1_1 l1_2 k=>laws_eqClock.body_mono (fun y0 y1=>laws_eqClockS.mono y0 y1 k) a0_0 a0_1 l0_2 a1_0 a1_1 l1_2
abbrev laws_eqClockS.Con (k:Nat):Prop:=∀ (A0:Option Addr) (c0:Nat) (l0:List (S29)) (A1:Option Addr) (c1:Nat) (l1:List (S29)) (r:Bool) (w:World) (hr0:Kd.C k29 w A0 l0.length l0) (hc0:l0.length ≤ c0) (hr1:Kd.C k29 w A1 l1.length l1) (hc1:l1.length ≤ c1) (h:laws_eqClockS.f k l0 l1 = some r),
  Calls Try.prog 44 #[.slice A0 l0.length c0,.slice A1 l1.length c1] w fun e w'=>e = .returned (.bool r)∧Below w.heap.size w w'
set_option maxHeartbeats 8000000 in
set_option maxRecDepth 100000 in
theorem laws_eqClock.calls_of (k:Nat) (ihS:∀ j_,j_ ≤ k → laws_eqClockS.Con j_) (a0_0:Int) (a0_1:Int) (A0_2:Option Addr) (c0_2:Nat) (l0_2:List (S29)) (a1_0:Int) (a1_1:Int) (A1_2:Option Addr) (c1_2:Nat) (l1_2:List (S29)) (r:Bool) (w:World) (hr0_2:Kd.C k29 w A0_2 l0_2.length l0_2) (hc0_2:l0_2.length ≤ c0_2) (hr1_2:Kd.C k29 w A1_2 l1_2.length l1_2) (hc1_2:l1_2.length ≤ c1_2) (h:laws_eqClock.f k a0_0 a0_1 l0_2 a1_0 a1_1 l1_2 = some r) :
  Calls Try.prog 17 #[.agg #[.int .i64 a0_0,.int .i64 a0_1,.slice A0_2 l0_2.length c0_2],.agg #[.int .i64 a1_0,.int .i64 a1_1,.slice A1_2 l1_2.length c1_2]] w fun e w'=>e = .returned (.bool r)∧Below w.heap.size w w':=by
 have hu29:=Try.underlying29
 have HR0_2:=aQ hr0_2
 have HC0_2:=aQ hc0_2
 clear hr0_2 hc0_2
 have HR1_2:=aQ hr1_2
 have HC1_2:=aQ hc1_2
 clear hr1_2 hc1_2
 have HB:=aQ (Below.refl w.heap.size w)
 have H:(if a0_0 = a1_0 then (if a0_1 = a1_1 then ((laws_eqClockS.f k l0_2 l1_2).bind fun t168=>(if t168 = true then (some true) else (some false))) else (some false)) else (some false)) = some r:=h
 clear h
 by_cases c3:a0_0 = a1_0;rotate_left
 ·rw [if_neg c3] at H
  have c3b0:(a0_0 == a1_0) = false:=beq_eq_false_iff_ne.mpr c3
  have c3b1:(a0_0 != a1_0) = true:=bne_iff_ne.mpr c3
  obtain rfl:=Option.some.inj H
  go_enter Try.func17,Try.ntmps17
  go_wp2_with (first | ((with_reducible refine gate_dst (N:=2) rfl ?_);refine box1 (N:=2) (cs:=#[.int .i64 a0_0,.int .i64 a0_1,.slice A0_2 l0_2.length c0_2]) (t:=29) ?_;intro gb166 hg w24 hbox hb;have BK166:=aQ (hbox);have GW166:=aQ ((by rw [hg];exact (below_size bB):w.heap.size ≤ gb166));have GE166:=aQ ((by rw [hg];exact (below_size bB):w.heap.size ≤ gb166));replace HB:=aQ (below_step bB hb);clear hb hbox hg) | ((with_reducible refine gate_dst (N:=3) rfl ?_);refine box1 (N:=3) (cs:=#[.int .i64 a1_0,.int .i64 a1_1,.slice A1_2 l1_2.length c1_2]) (t:=29) ?_;intro gb167 hg w25 hbox hb;have BK167:=aQ (hbox);have GW167:=aQ ((by rw [hg];exact (below_size bB):w.heap.size ≤ gb167));have GE167:=aQ ((by rw [hg];exact (below_size bB):w.heap.size ≤ gb167));replace HB:=aQ (below_step bB hb);have NB166_167:=aQ ((by rw [hg];exact Nat.ne_of_lt (blk_lt (g:=gb166) (o:=.cells #[.int .i64 a0_0,.int .i64 a0_1,.slice A0_2 l0_2.length c0_2] 29 (0,0)) (nB BK166.out)):gb166 ≠ gb167));have NB167_166:=aQ ((by rw [hg];exact Nat.ne_of_gt (blk_lt (g:=gb166) (o:=.cells #[.int .i64 a0_0,.int .i64 a0_1,.slice A0_2 l0_2.length c0_2] 29 (0,0)) (nB BK166.out)):gb167 ≠ gb166));replace BK166:=aQ (blk_below (g:=gb166) (o:=.cells #[.int .i64 a0_0,.int .i64 a0_1,.slice A0_2 l0_2.length c0_2] 29 (0,0)) (nB BK166.out) hb);clear hb hbox hg;have hnb26:=NB166_167.out;have hnc26:=NB167_166.out;have hcz27_0:w25.cell? ⟨gb166,0,none⟩ = some (.int .i64 a0_0):=(blk_cell BK166.out 0).trans rfl;have hcz27_1:w25.cell? ⟨gb166,1,none⟩ = some (.int .i64 a0_1):=(blk_cell BK166.out 1).trans rfl;have hcz27_2:w25.cell? ⟨gb166,2,none⟩ = some (.slice A0_2 l0_2.length c0_2):=(blk_cell BK166.out 2).trans rfl;have hfz27_0:=blk_frozen BK166.out 0;have hfz27_1:=blk_frozen BK166.out 1;have hfz27_2:=blk_frozen BK166.out 2;have hcz28_0:w25.cell? ⟨gb167,0,none⟩ = some (.int .i64 a1_0):=(blk_cell BK167.out 0).trans rfl;have hcz28_1:w25.cell? ⟨gb167,1,none⟩ = some (.int .i64 a1_1):=(blk_cell BK167.out 1).trans rfl;have hcz28_2:w25.cell? ⟨gb167,2,none⟩ = some (.slice A1_2 l1_2.length c1_2):=(blk_cell BK167.out 2).trans rfl;have hfz28_0:=blk_frozen BK167.out 0;have hfz28_1:=blk_frozen BK167.out 1;have hfz28_2:=blk_frozen BK167.out 2))
  go_ret
  exact ⟨rfl,bB⟩
 rw [if_pos c3] at H
 have c3b0:(a0_0 == a1_0) = true:=beq_iff_eq.mpr c3
 have c3b1:(a0_0 != a1_0) = false:=bne_eq_false_iff_eq.mpr c3
 clear c3
 by_cases c4:a0_1 = a1_1;rotate_left
 ·rw [if_neg c4] at H
  have c4b0:(a0_1 == a1_1) = false:=beq_eq_false_iff_ne.mpr c4
  have c4b1:(a0_1 != a1_1) = true:=bne_iff_ne.mpr c4
  obtain rfl:=Option.some.inj H
  go_enter Try.func17,Try.ntmps17
  go_wp2_with (first | ((with_reducible refine gate_dst (N:=2) rfl ?_);refine box1 (N:=2) (cs:=#[.int .i64 a0_0,.int .i64 a0_1,.slice A0_2 l0_2.length c0_2]) (t:=29) ?_;intro gb166 hg w19 hbox hb;have BK166:=aQ (hbox);have GW166:=aQ ((by rw [hg];exact (below_size bB):w.heap.size ≤ gb166));have GE166:=aQ ((by rw [hg];exact (below_size bB):w.heap.size ≤ gb166));replace HB:=aQ (below_step bB hb);clear hb hbox hg) | ((with_reducible refine gate_dst (N:=3) rfl ?_);refine box1 (N:=3) (cs:=#[.int .i64 a1_0,.int .i64 a1_1,.slice A1_2 l1_2.length c1_2]) (t:=29) ?_;intro gb167 hg w20 hbox hb;have BK167:=aQ (hbox);have GW167:=aQ ((by rw [hg];exact (below_size bB):w.heap.size ≤ gb167));have GE167:=aQ ((by rw [hg];exact (below_size bB):w.heap.size ≤ gb167));replace HB:=aQ (below_step bB hb);have NB166_167:=aQ ((by rw [hg];exact Nat.ne_of_lt (blk_lt (g:=gb166) (o:=.cells #[.int .i64 a0_0,.int .i64 a0_1,.slice A0_2 l0_2.length c0_2] 29 (0,0)) (nB BK166.out)):gb166 ≠ gb167));have NB167_166:=aQ ((by rw [hg];exact Nat.ne_of_gt (blk_lt (g:=gb166) (o:=.cells #[.int .i64 a0_0,.int .i64 a0_1,.slice A0_2 l0_2.length c0_2] 29 (0,0)) (nB BK166.out)):gb167 ≠ gb166));replace BK166:=aQ (blk_below (g:=gb166) (o:=.cells #[.int .i64 a0_0,.int .i64 a0_1,.slice A0_2 l0_2.length c0_2] 29 (0,0)) (nB BK166.out) hb);clear hb hbox hg;have hnb21:=NB166_167.out;have hnc21:=NB167_166.out;have hcz22_0:w20.cell? ⟨gb166,0,none⟩ = some (.int .i64 a0_0):=(blk_cell BK166.out 0).trans rfl;have hcz22_1:w20.cell? ⟨gb166,1,none⟩ = some (.int .i64 a0_1):=(blk_cell BK166.out 1).trans rfl;have hcz22_2:w20.cell? ⟨gb166,2,none⟩ = some (.slice A0_2 l0_2.length c0_2):=(blk_cell BK166.out 2).trans rfl;have hfz22_0:=blk_frozen BK166.out 0;have hfz22_1:=blk_frozen BK166.out 1;have hfz22_2:=blk_frozen BK166.out 2;have hcz23_0:w20.cell? ⟨gb167,0,none⟩ = some (.int .i64 a1_0):=(blk_cell BK167.out 0).trans rfl;have hcz23_1:w20.cell? ⟨gb167,1,none⟩ = some (.int .i64 a1_1):=(blk_cell BK167.out 1).trans rfl;have hcz23_2:w20.cell? ⟨gb167,2,none⟩ = some (.slice A1_2 l1_2.length c1_2):=(blk_cell BK167.out 2).trans rfl;have hfz23_0:=blk_frozen BK167.out 0;have hfz23_1:=blk_frozen BK167.out 1;have hfz23_2:=blk_frozen BK167.out 2))
  go_ret
  exact ⟨eW,bB⟩
 rw [if_pos c4] at H
 have c4b0:(a0_1 == a1_1) = true:=beq_iff_eq.mpr c4
 have c4b1:(a0_1 != a1_1) = false:=bne_eq_false_iff_eq.mpr c4
 clear c4
 obtain ⟨t168,A5,H⟩:=bQ H
 (try dsimp only at H)
 by_cases c6:t168 = true
 ·subst c6
  have H1:(some true) = some r:=by rw [if_pos rfl] at H;exact H
  clear H
  have H:=H1
  clear H1
  obtain rfl:=Option.some.inj H
  go_enter Try.func17,Try.ntmps17
  go_wp2_with (first | ((with_reducible refine gate_dst (N:=2) rfl ?_);refine box1 (N:=2) (cs:=#[.int .i64 a0_0,.int .i64 a0_1,.slice A0_2 l0_2.length c0_2]) (t:=29) ?_;intro gb166 hg w7 hbox hb;have BK166:=aQ (hbox);have GW166:=aQ ((by rw [hg];exact (below_size bB):w.heap.size ≤ gb166));have GE166:=aQ ((by rw [hg];exact (below_size bB):w.heap.size ≤ gb166));replace HB:=aQ (below_step bB hb);clear hb hbox hg) | ((with_reducible refine gate_dst (N:=3) rfl ?_);refine box1 (N:=3) (cs:=#[.int .i64 a1_0,.int .i64 a1_1,.slice A1_2 l1_2.length c1_2]) (t:=29) ?_;intro gb167 hg w8 hbox hb;have BK167:=aQ (hbox);have GW167:=aQ ((by rw [hg];exact (below_size bB):w.heap.size ≤ gb167));have GE167:=aQ ((by rw [hg];exact (below_size bB):w.heap.size ≤ gb167));replace HB:=aQ (below_step bB hb);have NB166_167:=aQ ((by rw [hg];exact Nat.ne_of_lt (blk_lt (g:=gb166) (o:=.cells #[.int .i64 a0_0,.int .i64 a0_1,.slice A0_2 l0_2.length c0_2] 29 (0,0)) (nB BK166.out)):gb166 ≠ gb167));have NB167_166:=aQ ((by rw [hg];exact Nat.ne_of_gt (blk_lt (g:=gb166) (o:=.cells #[.int .i64 a0_0,.int .i64 a0_1,.slice A0_2 l0_2.length c0_2] 29 (0,0)) (nB BK166.out)):gb167 ≠ gb166));replace BK166:=aQ (blk_below (g:=gb166) (o:=.cells #[.int .i64 a0_0,.int .i64 a0_1,.slice A0_2 l0_2.length c0_2] 29 (0,0)) (nB BK166.out) hb);clear hb hbox hg;have hnb9:=NB166_167.out;have hnc9:=NB167_166.out;have hcz10_0:w8.cell? ⟨gb166,0,none⟩ = some (.int .i64 a0_0):=(blk_cell BK166.out 0).trans rfl;have hcz10_1:w8.cell? ⟨gb166,1,none⟩ = some (.int .i64 a0_1):=(blk_cell BK166.out 1).trans rfl;have hcz10_2:w8.cell? ⟨gb166,2,none⟩ = some (.slice A0_2 l0_2.length c0_2):=(blk_cell BK166.out 2).trans rfl;have hfz10_0:=blk_frozen BK166.out 0;have hfz10_1:=blk_frozen BK166.out 1;have hfz10_2:=blk_frozen BK166.out 2;have hcz11_0:w8.cell? ⟨gb167,0,none⟩ = some (.int .i64 a1_0):=(blk_cell BK167.out 0).trans rfl;have hcz11_1:w8.cell? ⟨gb167,1,none⟩ = some (.int .i64 a1_1):=(blk_cell BK167.out 1).trans rfl;have hcz11_2:w8.cell? ⟨gb167,2,none⟩ = some (.slice A1_2 l1_2.length c1_2):=(blk_cell BK167.out 2).trans rfl;have hfz11_0:=blk_frozen BK167.out 0;have hfz11_1:=blk_frozen BK167.out 1;have hfz11_2:=blk_frozen BK167.out 2) | ((with_reducible refine gate_callee (f:=44) rfl ?_);refine goesL_ (some 19) rfl rfl Try.func44 (by kernel_rfl) rfl #[.slice A0_2 l0_2.length c0_2,.slice A1_2 l1_2.length c1_2] rfl mP ?_;(with_reducible refine (ihS k (Nat.le_refl _) _ _ l0_2 _ _ l1_2 true _ ?side1 ?side2 ?side3 ?side4 A5.out).mono ?_);(case side1=>repeat (first | exact (Kd.C_below HR0_2.out HB.out) | (with_reducible refine Kd.C_alloc ?_ _) | (with_reducible refine Kd.C_drewN ?_ _) | (with_reducible refine Kd.C_drew ?_)));(case side2=>exact HC0_2.out);(case side3=>repeat (first | exact (Kd.C_below HR1_2.out HB.out) | (with_reducible refine Kd.C_alloc ?_ _) | (with_reducible refine Kd.C_drewN ?_ _) | (with_reducible refine Kd.C_drew ?_)));(case side4=>exact HC1_2.out);rintro e w12 ⟨rfl,hb⟩;refine ⟨_,rfl,?_⟩;replace BK166:=aQ (blk_below (g:=gb166) (o:=.cells #[.int .i64 a0_0,.int .i64 a0_1,.slice A0_2 l0_2.length c0_2] 29 (0,0)) (nB BK166.out) hb);replace BK167:=aQ (blk_below (g:=gb167) (o:=.cells #[.int .i64 a1_0,.int .i64 a1_1,.slice A1_2 l1_2.length c1_2] 29 (0,0)) (nB BK167.out) hb);replace HB:=aQ (below_step bB hb);(try clear hb)))
  go_ret
  exact ⟨rfl,bB⟩
 ·replace c6:=Bool.eq_false_iff.mpr c6
  subst c6
  have H1:(some false) = some r:=by rw [if_neg (show ¬ (false = true) by decide)] at H;exact H
  clear H
  have H:=H1
  clear H1
  obtain rfl:=Option.some.inj H
  go_enter Try.func17,Try.ntmps17
  go_wp2_with (first | ((with_reducible refine gate_dst (N:=2) rfl ?_);refine box1 (N:=2) (cs:=#[.int .i64 a0_0,.int .i64 a0_1,.slice A0_2 l0_2.length c0_2]) (t:=29) ?_;intro gb166 hg w13 hbox hb;have BK166:=aQ (hbox);have GW166:=aQ ((by rw [hg];exact (below_size bB):w.heap.size ≤ gb166));have GE166:=aQ ((by rw [hg];exact (below_size bB):w.heap.size ≤ gb166));replace HB:=aQ (below_step bB hb);clear hb hbox hg) | ((with_reducible refine gate_dst (N:=3) rfl ?_);refine box1 (N:=3) (cs:=#[.int .i64 a1_0,.int .i64 a1_1,.slice A1_2 l1_2.length c1_2]) (t:=29) ?_;intro gb167 hg w14 hbox hb;have BK167:=aQ (hbox);have GW167:=aQ ((by rw [hg];exact (below_size bB):w.heap.size ≤ gb167));have GE167:=aQ ((by rw [hg];exact (below_size bB):w.heap.size ≤ gb167));replace HB:=aQ (below_step bB hb);have NB166_167:=aQ ((by rw [hg];exact Nat.ne_of_lt (blk_lt (g:=gb166) (o:=.cells #[.int .i64 a0_0,.int .i64 a0_1,.slice A0_2 l0_2.length c0_2] 29 (0,0)) (nB BK166.out)):gb166 ≠ gb167));have NB167_166:=aQ ((by rw [hg];exact Nat.ne_of_gt (blk_lt (g:=gb166) (o:=.cells #[.int .i64 a0_0,.int .i64 a0_1,.slice A0_2 l0_2.length c0_2] 29 (0,0)) (nB BK166.out)):gb167 ≠ gb166));replace BK166:=aQ (blk_below (g:=gb166) (o:=.cells #[.int .i64 a0_0,.int .i64 a0_1,.slice A0_2 l0_2.length c0_2] 29 (0,0)) (nB BK166.out) hb);clear hb hbox hg;have hnb15:=NB166_167.out;have hnc15:=NB167_166.out;have hcz16_0:w14.cell? ⟨gb166,0,none⟩ = some (.int .i64 a0_0):=(blk_cell BK166.out 0).trans rfl;have hcz16_1:w14.cell? ⟨gb166,1,none⟩ = some (.int .i64 a0_1):=(blk_cell BK166.out 1).trans rfl;have hcz16_2:w14.cell? ⟨gb166,2,none⟩ = some (.slice A0_2 l0_2.length c0_2):=(blk_cell BK166.out 2).trans rfl;have hfz16_0:=blk_frozen BK166.out 0;have hfz16_1:=blk_frozen BK166.out 1;have hfz16_2:=blk_frozen BK166.out 2;have hcz17_0:w14.cell? ⟨gb167,0,none⟩ = some (.int .i64 a1_0):=(blk_cell BK167.out 0).trans rfl;have hcz17_1:w14.cell? ⟨gb167,1,none⟩ = some (.int .i64 a1_1):=(blk_cell BK167.out 1).trans rfl;have hcz17_2:w14.cell? ⟨gb167,2,none⟩ = some (.slice A1_2 l1_2.length c1_2):=(blk_cell BK167.out 2).trans rfl;have hfz17_0:=blk_frozen BK167.out 0;have hfz17_1:=blk_frozen BK167.out 1;have hfz17_2:=blk_frozen BK167.out 2) | ((with_reducible refine gate_callee (f:=44) rfl ?_);refine goesL_ (some 19) rfl rfl Try.func44 (by kernel_rfl) rfl #[.slice A0_2 l0_2.length c0_2,.slice A1_2 l1_2.length c1_2] rfl mP ?_;(with_reducible refine (ihS k (Nat.le_refl _) _ _ l0_2 _ _ l1_2 false _ ?side1 ?side2 ?side3 ?side4 A5.out).mono ?_);(case side1=>repeat (first | exact (Kd.C_below HR0_2.out HB.out) | (with_reducible refine Kd.C_alloc ?_ _) | (with_reducible refine Kd.C_drewN ?_ _) | (with_reducible refine Kd.C_drew ?_)));(case side2=>exact HC0_2.out);(case side3=>repeat (first | exact (Kd.C_below HR1_2.out HB.out) | (with_reducible refine Kd.C_alloc ?_ _) | (with_reducible refine Kd.C_drewN ?_ _) | (with_reducible refine Kd.C_drew ?_)));(case side4=>exact HC1_2.out);rintro e w18 ⟨rfl,hb⟩;refine ⟨_,rfl,?_⟩;replace BK166:=aQ (blk_below (g:=gb166) (o:=.cells #[.int .i64 a0_0,.int .i64 a0_1,.slice A0_2 l0_2.length c0_2] 29 (0,0)) (nB BK166.out) hb);replace BK167:=aQ (blk_below (g:=gb167) (o:=.cells #[.int .i64 a1_0,.int .i64 a1_1,.slice A1_2 l1_2.length c1_2] 29 (0,0)) (nB BK167.out) hb);replace HB:=aQ (below_step bB hb);(try clear hb)))
  go_ret
  exact ⟨rfl,bB⟩
set_option maxHeartbeats 8000000 in
set_option maxRecDepth 100000 in
theorem laws_eqClockS.calls (k:Nat):∀ (A0:Option Addr) (c0:Nat) (l0:List (S29)) (A1:Option Addr) (c1:Nat) (l1:List (S29)) (r:Bool) (w:World) (hr0:Kd.C k29 w A0 l0.length l0) (hc0:l0.length ≤ c0) (hr1:Kd.C k29 w A1 l1.length l1) (hc1:l1.length ≤ c1) (h:laws_eqClockS.f k l0 l1 = some r),
  Calls Try.prog 44 #[.slice A0 l0.length c0,.slice A1 l1.length c1] w fun e w'=>e = .returned (.bool r)∧Below w.heap.size w w':=by
 induction k using Nat.strongRecOn with
 | _ k ih =>
 intro A0 c0 l0 A1 c1 l1 r w hr0 hc0 hr1 hc1 h
 cases k with
 | zero=>exact absurd h (by simp [laws_eqClockS.f])
 | succ k =>
 simp only [laws_eqClockS.f] at h
 have hu29:=Try.underlying29
 have HR0:=aQ hr0
 have HC0:=aQ hc0
 clear hr0 hc0
 have HR1:=aQ hr1
 have HC1:=aQ hc1
 clear hr1 hc1
 have HB:=aQ (Below.refl w.heap.size w)
 have H:=h
 clear h
 by_cases c3:(l0.length:Int) = (l1.length:Int);rotate_left
 ·rw [if_neg c3] at H
  have c3b0:((l0.length:Int) == (l1.length:Int)) = false:=beq_eq_false_iff_ne.mpr c3
  have c3b1:((l0.length:Int) != (l1.length:Int)) = true:=bne_iff_ne.mpr c3
  have c3b2:(l0.length == l1.length) = false:=by first | simpa using c3 | (simp at c3 ⊢;omega)
  obtain rfl:=Option.some.inj H
  go_enter Try.func44,Try.ntmps44
  go_wp2
  go_ret
  exact ⟨rfl,bB⟩
 rw [if_pos c3] at H
 have c3b0:((l0.length:Int) == (l1.length:Int)) = true:=beq_iff_eq.mpr c3
 have c3b1:((l0.length:Int) != (l1.length:Int)) = false:=bne_eq_false_iff_eq.mpr c3
 have c3b2:(l0.length == l1.length) = true:=by first | simpa using c3 | (simp at c3 ⊢;omega)
 clear c3
 have H':=aQ H
 clear H
 go_enter Try.func44,Try.ntmps44
 go_wp2
 go_loopg [5] k (fun kq v5 w'=>∃ (x5_1:Int),v5 = .int .i64 x5_1∧Aside0 (laws_eqClockS.l0 kq l0 l1 x5_1 = some r)∧Aside0 (kq ≤ k)∧Aside0 (Below w.heap.size w w'))
 case atStart=>exact ⟨(0),rfl,H',⟨Nat.le_refl _⟩,⟨bB⟩⟩
 case round =>
  clear H'
  try clear c3b0
  try clear c3b1
  try clear c3b2
  repeat (first | clear HB)
  obtain ⟨x5_1,rfl,HA,HK1,HB⟩:=hrel
  cases gk with
  | zero=>exact absurd HA.out (by simp [laws_eqClockS.l0])
  | succ k1 =>
   have H:=HA.out
   clear HA
   simp only [laws_eqClockS.l0] at H
   by_cases c4:x5_1 < (l0.length:Int);rotate_left
   ·rw [if_neg c4] at H
    have c4b0:decide (x5_1 < (l0.length:Int)) = false:=decide_eq_false c4
    clear c4
    obtain rfl:=Option.some.inj H
    go_wp2
    go_ret
    exact ⟨rfl,bB⟩
   rw [if_pos c4] at H
   have c4b0:decide (x5_1 < (l0.length:Int)) = true:=decide_eq_true c4
   clear c4
   by_cases c5:0 ≤ x5_1;rotate_left
   ·rw [if_neg c5] at H
    exact absurd H (by simp)
   rw [if_pos c5] at H
   have c5b0:decide (0 ≤ x5_1) = true:=decide_eq_true c5
   clear c5
   by_cases c6:x5_1 < (l1.length:Int);rotate_left
   ·rw [if_neg c6] at H
    exact absurd H (by simp)
   rw [if_pos c6] at H
   have c6b0:decide (x5_1 < (l1.length:Int)) = true:=decide_eq_true c6
   clear c6
   obtain ⟨t165,A7,H⟩:=bQ H
   (try dsimp only at H)
   by_cases c8:t165 = true
   ·subst c8
    have H1:(laws_eqClockS.l0 k1 l0 l1 (wrap64 (x5_1 + 1))) = some r:=by rw [if_pos rfl] at H;exact H
    clear H
    have H:=H1
    clear H1
    have H':=aQ H
    clear H
    try go_wp2
    replace HB:=aQ (below_drew1 HB.out)
    have p163:0 ≤ (x5_1:Int):=of_decide_eq_true (by first | (with_reducible assumption) | assumption)
    have q163:x5_1 < (l0.length:Int):=of_decide_eq_true (by first | (with_reducible assumption) | assumption)
    obtain ⟨ad163,A163_2,c163_2,e163,hx163_0,hx163_1,hx163_2,hl163_2,hi163_2⟩:=at_T29 HR0.out x5_1 p163 q163
    have hw163_2:=hx163_2
    have hw163_1:=hx163_1
    have hw163_0:=hx163_0
    cases e163
    replace hx163_0:=(HB.out.cell (World.block_lt_of_cell? w _ hx163_0)).trans hx163_0
    replace hx163_1:=(HB.out.cell (World.block_lt_of_cell? w _ hx163_1)).trans hx163_1
    replace hx163_2:=(HB.out.cell (World.block_lt_of_cell? w _ hx163_2)).trans hx163_2
    have HR163_2:=aQ hi163_2
    have HC163_2:=aQ hl163_2
    clear hi163_2 hl163_2
    replace p163:=eq_true p163
    replace q163:=eq_true q163
    have p164:0 ≤ (x5_1:Int):=of_decide_eq_true (by first | (with_reducible assumption) | assumption)
    have q164:x5_1 < (l1.length:Int):=of_decide_eq_true (by first | (with_reducible assumption) | assumption)
    obtain ⟨ad164,A164_2,c164_2,e164,hx164_0,hx164_1,hx164_2,hl164_2,hi164_2⟩:=at_T29 HR1.out x5_1 p164 q164
    have hw164_2:=hx164_2
    have hw164_1:=hx164_1
    have hw164_0:=hx164_0
    cases e164
    replace hx164_0:=(HB.out.cell (World.block_lt_of_cell? w _ hx164_0)).trans hx164_0
    replace hx164_1:=(HB.out.cell (World.block_lt_of_cell? w _ hx164_1)).trans hx164_1
    replace hx164_2:=(HB.out.cell (World.block_lt_of_cell? w _ hx164_2)).trans hx164_2
    have HR164_2:=aQ hi164_2
    have HC164_2:=aQ hl164_2
    clear hi164_2 hl164_2
    replace p164:=eq_true p164
    replace q164:=eq_true q164
    refine start_ (n:=10) (S:=fun w'=>w'.cell? (ad163.add ((x5_1).toNat * 3)) = some (.int .i64 ((rd_T29 l0 x5_1).f0))∧w'.cell? ⟨(ad163.add ((x5_1).toNat * 3)).block,(ad163.add ((x5_1).toNat * 3)).off + 1,none⟩ = some (.int .i64 ((rd_T29 l0 x5_1).f1))∧w'.cell? ⟨(ad163.add ((x5_1).toNat * 3)).block,(ad163.add ((x5_1).toNat * 3)).off + 2,none⟩ = some (.slice A163_2 ((rd_T29 l0 x5_1).f2).length c163_2)∧w'.cell? (ad164.add ((x5_1).toNat * 3)) = some (.int .i64 ((rd_T29 l1 x5_1).f0))∧w'.cell? ⟨(ad164.add ((x5_1).toNat * 3)).block,(ad164.add ((x5_1).toNat * 3)).off + 1,none⟩ = some (.int .i64 ((rd_T29 l1 x5_1).f1))∧w'.cell? ⟨(ad164.add ((x5_1).toNat * 3)).block,(ad164.add ((x5_1).toNat * 3)).off + 2,none⟩ = some (.slice A164_2 ((rd_T29 l1 x5_1).f2).length c164_2)) (ds:=[]) #[false,false,false,false,false,false,false,false,false,false] (by kernel_rfl) rfl rfl ⟨((HB.out.cell (World.block_lt_of_cell? w _ hw163_0)).trans hw163_0),((HB.out.cell (World.block_lt_of_cell? w _ hw163_1)).trans hw163_1),((HB.out.cell (World.block_lt_of_cell? w _ hw163_2)).trans hw163_2),((HB.out.cell (World.block_lt_of_cell? w _ hw164_0)).trans hw164_0),((HB.out.cell (World.block_lt_of_cell? w _ hw164_1)).trans hw164_1),((HB.out.cell (World.block_lt_of_cell? w _ hw164_2)).trans hw164_2)⟩ (fun hHeld=>?_);refine with_tabW laws_eqClockS.tab6 laws_eqClockS.bits6 (fun HT_ HW_=>?_)
    generalize wr.drew = w9 at HB HR163_2 HR164_2 hx163_0 hx163_1 hx163_2 hx164_0 hx164_1 hx164_2 hHeld ⊢
    refine pur (i:=0) (N:=some 17) #[true,false,false,false,false,false,false,false,false,false] ?_
    refine pur (i:=1) (N:=some 18) #[true,true,false,false,false,false,false,false,false,false] ?_
    refine pur (i:=2) (N:=some 19) #[true,true,true,false,false,false,false,false,false,false] ?_
    refine pur (i:=4) (N:=some 21) #[true,true,true,false,true,false,false,false,false,false] ?_
    refine pur (i:=5) (N:=some 22) #[true,true,true,false,true,true,false,false,false,false] ?_
    refine pur (i:=6) (N:=some 23) #[true,true,true,false,true,true,true,false,false,false] ?_
    refine tak (i:=3) (N:=some 20) #[true,true,true,true,true,true,true,false,false,false] ?_
    refine tak (i:=7) (N:=some 24) #[true,true,true,true,true,true,true,true,false,false] ?_
    refine one_ (i:=8) (N:=some 25) #[true,true,true,true,true,true,true,true,true,false] rfl rfl (one_of HT_.out (by kernel_rfl)) (by decide) (fun K hK=>?_)
    refine goes1 Try.func17 #[.agg #[.int .i64 ((rd_T29 l0 x5_1).f0),.int .i64 ((rd_T29 l0 x5_1).f1),.slice A163_2 ((rd_T29 l0 x5_1).f2).length c163_2],.agg #[.int .i64 ((rd_T29 l1 x5_1).f0),.int .i64 ((rd_T29 l1 x5_1).f1),.slice A164_2 ((rd_T29 l1 x5_1).f2).length c164_2]] ?_
    with_reducible refine (laws_eqClock.calls_of k1 (fun j_ hj_=>ih j_ (by first | omega | (have:=HK1.out;omega) | (have:=HK1.out;have:=HK2.out;omega))) ((rd_T29 l0 x5_1).f0) ((rd_T29 l0 x5_1).f1) _ _ ((rd_T29 l0 x5_1).f2) ((rd_T29 l1 x5_1).f0) ((rd_T29 l1 x5_1).f1) _ _ ((rd_T29 l1 x5_1).f2) true _ ?side1 ?side2 ?side3 ?side4 A7.out).mono ?_
    (case side1=>repeat (first | exact (Kd.C_below HR163_2.out HB.out) | (with_reducible refine Kd.C_alloc ?_ _) | (with_reducible refine Kd.C_drewN ?_ _) | (with_reducible refine Kd.C_drew ?_)))
    (case side2=>exact HC163_2.out)
    (case side3=>repeat (first | exact (Kd.C_below HR164_2.out HB.out) | (with_reducible refine Kd.C_alloc ?_ _) | (with_reducible refine Kd.C_drewN ?_ _) | (with_reducible refine Kd.C_drew ?_)))
    (case side4=>exact HC164_2.out)
    rintro e w10 ⟨rfl,hb⟩
    refine ⟨_,rfl,?_⟩
    replace HB:=aQ (below_step bB hb)
    (try clear hb)
    refine hK.out _ _ ⟨((HB.out.cell (World.block_lt_of_cell? w _ hw163_0)).trans hw163_0),((HB.out.cell (World.block_lt_of_cell? w _ hw163_1)).trans hw163_1),((HB.out.cell (World.block_lt_of_cell? w _ hw163_2)).trans hw163_2),((HB.out.cell (World.block_lt_of_cell? w _ hw164_0)).trans hw164_0),((HB.out.cell (World.block_lt_of_cell? w _ hw164_1)).trans hw164_1),((HB.out.cell (World.block_lt_of_cell? w _ hw164_2)).trans hw164_2)⟩ (fun hHeld=>?_)
    clear hK K
    refine nrm (N:=some 25) ?_
    refine pur (i:=9) (N:=some 26) #[true,true,true,true,true,true,true,true,true,true] ?_
    refine done_ (done_of HT_.out (by kernel_rfl)) ?_
    try go_wp2
    go_roundg k1
    case measure=>have:=HK1.out;omega
    case rel=>exact ⟨(wrap64 (x5_1 + 1)),rfl,H',⟨by have:=HK1.out;omega⟩,⟨bB⟩⟩
   ·replace c8:=Bool.eq_false_iff.mpr c8
    subst c8
    have H1:(some false) = some r:=by rw [if_neg (show ¬ (false = true) by decide)] at H;exact H
    clear H
    have H:=H1
    clear H1
    obtain rfl:=Option.some.inj H
    try go_wp2
    replace HB:=aQ (below_drew1 HB.out)
    have p163:0 ≤ (x5_1:Int):=of_decide_eq_true (by first | (with_reducible assumption) | assumption)
    have q163:x5_1 < (l0.length:Int):=of_decide_eq_true (by first | (with_reducible assumption) | assumption)
    obtain ⟨ad163,A163_2,c163_2,e163,hx163_0,hx163_1,hx163_2,hl163_2,hi163_2⟩:=at_T29 HR0.out x5_1 p163 q163
    have hw163_2:=hx163_2
    have hw163_1:=hx163_1
    have hw163_0:=hx163_0
    cases e163
    replace hx163_0:=(HB.out.cell (World.block_lt_of_cell? w _ hx163_0)).trans hx163_0
    replace hx163_1:=(HB.out.cell (World.block_lt_of_cell? w _ hx163_1)).trans hx163_1
    replace hx163_2:=(HB.out.cell (World.block_lt_of_cell? w _ hx163_2)).trans hx163_2
    have HR163_2:=aQ hi163_2
    have HC163_2:=aQ hl163_2
    clear hi163_2 hl163_2
    replace p163:=eq_true p163
    replace q163:=eq_true q163
    have p164:0 ≤ (x5_1:Int):=of_decide_eq_true (by first | (with_reducible assumption) | assumption)
    have q164:x5_1 < (l1.length:Int):=of_decide_eq_true (by first | (with_reducible assumption) | assumption)
    obtain ⟨ad164,A164_2,c164_2,e164,hx164_0,hx164_1,hx164_2,hl164_2,hi164_2⟩:=at_T29 HR1.out x5_1 p164 q164
    have hw164_2:=hx164_2
    have hw164_1:=hx164_1
    have hw164_0:=hx164_0
    cases e164
    replace hx164_0:=(HB.out.cell (World.block_lt_of_cell? w _ hx164_0)).trans hx164_0
    replace hx164_1:=(HB.out.cell (World.block_lt_of_cell? w _ hx164_1)).trans hx164_1
    replace hx164_2:=(HB.out.cell (World.block_lt_of_cell? w _ hx164_2)).trans hx164_2
    have HR164_2:=aQ hi164_2
    have HC164_2:=aQ hl164_2
    clear hi164_2 hl164_2
    replace p164:=eq_true p164
    replace q164:=eq_true q164
    refine start_ (n:=10) (S:=fun w'=>w'.cell? (ad163.add ((x5_1).toNat * 3)) = some (.int .i64 ((rd_T29 l0 x5_1).f0))∧w'.cell? ⟨(ad163.add ((x5_1).toNat * 3)).block,(ad163.add ((x5_1).toNat * 3)).off + 1,none⟩ = some (.int .i64 ((rd_T29 l0 x5_1).f1))∧w'.cell? ⟨(ad163.add ((x5_1).toNat * 3)).block,(ad163.add ((x5_1).toNat * 3)).off + 2,none⟩ = some (.slice A163_2 ((rd_T29 l0 x5_1).f2).length c163_2)∧w'.cell? (ad164.add ((x5_1).toNat * 3)) = some (.int .i64 ((rd_T29 l1 x5_1).f0))∧w'.cell? ⟨(ad164.add ((x5_1).toNat * 3)).block,(ad164.add ((x5_1).toNat * 3)).off + 1,none⟩ = some (.int .i64 ((rd_T29 l1 x5_1).f1))∧w'.cell? ⟨(ad164.add ((x5_1).toNat * 3)).block,(ad164.add ((x5_1).toNat * 3)).off + 2,none⟩ = some (.slice A164_2 ((rd_T29 l1 x5_1).f2).length c164_2)) (ds:=[]) #[false,false,false,false,false,false,false,false,false,false] (by kernel_rfl) rfl rfl ⟨((HB.out.cell (World.block_lt_of_cell? w _ hw163_0)).trans hw163_0),((HB.out.cell (World.block_lt_of_cell? w _ hw163_1)).trans hw163_1),((HB.out.cell (World.block_lt_of_cell? w _ hw163_2)).trans hw163_2),((HB.out.cell (World.block_lt_of_cell? w _ hw164_0)).trans hw164_0),((HB.out.cell (World.block_lt_of_cell? w _ hw164_1)).trans hw164_1),((HB.out.cell (World.block_lt_of_cell? w _ hw164_2)).trans hw164_2)⟩ (fun hHeld=>?_);refine with_tabW laws_eqClockS.tab6 laws_eqClockS.bits6 (fun HT_ HW_=>?_)
    generalize wr.drew = w11 at HB HR163_2 HR164_2 hx163_0 hx163_1 hx163_2 hx164_0 hx164_1 hx164_2 hHeld ⊢
    refine pur (i:=0) (N:=some 17) #[true,false,false,false,false,false,false,false,false,false] ?_
    refine pur (i:=1) (N:=some 18) #[true,true,false,false,false,false,false,false,false,false] ?_
    refine pur (i:=2) (N:=some 19) #[true,true,true,false,false,false,false,false,false,false] ?_
    refine pur (i:=4) (N:=some 21) #[true,true,true,false,true,false,false,false,false,false] ?_
    refine pur (i:=5) (N:=some 22) #[true,true,true,false,true,true,false,false,false,false] ?_
    refine pur (i:=6) (N:=some 23) #[true,true,true,false,true,true,true,false,false,false] ?_
    refine tak (i:=3) (N:=some 20) #[true,true,true,true,true,true,true,false,false,false] ?_
    refine tak (i:=7) (N:=some 24) #[true,true,true,true,true,true,true,true,false,false] ?_
    refine one_ (i:=8) (N:=some 25) #[true,true,true,true,true,true,true,true,true,false] rfl rfl (one_of HT_.out (by kernel_rfl)) (by decide) (fun K hK=>?_)
    refine goes1 Try.func17 #[.agg #[.int .i64 ((rd_T29 l0 x5_1).f0),.int .i64 ((rd_T29 l0 x5_1).f1),.slice A163_2 ((rd_T29 l0 x5_1).f2).length c163_2],.agg #[.int .i64 ((rd_T29 l1 x5_1).f0),.int .i64 ((rd_T29 l1 x5_1).f1),.slice A164_2 ((rd_T29 l1 x5_1).f2).length c164_2]] ?_
    with_reducible refine (laws_eqClock.calls_of k1 (fun j_ hj_=>ih j_ (by first | omega | (have:=HK1.out;omega) | (have:=HK1.out;have:=HK2.out;omega))) ((rd_T29 l0 x5_1).f0) ((rd_T29 l0 x5_1).f1) _ _ ((rd_T29 l0 x5_1).f2) ((rd_T29 l1 x5_1).f0) ((rd_T29 l1 x5_1).f1) _ _ ((rd_T29 l1 x5_1).f2) false _ ?side1 ?side2 ?side3 ?side4 A7.out).mono ?_
    (case side1=>repeat (first | exact (Kd.C_below HR163_2.out HB.out) | (with_reducible refine Kd.C_alloc ?_ _) | (with_reducible refine Kd.C_drewN ?_ _) | (with_reducible refine Kd.C_drew ?_)))
    (case side2=>exact HC163_2.out)
    (case side3=>repeat (first | exact (Kd.C_below HR164_2.out HB.out) | (with_reducible refine Kd.C_alloc ?_ _) | (with_reducible refine Kd.C_drewN ?_ _) | (with_reducible refine Kd.C_drew ?_)))
    (case side4=>exact HC164_2.out)
    rintro e w12 ⟨rfl,hb⟩
    refine ⟨_,rfl,?_⟩
    replace HB:=aQ (below_step bB hb)
    (try clear hb)
    refine hK.out _ _ ⟨((HB.out.cell (World.block_lt_of_cell? w _ hw163_0)).trans hw163_0),((HB.out.cell (World.block_lt_of_cell? w _ hw163_1)).trans hw163_1),((HB.out.cell (World.block_lt_of_cell? w _ hw163_2)).trans hw163_2),((HB.out.cell (World.block_lt_of_cell? w _ hw164_0)).trans hw164_0),((HB.out.cell (World.block_lt_of_cell? w _ hw164_1)).trans hw164_1),((HB.out.cell (World.block_lt_of_cell? w _ hw164_2)).trans hw164_2)⟩ (fun hHeld=>?_)
    clear hK K
    refine nrm (N:=some 25) ?_
    refine pur (i:=9) (N:=some 26) #[true,true,true,true,true,true,true,true,true,true] ?_
    refine done_ (done_of HT_.out (by kernel_rfl)) ?_
    try go_wp2
    go_ret
    exact ⟨rfl,bB⟩
theorem laws_eqClock.calls (k:Nat) (a0_0:Int) (a0_1:Int) (A0_2:Option Addr) (c0_2:Nat) (l0_2:List (S29)) (a1_0:Int) (a1_1:Int) (A1_2:Option Addr) (c1_2:Nat) (l1_2:List (S29)) (r:Bool) (w:World) (hr0_2:Kd.C k29 w A0_2 l0_2.length l0_2) (hc0_2:l0_2.length ≤ c0_2) (hr1_2:Kd.C k29 w A1_2 l1_2.length l1_2) (hc1_2:l1_2.length ≤ c1_2) (h:laws_eqClock.f k a0_0 a0_1 l0_2 a1_0 a1_1 l1_2 = some r) :
  Calls Try.prog 17 #[.agg #[.int .i64 a0_0,.int .i64 a0_1,.slice A0_2 l0_2.length c0_2],.agg #[.int .i64 a1_0,.int .i64 a1_1,.slice A1_2 l1_2.length c1_2]] w fun e w'=>e = .returned (.bool r)∧Below w.heap.size w w':=laws_eqClock.calls_of k (fun j_ _=>laws_eqClockS.calls j_) a0_0 a0_1 A0_2 c0_2 l0_2 a1_0 a1_1 A1_2 c1_2 l1_2 r w hr0_2 hc0_2 hr1_2 hc1_2 h
def impl_ClockUrgent.l0:Nat → Int → Int → Int → List (S29) → Option (Int)
 | 0,_,_,_,_=>none
 | k + 1,x3,x404000,x404001,x404002=>if x3 < 100 then ((impl_pass.f k x404000 x404001 x404002).bind fun bt405=>(if bt405.2.2.2 = true then (impl_ClockUrgent.l0 k (wrap64 (x3 + 1)) bt405.1 bt405.2.1 bt405.2.2.1) else (some x3))) else (some x3)
def impl_ClockUrgent.f (k:Nat) (a0_0:Int) (a0_1:Int) (l0_2:List (S29)):Option (Int):=(impl_ClockOk.f k a0_0 a0_1 l0_2).bind fun t404=>(if t404 = true then (impl_ClockUrgent.l0 k 0 a0_0 a0_1 l0_2) else (some (-1)))
theorem impl_ClockUrgent.mono_l:∀ k,(∀ y0 y1 y2 y3,LeO (impl_ClockUrgent.l0 k y0 y1 y2 y3) (impl_ClockUrgent.l0 (k + 1) y0 y1 y2 y3))
 | 0=>fun _ _ _ _ r h=>by simp [impl_ClockUrgent.l0] at h
 | k + 1=>by
  have ih0:=impl_ClockUrgent.mono_l k
  ·intro y0 y1 y2 y3
   unfold impl_ClockUrgent.l0
   repeat' first
   | (with_reducible exact ih0 _ _ _ _)
   | (with_reducible exact impl_ClockOk.mono _ _ _ _)
   | (with_reducible exact impl_pass.mono _ _ _ _)
   | (with_reducible exact LeO.refl _)
   | (with_reducible exact LeO.none _)
   | (with_reducible refine LeO.ite ?_ ?_)
   | (with_reducible refine LeO.bind ?_ (fun _=>?_))
   | exact ih0 _ _ _ _
   | exact impl_ClockOk.mono _ _ _ _
   | exact impl_pass.mono _ _ _ _
   | exact LeO.none _
   | refine LeO.ite ?_ ?_
   | refine LeO.bind ?_ (fun _=>?_)
theorem impl_ClockUrgent.mono:∀ a0 a1 a2 k,LeO (impl_ClockUrgent.f k a0 a1 a2) (impl_ClockUrgent.f (k + 1) a0 a1 a2):=by
 intro a0 a1 a2 k
 have ih0:=impl_ClockUrgent.mono_l k
 unfold impl_ClockUrgent.f
 repeat' first
   | (with_reducible exact ih0 _ _ _ _)
   | (with_reducible exact impl_ClockOk.mono _ _ _ _)
   | (with_reducible exact impl_pass.mono _ _ _ _)
   | (with_reducible exact LeO.refl _)
   | (with_reducible exact LeO.none _)
   | (with_reducible refine LeO.ite ?_ ?_)
   | (with_reducible refine LeO.bind ?_ (fun _=>?_))
   | exact ih0 _ _ _ _
   | exact impl_ClockOk.mono _ _ _ _
   | exact impl_pass.mono _ _ _ _
   | exact LeO.none _
   | refine LeO.ite ?_ ?_
   | refine LeO.bind ?_ (fun _=>?_)
set_option maxHeartbeats 8000000 in
set_option maxRecDepth 100000 in
theorem impl_ClockUrgent.calls (k:Nat) (a0_0:Int) (a0_1:Int) (P0_2_:Nat → Prop) (A0_2:Option Addr) (c0_2:Nat) (l0_2:List (S29)) (r:Int) (w:World) (hs0_2:Kd.V k29 29 w w.heap.size (fun k_=>P0_2_ k_) (.slice A0_2 l0_2.length c0_2) l0_2) (h:impl_ClockUrgent.f k a0_0 a0_1 l0_2 = some r) :
  Calls Try.prog 20 #[.agg #[.int .i64 a0_0,.int .i64 a0_1,.slice A0_2 l0_2.length c0_2]] w fun e w'=>e = .returned (.int .i64 r)∧Below w.heap.size w w':=by
 have hu29:=Try.underlying29
 have HO0_2:=aQ (show Kd.V k29 29 w w.heap.size (fun k_=>(P0_2_ k_ ∨ w.heap.size ≤ k_)) (.slice A0_2 l0_2.length c0_2) l0_2 from Kd.V_mono hs0_2 (fun k_ hk=>.inl hk))
 have HB:=aQ (Below.refl w.heap.size w)
 have H:=h
 clear h
 obtain ⟨t404,A2,H⟩:=bQ H
 (try dsimp only at H)
 by_cases c3:t404 = true
 ·subst c3
  have H1:(impl_ClockUrgent.l0 k 0 a0_0 a0_1 l0_2) = some r:=by rw [if_pos rfl] at H;exact H
  clear H
  have H:=H1
  clear H1
  have H':=aQ H
  clear H
  go_enter Try.func20,Try.ntmps20
  go_wp2_with (first | ((with_reducible refine gate_dst (N:=1) rfl ?_);refine box1 (N:=1) (cs:=#[.int .i64 a0_0,.int .i64 a0_1,.slice A0_2 l0_2.length c0_2]) (t:=29) ?_;intro gb403 hg w4 hbox hb;replace HO0_2:=aQ (Kd.V_below (Kd.V_elderB (nV HO0_2.out) gb403 (Nat.le_of_eq hg.symm)) hb);have BK403:=aQ (hbox);have GW403:=aQ ((by rw [hg];exact (below_size bB):w.heap.size ≤ gb403));have GE403:=aQ ((by rw [hg];exact (below_size bB):w.heap.size ≤ gb403));replace HB:=aQ (below_step bB hb);clear hb hbox hg;have hcz5_0:w4.cell? ⟨gb403,0,none⟩ = some (.int .i64 a0_0):=(blk_cell BK403.out 0).trans rfl;have hcz5_1:w4.cell? ⟨gb403,1,none⟩ = some (.int .i64 a0_1):=(blk_cell BK403.out 1).trans rfl;have hcz5_2:w4.cell? ⟨gb403,2,none⟩ = some (.slice A0_2 l0_2.length c0_2):=(blk_cell BK403.out 2).trans rfl;have hfz5_0:=blk_frozen BK403.out 0;have hfz5_1:=blk_frozen BK403.out 1;have hfz5_2:=blk_frozen BK403.out 2) | ((with_reducible refine gate_callee (f:=16) rfl ?_);refine goesL_ (some 7) rfl rfl Try.func16 (by kernel_rfl) rfl #[.agg #[.int .i64 a0_0,.int .i64 a0_1,.slice A0_2 l0_2.length c0_2]] rfl mP ?_;(with_reducible refine (impl_ClockOk.calls k a0_0 a0_1 _ _ l0_2 true _ ?side1 ?side2 A2.out).mono ?_);(case side1=>repeat (first | exact (Kd.V_reads' HO0_2.out).2.2 | (with_reducible refine Kd.C_alloc ?_ _) | (with_reducible refine Kd.C_drewN ?_ _) | (with_reducible refine Kd.C_drew ?_)));(case side2=>exact (Kd.V_reads' HO0_2.out).2.1);rintro e w6 ⟨rfl,hb⟩;refine ⟨_,rfl,?_⟩;replace HO0_2:=aQ (Kd.V_below (nV HO0_2.out) hb);replace BK403:=aQ (blk_below (g:=gb403) (o:=.cells #[.int .i64 a0_0,.int .i64 a0_1,.slice A0_2 l0_2.length c0_2] 29 (0,0)) (nB BK403.out) hb);replace HB:=aQ (below_step bB hb);(try clear hb)))
  go_loopg [3] k (fun kq v3 w'=>∃ (x3_1:Int) (x404000_1:Int) (x404001_1:Int) (x404002_1:List (S29)) (u404002:Value),v3 = .int .i64 x3_1∧Aside0 (impl_ClockUrgent.l0 kq x3_1 x404000_1 x404001_1 x404002_1 = some r)∧Aside0 (kq ≤ k)∧Aside0 (Kd.V k29 29 w' w.heap.size (fun k_=>(P0_2_ k_ ∨ w.heap.size ≤ k_)∧k_ ≠ gb403) u404002 x404002_1)∧Aside0 (w'.heap[gb403]? = some (.cells #[.int .i64 x404000_1,.int .i64 x404001_1,u404002] 29 (0,0)))∧Aside0 (Below w.heap.size w w'))
  case atStart=>exact ⟨(0),(a0_0),(a0_1),(l0_2),(.slice A0_2 l0_2.length c0_2),rfl,H',⟨Nat.le_refl _⟩,⟨nV HO0_2.out⟩,⟨nB BK403.out⟩,⟨bB⟩⟩
  case round =>
   clear H'
   try clear hcz5_0
   try clear hcz5_1
   try clear hcz5_2
   try clear hfz5_0
   try clear hfz5_1
   try clear hfz5_2
   repeat (first | clear HO_404002 | clear BK403 | clear HB)
   obtain ⟨x3_1,x404000_1,x404001_1,x404002_1,u404002,rfl,HA,HK1,HO_404002,BK403,HB⟩:=hrel
   cases gk with
   | zero=>exact absurd HA.out (by simp [impl_ClockUrgent.l0])
   | succ k1 =>
    have H:=HA.out
    clear HA
    simp only [impl_ClockUrgent.l0] at H
    by_cases c7:x3_1 < 100;rotate_left
    ·rw [if_neg c7] at H
     have c7b0:decide (x3_1 < 100) = false:=decide_eq_false c7
     clear c7
     obtain rfl:=Option.some.inj H
     go_wp2
     go_ret
     exact ⟨rfl,bB⟩
    rw [if_pos c7] at H
    have c7b0:decide (x3_1 < 100) = true:=decide_eq_true c7
    clear c7
    obtain ⟨⟨t405,t406,t407,t410⟩,A8,H⟩:=bQ H
    dsimp only at H
    by_cases c9:t410 = true
    ·subst c9
     have H1:(impl_ClockUrgent.l0 k1 (wrap64 (x3_1 + 1)) t405 t406 t407) = some r:=by rw [if_pos rfl] at H;exact H
     clear H
     have H:=H1
     clear H1
     have H':=aQ H
     clear H
     have hcz10_0:wr.cell? ⟨gb403,0,none⟩ = some (.int .i64 x404000_1):=(blk_cell BK403.out 0).trans rfl
     have hcz10_1:wr.cell? ⟨gb403,1,none⟩ = some (.int .i64 x404001_1):=(blk_cell BK403.out 1).trans rfl
     have hcz10_2:wr.cell? ⟨gb403,2,none⟩ = some (u404002):=(blk_cell BK403.out 2).trans rfl
     have hfz10_0:=blk_frozen BK403.out 0
     have hfz10_1:=blk_frozen BK403.out 1
     have hfz10_2:=blk_frozen BK403.out 2
     obtain ⟨Ao11,co11,eo11⟩:=Kd.V_slice HO_404002.out
     subst eo11
     go_wp2_with (first | ((with_reducible refine gate_callee (f:=49) rfl ?_);refine goesL_ (some 13) rfl rfl Try.func49 (by kernel_rfl) rfl #[.agg #[.int .i64 x404000_1,.int .i64 x404001_1,.slice Ao11 x404002_1.length co11]] rfl mP ?_;(with_reducible refine (impl_pass.calls k1 x404000_1 x404001_1 (fun k_=>((P0_2_ k_ ∨ w.heap.size ≤ k_)∧k_ ≠ gb403)) _ _ x404002_1 t405 t406 t407 true _ ?side1 A8.out).mono ?_);(case side1=>exact HO_404002.out);rintro e w12 ⟨v408,rfl,ho0,hb⟩;refine ⟨_,rfl,?_⟩;replace HO_404002:=aQ (Kd.V_elder' (nV HO_404002.out) (Kd.N_base ho0) hb);have HO409:=aQ (Kd.N_lower (Kd.N_mono (ok':=fun k_=>(P0_2_ k_ ∨ w.heap.size ≤ k_)∧k_ ≠ gb403) ho0 (fun k_ hk_=>⟨Or.elim hk_ (fun hs_=>hs_.1) (fun hn_=>(.inr (Nat.le_trans (below_size bB) hn_))),Or.elim hk_ (fun hs_=>hs_.2) (fun hn_=>(Kd.freshB (g:=gb403) (o:=.cells #[.int .i64 x404000_1,.int .i64 x404001_1,.slice Ao11 x404002_1.length co11] 29 (0,0)) (nB BK403.out) k_ hn_))⟩)) (below_size bB));replace BK403:=aQ (blk_below (g:=gb403) (o:=.cells #[.int .i64 x404000_1,.int .i64 x404001_1,.slice Ao11 x404002_1.length co11] 29 (0,0)) (nB BK403.out) hb);replace HB:=aQ (below_step bB hb);(try clear hb);(try clear ho0)) | ((with_reducible refine gate_dst (N:=4) rfl ?_);refine box1 (N:=4) (cs:=#[.int .i64 0,.int .i64 0,.slice none 0 0]) (t:=29) ?_;intro gb411 hg w13 hbox hb;replace HO_404002:=aQ (Kd.V_below (Kd.V_elderB (nV HO_404002.out) gb411 (Nat.le_of_eq hg.symm)) hb);replace HO409:=aQ (Kd.N_below (Kd.N_elderB (nN HO409.out) gb411 (Nat.le_of_eq hg.symm)) hb);have BK411:=aQ (hbox);have GW411:=aQ ((by rw [hg];exact (below_size bB):w.heap.size ≤ gb411));have GE411:=aQ ((by rw [hg];exact (below_size bB):w.heap.size ≤ gb411));replace HB:=aQ (below_step bB hb);have NB403_411:=aQ ((by rw [hg];exact Nat.ne_of_lt (blk_lt (g:=gb403) (o:=.cells #[.int .i64 x404000_1,.int .i64 x404001_1,.slice Ao11 x404002_1.length co11] 29 (0,0)) (nB BK403.out)):gb403 ≠ gb411));have NB411_403:=aQ ((by rw [hg];exact Nat.ne_of_gt (blk_lt (g:=gb403) (o:=.cells #[.int .i64 x404000_1,.int .i64 x404001_1,.slice Ao11 x404002_1.length co11] 29 (0,0)) (nB BK403.out)):gb411 ≠ gb403));replace BK403:=aQ (blk_below (g:=gb403) (o:=.cells #[.int .i64 x404000_1,.int .i64 x404001_1,.slice Ao11 x404002_1.length co11] 29 (0,0)) (nB BK403.out) hb);clear hb hbox hg;have hnb14:=NB411_403.out;have hnc14:=NB403_411.out;have hcz15_0:w13.cell? ⟨gb411,0,none⟩ = some (.int .i64 0):=(blk_cell BK411.out 0).trans rfl;have hcz15_1:w13.cell? ⟨gb411,1,none⟩ = some (.int .i64 0):=(blk_cell BK411.out 1).trans rfl;have hcz15_2:w13.cell? ⟨gb411,2,none⟩ = some (.slice none 0 0):=(blk_cell BK411.out 2).trans rfl;have hfz15_0:=blk_frozen BK411.out 0;have hfz15_1:=blk_frozen BK411.out 1;have hfz15_2:=blk_frozen BK411.out 2;obtain ⟨Ao16,co16,eo16⟩:=Kd.N_slice HO409.out;subst eo16;have hcz17_0:w13.cell? ⟨gb403,0,none⟩ = some (.int .i64 x404000_1):=(blk_cell BK403.out 0).trans rfl;have hcz17_1:w13.cell? ⟨gb403,1,none⟩ = some (.int .i64 x404001_1):=(blk_cell BK403.out 1).trans rfl;have hcz17_2:w13.cell? ⟨gb403,2,none⟩ = some (.slice Ao11 x404002_1.length co11):=(blk_cell BK403.out 2).trans rfl;have hfz17_0:=blk_frozen BK403.out 0;have hfz17_1:=blk_frozen BK403.out 1;have hfz17_2:=blk_frozen BK403.out 2))
     go_roundg k1
     case measure=>have:=HK1.out;omega
     case rel=>exact ⟨(wrap64 (x3_1 + 1)),(t405),(t406),(t407),(.slice Ao16 t407.length co16),rfl,H',⟨by have:=HK1.out;omega⟩,⟨Kd.N_V (nN (Kd.N_mono (Kd.N_far (p:=⟨gb403,2,none⟩) (Kd.N_far (p:=⟨gb403,1,none⟩) (Kd.N_far (p:=⟨gb403,0,none⟩) (Kd.N_far (p:=⟨gb411,2,none⟩) (Kd.N_far (p:=⟨gb411,1,none⟩) (Kd.N_far (p:=⟨gb411,0,none⟩) (Kd.N_mono (Kd.N_mono HO409.out (fun k_ hk=>(⟨hk,hk.2⟩:_∧k_ ≠ gb411))) (fun k_ hk=>(⟨hk,hk.1.1.2⟩:_∧k_ ≠ gb403))) (fun _ hk=>hk.1.2) (.int .i64 t405)) (fun _ hk=>hk.1.2) (.int .i64 t406)) (fun _ hk=>hk.1.2) (.slice Ao16 t407.length co16)) (fun _ hk=>hk.2) (.int .i64 t405)) (fun _ hk=>hk.2) (.int .i64 t406)) (fun _ hk=>hk.2) (.slice Ao16 t407.length co16)) (fun _ hk=>⟨hk.1.1.1.1,hk.1.1.1.2⟩)))⟩,⟨by (with_reducible repeat (first | refine blk_drewN ?_ _ | refine blk_drew ?_ | refine blk_alloc ?_ _));refine blk_put (cs:=#[.int .i64 t405,.int .i64 t406,.slice Ao11 x404002_1.length co11]) ?_ 2 _ rfl;(with_reducible repeat (first | refine blk_drewN ?_ _ | refine blk_drew ?_ | refine blk_alloc ?_ _));refine blk_put (cs:=#[.int .i64 t405,.int .i64 x404001_1,.slice Ao11 x404002_1.length co11]) ?_ 1 _ rfl;(with_reducible repeat (first | refine blk_drewN ?_ _ | refine blk_drew ?_ | refine blk_alloc ?_ _));refine blk_put (cs:=#[.int .i64 x404000_1,.int .i64 x404001_1,.slice Ao11 x404002_1.length co11]) ?_ 0 _ rfl;(with_reducible repeat (first | refine blk_drewN ?_ _ | refine blk_drew ?_ | refine blk_alloc ?_ _));refine blk_far ?_ NB403_411.out _;(with_reducible repeat (first | refine blk_drewN ?_ _ | refine blk_drew ?_ | refine blk_alloc ?_ _));refine blk_far ?_ NB403_411.out _;(with_reducible repeat (first | refine blk_drewN ?_ _ | refine blk_drew ?_ | refine blk_alloc ?_ _));refine blk_far ?_ NB403_411.out _;(with_reducible repeat (first | refine blk_drewN ?_ _ | refine blk_drew ?_ | refine blk_alloc ?_ _));exact BK403.out⟩,⟨bB⟩⟩
    ·replace c9:=Bool.eq_false_iff.mpr c9
     subst c9
     have H1:(some x3_1) = some r:=by rw [if_neg (show ¬ (false = true) by decide)] at H;exact H
     clear H
     have H:=H1
     clear H1
     obtain rfl:=Option.some.inj H
     have hcz18_0:wr.cell? ⟨gb403,0,none⟩ = some (.int .i64 x404000_1):=(blk_cell BK403.out 0).trans rfl
     have hcz18_1:wr.cell? ⟨gb403,1,none⟩ = some (.int .i64 x404001_1):=(blk_cell BK403.out 1).trans rfl
     have hcz18_2:wr.cell? ⟨gb403,2,none⟩ = some (u404002):=(blk_cell BK403.out 2).trans rfl
     have hfz18_0:=blk_frozen BK403.out 0
     have hfz18_1:=blk_frozen BK403.out 1
     have hfz18_2:=blk_frozen BK403.out 2
     obtain ⟨Ao19,co19,eo19⟩:=Kd.V_slice HO_404002.out
     subst eo19
     go_wp2_with (first | ((with_reducible refine gate_callee (f:=49) rfl ?_);refine goesL_ (some 13) rfl rfl Try.func49 (by kernel_rfl) rfl #[.agg #[.int .i64 x404000_1,.int .i64 x404001_1,.slice Ao19 x404002_1.length co19]] rfl mP ?_;(with_reducible refine (impl_pass.calls k1 x404000_1 x404001_1 (fun k_=>((P0_2_ k_ ∨ w.heap.size ≤ k_)∧k_ ≠ gb403)) _ _ x404002_1 t405 t406 t407 false _ ?side1 A8.out).mono ?_);(case side1=>exact HO_404002.out);rintro e w20 ⟨v408,rfl,ho0,hb⟩;refine ⟨_,rfl,?_⟩;replace HO_404002:=aQ (Kd.V_elder' (nV HO_404002.out) (Kd.N_base ho0) hb);have HO409:=aQ (Kd.N_lower (Kd.N_mono (ok':=fun k_=>(P0_2_ k_ ∨ w.heap.size ≤ k_)∧k_ ≠ gb403) ho0 (fun k_ hk_=>⟨Or.elim hk_ (fun hs_=>hs_.1) (fun hn_=>(.inr (Nat.le_trans (below_size bB) hn_))),Or.elim hk_ (fun hs_=>hs_.2) (fun hn_=>(Kd.freshB (g:=gb403) (o:=.cells #[.int .i64 x404000_1,.int .i64 x404001_1,.slice Ao19 x404002_1.length co19] 29 (0,0)) (nB BK403.out) k_ hn_))⟩)) (below_size bB));replace BK403:=aQ (blk_below (g:=gb403) (o:=.cells #[.int .i64 x404000_1,.int .i64 x404001_1,.slice Ao19 x404002_1.length co19] 29 (0,0)) (nB BK403.out) hb);replace HB:=aQ (below_step bB hb);(try clear hb);(try clear ho0)) | ((with_reducible refine gate_dst (N:=4) rfl ?_);refine box1 (N:=4) (cs:=#[.int .i64 0,.int .i64 0,.slice none 0 0]) (t:=29) ?_;intro gb411 hg w21 hbox hb;replace HO_404002:=aQ (Kd.V_below (Kd.V_elderB (nV HO_404002.out) gb411 (Nat.le_of_eq hg.symm)) hb);replace HO409:=aQ (Kd.N_below (Kd.N_elderB (nN HO409.out) gb411 (Nat.le_of_eq hg.symm)) hb);have BK411:=aQ (hbox);have GW411:=aQ ((by rw [hg];exact (below_size bB):w.heap.size ≤ gb411));have GE411:=aQ ((by rw [hg];exact (below_size bB):w.heap.size ≤ gb411));replace HB:=aQ (below_step bB hb);have NB403_411:=aQ ((by rw [hg];exact Nat.ne_of_lt (blk_lt (g:=gb403) (o:=.cells #[.int .i64 x404000_1,.int .i64 x404001_1,.slice Ao19 x404002_1.length co19] 29 (0,0)) (nB BK403.out)):gb403 ≠ gb411));have NB411_403:=aQ ((by rw [hg];exact Nat.ne_of_gt (blk_lt (g:=gb403) (o:=.cells #[.int .i64 x404000_1,.int .i64 x404001_1,.slice Ao19 x404002_1.length co19] 29 (0,0)) (nB BK403.out)):gb411 ≠ gb403));replace BK403:=aQ (blk_below (g:=gb403) (o:=.cells #[.int .i64 x404000_1,.int .i64 x404001_1,.slice Ao19 x404002_1.length co19] 29 (0,0)) (nB BK403.out) hb);clear hb hbox hg;have hnb22:=NB411_403.out;have hnc22:=NB403_411.out;have hcz23_0:w21.cell? ⟨gb411,0,none⟩ = some (.int .i64 0):=(blk_cell BK411.out 0).trans rfl;have hcz23_1:w21.cell? ⟨gb411,1,none⟩ = some (.int .i64 0):=(blk_cell BK411.out 1).trans rfl;have hcz23_2:w21.cell? ⟨gb411,2,none⟩ = some (.slice none 0 0):=(blk_cell BK411.out 2).trans rfl;have hfz23_0:=blk_frozen BK411.out 0;have hfz23_1:=blk_frozen BK411.out 1;have hfz23_2:=blk_frozen BK411.out 2;obtain ⟨Ao24,co24,eo24⟩:=Kd.N_slice HO409.out;subst eo24))
     go_ret
     exact ⟨rfl,bB⟩
 ·replace c3:=Bool.eq_false_iff.mpr c3
  subst c3
  have H1:(some (-1)) = some r:=by rw [if_neg (show ¬ (false = true) by decide)] at H;exact H
  clear H
  have H:=H1
  clear H1
  obtain rfl:=Option.some.inj H
  go_enter Try.func20,Try.ntmps20
  go_wp2_with (first | ((with_reducible refine gate_dst (N:=1) rfl ?_);refine box1 (N:=1) (cs:=#[.int .i64 a0_0,.int .i64 a0_1,.slice A0_2 l0_2.length c0_2]) (t:=29) ?_;intro gb403 hg w25 hbox hb;replace HO0_2:=aQ (Kd.V_below (Kd.V_elderB (nV HO0_2.out) gb403 (Nat.le_of_eq hg.symm)) hb);have BK403:=aQ (hbox);have GW403:=aQ ((by rw [hg];exact (below_size bB):w.heap.size ≤ gb403));have GE403:=aQ ((by rw [hg];exact (below_size bB):w.heap.size ≤ gb403));replace HB:=aQ (below_step bB hb);clear hb hbox hg;have hcz26_0:w25.cell? ⟨gb403,0,none⟩ = some (.int .i64 a0_0):=(blk_cell BK403.out 0).trans rfl;have hcz26_1:w25.cell? ⟨gb403,1,none⟩ = some (.int .i64 a0_1):=(blk_cell BK403.out 1).trans rfl;have hcz26_2:w25.cell? ⟨gb403,2,none⟩ = some (.slice A0_2 l0_2.length c0_2):=(blk_cell BK403.out 2).trans rfl;have hfz26_0:=blk_frozen BK403.out 0;have hfz26_1:=blk_frozen BK403.out 1;have hfz26_2:=blk_frozen BK403.out 2) | ((with_reducible refine gate_callee (f:=16) rfl ?_);refine goesL_ (some 7) rfl rfl Try.func16 (by kernel_rfl) rfl #[.agg #[.int .i64 a0_0,.int .i64 a0_1,.slice A0_2 l0_2.length c0_2]] rfl mP ?_;(with_reducible refine (impl_ClockOk.calls k a0_0 a0_1 _ _ l0_2 false _ ?side1 ?side2 A2.out).mono ?_);(case side1=>repeat (first | exact (Kd.V_reads' HO0_2.out).2.2 | (with_reducible refine Kd.C_alloc ?_ _) | (with_reducible refine Kd.C_drewN ?_ _) | (with_reducible refine Kd.C_drew ?_)));(case side2=>exact (Kd.V_reads' HO0_2.out).2.1);rintro e w27 ⟨rfl,hb⟩;refine ⟨_,rfl,?_⟩;replace HO0_2:=aQ (Kd.V_below (nV HO0_2.out) hb);replace BK403:=aQ (blk_below (g:=gb403) (o:=.cells #[.int .i64 a0_0,.int .i64 a0_1,.slice A0_2 l0_2.length c0_2] 29 (0,0)) (nB BK403.out) hb);replace HB:=aQ (below_step bB hb);(try clear hb)))
  go_ret
  exact ⟨rfl,bB⟩
def laws_FnExactClockUrgent.f (k:Nat) (a0_0:Int) (a0_1:Int) (l0_2:List (S24)):Option (Bool):=(laws_szClock.f k a0_0 a0_1 l0_2 1048576).bind fun t580=>(if t580 < 0 then (some true) else ((laws_toClock.f k a0_0 a0_1 l0_2).bind fun bt581=>((spec_ClockUrgent.f k bt581.1 bt581.2.1 bt581.2.2).bind fun t586=>((laws_toClock.f k a0_0 a0_1 l0_2).bind fun bt587=>((impl_ClockUrgent.f k bt587.1 bt587.2.1 bt587.2.2).bind fun t593=>(if t593 = t586 then ((laws_toClock.f k a0_0 a0_1 l0_2).bind fun bt594=>((laws_eqClock.f k bt587.1 bt587.2.1 bt587.2.2 bt594.1 bt594.2.1 bt594.2.2).bind fun t599=>(if t599 = true then (some true) else (some false)))) else (some false)))))))
theorem laws_FnExactClockUrgent.mono:∀ a0 a1 a2 k,LeO (laws_FnExactClockUrgent.f k a0 a1 a2) (laws_FnExactClockUrgent.f (k + 1) a0 a1 a2):=by
 intro a0 a1 a2 k
 unfold laws_FnExactClockUrgent.f
 repeat' first
   | (with_reducible exact impl_ClockUrgent.mono _ _ _ _)
   | (with_reducible exact laws_eqClock.mono _ _ _ _ _ _ _)
   | (with_reducible exact laws_szClock.mono _ _ _ _ _)
   | (with_reducible exact laws_toClock.mono _ _ _ _)
   | (with_reducible exact spec_ClockUrgent.mono _ _ _ _)
   | (with_reducible exact LeO.refl _)
   | (with_reducible exact LeO.none _)
   | (with_reducible refine LeO.ite ?_ ?_)
   | (with_reducible refine LeO.bind ?_ (fun _=>?_))
   | exact impl_ClockUrgent.mono _ _ _ _
   | exact laws_eqClock.mono _ _ _ _ _ _ _
   | exact laws_szClock.mono _ _ _ _ _
   | exact laws_toClock.mono _ _ _ _
   | exact spec_ClockUrgent.mono _ _ _ _
   | exact LeO.none _
   | refine LeO.ite ?_ ?_
   | refine LeO.bind ?_ (fun _=>?_)
set_option maxHeartbeats 8000000 in
set_option maxRecDepth 100000 in
theorem laws_FnExactClockUrgent.calls (k:Nat) (a0_0:Int) (a0_1:Int) (A0_2:Option Addr) (c0_2:Nat) (l0_2:List (S24)) (r:Bool) (w:World) (hr0_2:Kd.C k24 w A0_2 l0_2.length l0_2) (hc0_2:l0_2.length ≤ c0_2) (h:laws_FnExactClockUrgent.f k a0_0 a0_1 l0_2 = some r) :
  Calls Try.prog 5 #[.agg #[.int .i64 a0_0,.int .i64 a0_1,.slice A0_2 l0_2.length c0_2]] w fun e w'=>e = .returned (.bool r)∧Below w.heap.size w w':=by
 have hu24:=Try.underlying24
 have hu29:=Try.underlying29
 have HR0_2:=aQ hr0_2
 have HC0_2:=aQ hc0_2
 clear hr0_2 hc0_2
 have HB:=aQ (Below.refl w.heap.size w)
 have H:((laws_szClock.f k a0_0 a0_1 l0_2 1048576).bind fun t580=>(if t580 < 0 then (some true) else ((laws_toClock.f k a0_0 a0_1 l0_2).bind fun bt581=>((spec_ClockUrgent.f k bt581.1 bt581.2.1 bt581.2.2).bind fun t586=>((laws_toClock.f k a0_0 a0_1 l0_2).bind fun bt587=>((impl_ClockUrgent.f k bt587.1 bt587.2.1 bt587.2.2).bind fun t593=>(if t593 = t586 then ((laws_toClock.f k a0_0 a0_1 l0_2).bind fun bt594=>((laws_eqClock.f k bt587.1 bt587.2.1 bt587.2.2 bt594.1 bt594.2.1 bt594.2.2).bind fun t599=>(if t599 = true then (some true) else (some false)))) else (some false)))))))) = some r:=h
 clear h
 obtain ⟨t580,A2,H⟩:=bQ H
 replace H:(if t580 < 0 then (some true) else ((laws_toClock.f k a0_0 a0_1 l0_2).bind fun bt581=>((spec_ClockUrgent.f k bt581.1 bt581.2.1 bt581.2.2).bind fun t586=>((laws_toClock.f k a0_0 a0_1 l0_2).bind fun bt587=>((impl_ClockUrgent.f k bt587.1 bt587.2.1 bt587.2.2).bind fun t593=>(if t593 = t586 then ((laws_toClock.f k a0_0 a0_1 l0_2).bind fun bt594=>((laws_eqClock.f k bt587.1 bt587.2.1 bt587.2.2 bt594.1 bt594.2.1 bt594.2.2).bind fun t599=>(if t599 = true then (some true) else (some false)))) else (some false))))))) = some r:=H
 by_cases c3:t580 < 0
 ·rw [if_pos c3] at H
  have c3b0:decide (t580 < 0) = true:=decide_eq_true c3
  clear c3
  obtain rfl:=Option.some.inj H
  go_enter Try.func5,Try.ntmps5
  go_wp2_with (first | ((with_reducible refine gate_dst (N:=1) rfl ?_);refine box1 (N:=1) (cs:=#[.int .i64 a0_0,.int .i64 a0_1,.slice A0_2 l0_2.length c0_2]) (t:=24) ?_;intro gb579 hg w4 hbox hb;have BK579:=aQ (hbox);have GW579:=aQ ((by rw [hg];exact (below_size bB):w.heap.size ≤ gb579));have GE579:=aQ ((by rw [hg];exact (below_size bB):w.heap.size ≤ gb579));replace HB:=aQ (below_step bB hb);clear hb hbox hg;have hcz5_0:w4.cell? ⟨gb579,0,none⟩ = some (.int .i64 a0_0):=(blk_cell BK579.out 0).trans rfl;have hcz5_1:w4.cell? ⟨gb579,1,none⟩ = some (.int .i64 a0_1):=(blk_cell BK579.out 1).trans rfl;have hcz5_2:w4.cell? ⟨gb579,2,none⟩ = some (.slice A0_2 l0_2.length c0_2):=(blk_cell BK579.out 2).trans rfl;have hfz5_0:=blk_frozen BK579.out 0;have hfz5_1:=blk_frozen BK579.out 1;have hfz5_2:=blk_frozen BK579.out 2) | ((with_reducible refine gate_callee (f:=13) rfl ?_);refine goesL_ (some 9) rfl rfl Try.func13 (by kernel_rfl) rfl #[.agg #[.int .i64 a0_0,.int .i64 a0_1,.slice A0_2 l0_2.length c0_2],.int .i64 1048576] rfl mP ?_;(with_reducible refine (laws_szClock.calls k a0_0 a0_1 _ _ l0_2 1048576 t580 _ ?side1 ?side2 A2.out).mono ?_);(case side1=>repeat (first | exact (Kd.C_below HR0_2.out HB.out) | (with_reducible refine Kd.C_alloc ?_ _) | (with_reducible refine Kd.C_drewN ?_ _) | (with_reducible refine Kd.C_drew ?_)));(case side2=>exact HC0_2.out);rintro e w6 ⟨rfl,hb⟩;refine ⟨_,rfl,?_⟩;replace BK579:=aQ (blk_below (g:=gb579) (o:=.cells #[.int .i64 a0_0,.int .i64 a0_1,.slice A0_2 l0_2.length c0_2] 24 (0,0)) (nB BK579.out) hb);replace HB:=aQ (below_step bB hb);(try clear hb)))
  go_ret
  exact ⟨by first | rfl | (simp [errW_none,errW_some] <;> rfl) | (simp [*,errW_none,errW_some] <;> rfl),bB⟩
 rw [if_neg c3] at H
 have c3b0:decide (t580 < 0) = false:=decide_eq_false c3
 clear c3
 obtain ⟨⟨t581,t582,t583⟩,A7,H⟩:=bQ H
 replace H:((spec_ClockUrgent.f k t581 t582 t583).bind fun t586=>((laws_toClock.f k a0_0 a0_1 l0_2).bind fun bt587=>((impl_ClockUrgent.f k bt587.1 bt587.2.1 bt587.2.2).bind fun t593=>(if t593 = t586 then ((laws_toClock.f k a0_0 a0_1 l0_2).bind fun bt594=>((laws_eqClock.f k bt587.1 bt587.2.1 bt587.2.2 bt594.1 bt594.2.1 bt594.2.2).bind fun t599=>(if t599 = true then (some true) else (some false)))) else (some false))))) = some r:=H
 obtain ⟨t586,A8,H⟩:=bQ H
 replace H:((laws_toClock.f k a0_0 a0_1 l0_2).bind fun bt587=>((impl_ClockUrgent.f k bt587.1 bt587.2.1 bt587.2.2).bind fun t593=>(if t593 = t586 then ((laws_toClock.f k a0_0 a0_1 l0_2).bind fun bt594=>((laws_eqClock.f k bt587.1 bt587.2.1 bt587.2.2 bt594.1 bt594.2.1 bt594.2.2).bind fun t599=>(if t599 = true then (some true) else (some false)))) else (some false)))) = some r:=H
 obtain ⟨⟨t587,t588,t589⟩,A9,H⟩:=bQ H
 replace H:((impl_ClockUrgent.f k t587 t588 t589).bind fun t593=>(if t593 = t586 then ((laws_toClock.f k a0_0 a0_1 l0_2).bind fun bt594=>((laws_eqClock.f k t587 t588 t589 bt594.1 bt594.2.1 bt594.2.2).bind fun t599=>(if t599 = true then (some true) else (some false)))) else (some false))) = some r:=H
 obtain ⟨t593,A10,H⟩:=bQ H
 replace H:(if t593 = t586 then ((laws_toClock.f k a0_0 a0_1 l0_2).bind fun bt594=>((laws_eqClock.f k t587 t588 t589 bt594.1 bt594.2.1 bt594.2.2).bind fun t599=>(if t599 = true then (some true) else (some false)))) else (some false)) = some r:=H
 by_cases c11:t593 = t586;rotate_left
 ·rw [if_neg c11] at H
  have c11b0:(t593 == t586) = false:=beq_eq_false_iff_ne.mpr c11
  have c11b1:(t593 != t586) = true:=bne_iff_ne.mpr c11
  obtain rfl:=Option.some.inj H
  go_enter Try.func5,Try.ntmps5
  go_wp2_with (first | ((with_reducible refine gate_dst (N:=1) rfl ?_);refine box1 (N:=1) (cs:=#[.int .i64 a0_0,.int .i64 a0_1,.slice A0_2 l0_2.length c0_2]) (t:=24) ?_;intro gb579 hg w55 hbox hb;have BK579:=aQ (hbox);have GW579:=aQ ((by rw [hg];exact (below_size bB):w.heap.size ≤ gb579));have GE579:=aQ ((by rw [hg];exact (below_size bB):w.heap.size ≤ gb579));replace HB:=aQ (below_step bB hb);clear hb hbox hg;have hcz56_0:w55.cell? ⟨gb579,0,none⟩ = some (.int .i64 a0_0):=(blk_cell BK579.out 0).trans rfl;have hcz56_1:w55.cell? ⟨gb579,1,none⟩ = some (.int .i64 a0_1):=(blk_cell BK579.out 1).trans rfl;have hcz56_2:w55.cell? ⟨gb579,2,none⟩ = some (.slice A0_2 l0_2.length c0_2):=(blk_cell BK579.out 2).trans rfl;have hfz56_0:=blk_frozen BK579.out 0;have hfz56_1:=blk_frozen BK579.out 1;have hfz56_2:=blk_frozen BK579.out 2) | ((with_reducible refine gate_callee (f:=13) rfl ?_);refine goesL_ (some 9) rfl rfl Try.func13 (by kernel_rfl) rfl #[.agg #[.int .i64 a0_0,.int .i64 a0_1,.slice A0_2 l0_2.length c0_2],.int .i64 1048576] rfl mP ?_;(with_reducible refine (laws_szClock.calls k a0_0 a0_1 _ _ l0_2 1048576 t580 _ ?side1 ?side2 A2.out).mono ?_);(case side1=>repeat (first | exact (Kd.C_below HR0_2.out HB.out) | (with_reducible refine Kd.C_alloc ?_ _) | (with_reducible refine Kd.C_drewN ?_ _) | (with_reducible refine Kd.C_drew ?_)));(case side2=>exact HC0_2.out);rintro e w57 ⟨rfl,hb⟩;refine ⟨_,rfl,?_⟩;replace BK579:=aQ (blk_below (g:=gb579) (o:=.cells #[.int .i64 a0_0,.int .i64 a0_1,.slice A0_2 l0_2.length c0_2] 24 (0,0)) (nB BK579.out) hb);replace HB:=aQ (below_step bB hb);(try clear hb);have hcz58_0:w57.cell? ⟨gb579,0,none⟩ = some (.int .i64 a0_0):=(blk_cell BK579.out 0).trans rfl;have hcz58_1:w57.cell? ⟨gb579,1,none⟩ = some (.int .i64 a0_1):=(blk_cell BK579.out 1).trans rfl;have hcz58_2:w57.cell? ⟨gb579,2,none⟩ = some (.slice A0_2 l0_2.length c0_2):=(blk_cell BK579.out 2).trans rfl;have hfz58_0:=blk_frozen BK579.out 0;have hfz58_1:=blk_frozen BK579.out 1;have hfz58_2:=blk_frozen BK579.out 2) | ((with_reducible refine gate_callee (f:=15) rfl ?_);refine goesL_ (some 13) rfl rfl Try.func15 (by kernel_rfl) rfl #[.agg #[.int .i64 a0_0,.int .i64 a0_1,.slice A0_2 l0_2.length c0_2]] rfl mP ?_;(with_reducible refine (laws_toClock.calls k a0_0 a0_1 _ _ l0_2 t581 t582 t583 _ ?side1 ?side2 A7.out).mono ?_);(case side1=>repeat (first | exact (Kd.C_below HR0_2.out HB.out) | (with_reducible refine Kd.C_alloc ?_ _) | (with_reducible refine Kd.C_drewN ?_ _) | (with_reducible refine Kd.C_drew ?_)));(case side2=>exact HC0_2.out);rintro e w59 ⟨v584,rfl,ho0,hb⟩;refine ⟨_,rfl,?_⟩;have HO585:=aQ (Kd.R_lower ho0 (below_size bB));replace BK579:=aQ (blk_below (g:=gb579) (o:=.cells #[.int .i64 a0_0,.int .i64 a0_1,.slice A0_2 l0_2.length c0_2] 24 (0,0)) (nB BK579.out) hb);replace HB:=aQ (below_step bB hb);(try clear hb);(try clear ho0);obtain ⟨Ao60,co60,eo60⟩:=Kd.R_slice HO585.out;subst eo60) | ((with_reducible refine gate_callee (f:=21) rfl ?_);refine goesL_ (some 14) rfl rfl Try.func21 (by kernel_rfl) rfl #[.agg #[.int .i64 t581,.int .i64 t582,.slice Ao60 t583.length co60]] rfl mP ?_;(with_reducible refine (spec_ClockUrgent.calls k t581 t582 (fun k_=>(True∧k_ ≠ gb579)) _ _ t583 t586 _ ?side1 A8.out).mono ?_);(case side1=>exact Kd.R_V (Kd.R_types (HO585.out) BK579.out (by decide)));rintro e w61 ⟨rfl,hb⟩;refine ⟨_,rfl,?_⟩;replace HO585:=aQ (Kd.R_below (nR HO585.out) hb);replace BK579:=aQ (blk_below (g:=gb579) (o:=.cells #[.int .i64 a0_0,.int .i64 a0_1,.slice A0_2 l0_2.length c0_2] 24 (0,0)) (nB BK579.out) hb);replace HB:=aQ (below_step bB hb);(try clear hb);have hcz62_0:w61.cell? ⟨gb579,0,none⟩ = some (.int .i64 a0_0):=(blk_cell BK579.out 0).trans rfl;have hcz62_1:w61.cell? ⟨gb579,1,none⟩ = some (.int .i64 a0_1):=(blk_cell BK579.out 1).trans rfl;have hcz62_2:w61.cell? ⟨gb579,2,none⟩ = some (.slice A0_2 l0_2.length c0_2):=(blk_cell BK579.out 2).trans rfl;have hfz62_0:=blk_frozen BK579.out 0;have hfz62_1:=blk_frozen BK579.out 1;have hfz62_2:=blk_frozen BK579.out 2) | ((with_reducible refine gate_callee (f:=15) rfl ?_);refine goesL_ (some 16) rfl rfl Try.func15 (by kernel_rfl) rfl #[.agg #[.int .i64 a0_0,.int .i64 a0_1,.slice A0_2 l0_2.length c0_2]] rfl mP ?_;(with_reducible refine (laws_toClock.calls k a0_0 a0_1 _ _ l0_2 t587 t588 t589 _ ?side1 ?side2 A9.out).mono ?_);(case side1=>repeat (first | exact (Kd.C_below HR0_2.out HB.out) | (with_reducible refine Kd.C_alloc ?_ _) | (with_reducible refine Kd.C_drewN ?_ _) | (with_reducible refine Kd.C_drew ?_)));(case side2=>exact HC0_2.out);rintro e w63 ⟨v590,rfl,ho0,hb⟩;refine ⟨_,rfl,?_⟩;have HO591:=aQ (Kd.R_lower (Kd.R_new' ho0 (Kd.R_lt (nR HO585.out))) (below_size bB));replace HO585:=aQ (Kd.R_elder' (nR HO585.out) (Kd.R_base ho0) hb);replace BK579:=aQ (blk_below (g:=gb579) (o:=.cells #[.int .i64 a0_0,.int .i64 a0_1,.slice A0_2 l0_2.length c0_2] 24 (0,0)) (nB BK579.out) hb);replace HB:=aQ (below_step bB hb);(try clear hb);(try clear ho0)) | ((with_reducible refine gate_dst (N:=5) rfl ?_);refine box1 (N:=5) (cs:=#[.int .i64 0,.int .i64 0,.slice none 0 0]) (t:=29) ?_;intro gb592 hg w64 hbox hb;replace HO585:=aQ (Kd.R_below (Kd.R_elderB (nR HO585.out) gb592 (Nat.le_of_eq hg.symm)) hb);replace HO591:=aQ (Kd.R_below (Kd.R_elderB (nR HO591.out) gb592 (Nat.le_of_eq hg.symm)) hb);have BK592:=aQ (hbox);have GW592:=aQ ((by rw [hg];exact (below_size bB):w.heap.size ≤ gb592));have GE592:=aQ ((by rw [hg];exact (below_size bB):w.heap.size ≤ gb592));replace HB:=aQ (below_step bB hb);have NB579_592:=aQ ((by rw [hg];exact Nat.ne_of_lt (blk_lt (g:=gb579) (o:=.cells #[.int .i64 a0_0,.int .i64 a0_1,.slice A0_2 l0_2.length c0_2] 24 (0,0)) (nB BK579.out)):gb579 ≠ gb592));have NB592_579:=aQ ((by rw [hg];exact Nat.ne_of_gt (blk_lt (g:=gb579) (o:=.cells #[.int .i64 a0_0,.int .i64 a0_1,.slice A0_2 l0_2.length c0_2] 24 (0,0)) (nB BK579.out)):gb592 ≠ gb579));replace BK579:=aQ (blk_below (g:=gb579) (o:=.cells #[.int .i64 a0_0,.int .i64 a0_1,.slice A0_2 l0_2.length c0_2] 24 (0,0)) (nB BK579.out) hb);clear hb hbox hg;have hnb65:=NB592_579.out;have hnc65:=NB579_592.out;have hcz66_0:w64.cell? ⟨gb592,0,none⟩ = some (.int .i64 0):=(blk_cell BK592.out 0).trans rfl;have hcz66_1:w64.cell? ⟨gb592,1,none⟩ = some (.int .i64 0):=(blk_cell BK592.out 1).trans rfl;have hcz66_2:w64.cell? ⟨gb592,2,none⟩ = some (.slice none 0 0):=(blk_cell BK592.out 2).trans rfl;have hfz66_0:=blk_frozen BK592.out 0;have hfz66_1:=blk_frozen BK592.out 1;have hfz66_2:=blk_frozen BK592.out 2;obtain ⟨Ao67,co67,eo67⟩:=Kd.R_slice HO591.out;subst eo67) | ((with_reducible refine gate_store (t:=29) (p:=5) rfl ?_);refine store_event (t:=29) (p:=5) (v:=?vo_w68) (w1:=(((w64.setCell ⟨gb592,0,none⟩ (.int .i64 t587)).setCell ⟨gb592,1,none⟩ (.int .i64 t588)).setCell ⟨gb592,2,none⟩ (.slice Ao67 t589.length co67))) ?hg ?ho ?hn ?hr ?_;(case ho=>rfl);(case hg=>rfl);(case hn=>rfl);(case hr=>first | (go_simp;done) | (go_simp;rfl));intro w68 hw;have n0_:Aside0 (Kd.R k29 29 w68 w.heap.size (fun k_=>some k_ ≠ (.slice Ao67 t589.length co67:Value).ownBlock∧k_ ≠ gb592) (.slice Ao60 t583.length co60) t583):=⟨(by rw [hw];exact (nR (Kd.R_mono (Kd.R_far (p:=⟨gb592,2,none⟩) (Kd.R_far (p:=⟨gb592,1,none⟩) (Kd.R_far (p:=⟨gb592,0,none⟩) (Kd.R_mono HO585.out (fun k_ hk=>(⟨hk,hk.2⟩:_∧k_ ≠ gb592))) (fun _ hk=>hk.2) (.int .i64 t587)) (fun _ hk=>hk.2) (.int .i64 t588)) (fun _ hk=>hk.2) (.slice Ao67 t589.length co67)) (fun _ hk=>⟨hk.1.1.2,hk.1.2⟩))))⟩;have n1_:Aside0 (Kd.R k29 29 w68 w.heap.size (fun k_=>some k_ ≠ (.slice Ao60 t583.length co60:Value).ownBlock∧k_ ≠ gb592) (.slice Ao67 t589.length co67) t589):=⟨(by rw [hw];exact (nR (Kd.R_mono (Kd.R_far (p:=⟨gb592,2,none⟩) (Kd.R_far (p:=⟨gb592,1,none⟩) (Kd.R_far (p:=⟨gb592,0,none⟩) (Kd.R_mono HO591.out (fun k_ hk=>(⟨hk,hk.2⟩:_∧k_ ≠ gb592))) (fun _ hk=>hk.2) (.int .i64 t587)) (fun _ hk=>hk.2) (.int .i64 t588)) (fun _ hk=>hk.2) (.slice Ao67 t589.length co67)) (fun _ hk=>⟨hk.1.1.2,hk.1.2⟩))))⟩;have n2_:Aside0 (w68.heap[gb579]? = some (.cells #[.int .i64 a0_0,.int .i64 a0_1,.slice A0_2 l0_2.length c0_2] 24 (0,0))):=⟨(by rw [hw];exact bF)⟩;have n3_:Aside0 (w68.heap[gb592]? = some (.cells #[.int .i64 t587,.int .i64 t588,.slice Ao67 t589.length co67] 29 (0,0))):=⟨(by rw [hw];exact (by (with_reducible repeat (first | refine blk_drewN ?_ _ | refine blk_drew ?_ | refine blk_alloc ?_ _));refine blk_put (cs:=#[.int .i64 t587,.int .i64 t588,.slice none 0 0]) ?_ 2 _ rfl;(with_reducible repeat (first | refine blk_drewN ?_ _ | refine blk_drew ?_ | refine blk_alloc ?_ _));refine blk_put (cs:=#[.int .i64 t587,.int .i64 0,.slice none 0 0]) ?_ 1 _ rfl;(with_reducible repeat (first | refine blk_drewN ?_ _ | refine blk_drew ?_ | refine blk_alloc ?_ _));refine blk_put (cs:=#[.int .i64 0,.int .i64 0,.slice none 0 0]) ?_ 0 _ rfl;(with_reducible repeat (first | refine blk_drewN ?_ _ | refine blk_drew ?_ | refine blk_alloc ?_ _));exact BK592.out))⟩;have n4_:Aside0 (Below w.heap.size w w68):=⟨(by rw [hw];exact bB)⟩;clear hw;clear HO585;clear HO591;clear BK579;clear BK592;clear HB;have HO585:=n0_;have HO591:=n1_;have BK579:=n2_;have BK592:=n3_;have HB:=n4_;clear n0_ n1_ n2_ n3_ n4_;have hcz69_0:w68.cell? ⟨gb592,0,none⟩ = some (.int .i64 t587):=(blk_cell BK592.out 0).trans rfl;have hcz69_1:w68.cell? ⟨gb592,1,none⟩ = some (.int .i64 t588):=(blk_cell BK592.out 1).trans rfl;have hcz69_2:w68.cell? ⟨gb592,2,none⟩ = some (.slice Ao67 t589.length co67):=(blk_cell BK592.out 2).trans rfl;have hfz69_0:=blk_frozen BK592.out 0;have hfz69_1:=blk_frozen BK592.out 1;have hfz69_2:=blk_frozen BK592.out 2) | ((with_reducible refine gate_callee (f:=20) rfl ?_);refine goesL_ (some 18) rfl rfl Try.func20 (by kernel_rfl) rfl #[.agg #[.int .i64 t587,.int .i64 t588,.slice Ao67 t589.length co67]] rfl mP ?_;(with_reducible refine (impl_ClockUrgent.calls k t587 t588 (fun k_=>((some k_ ≠ (.slice Ao60 t583.length co60:Value).ownBlock∧k_ ≠ gb592)∧k_ ≠ gb579)) _ _ t589 t593 _ ?side1 A10.out).mono ?_);(case side1=>exact Kd.R_V (Kd.R_types (HO591.out) BK579.out (by decide)));rintro e w70 ⟨rfl,hb⟩;refine ⟨_,rfl,?_⟩;replace HO585:=aQ (Kd.R_below (nR HO585.out) hb);replace HO591:=aQ (Kd.R_below (nR HO591.out) hb);replace BK579:=aQ (blk_below (g:=gb579) (o:=.cells #[.int .i64 a0_0,.int .i64 a0_1,.slice A0_2 l0_2.length c0_2] 24 (0,0)) (nB BK579.out) hb);replace BK592:=aQ (blk_below (g:=gb592) (o:=.cells #[.int .i64 t587,.int .i64 t588,.slice Ao67 t589.length co67] 29 (0,0)) (nB BK592.out) hb);replace HB:=aQ (below_step bB hb);(try clear hb)))
  go_ret
  exact ⟨by first | rfl | (simp [errW_none,errW_some] <;> rfl) | (simp [*,errW_none,errW_some] <;> rfl),bB⟩
 rw [if_pos c11] at H
 have c11b0:(t593 == t586) = true:=beq_iff_eq.mpr c11
 have c11b1:(t593 != t586) = false:=bne_eq_false_iff_eq.mpr c11
 clear c11
 obtain ⟨⟨t594,t595,t596⟩,A12,H⟩:=bQ H
 replace H:((laws_eqClock.f k t587 t588 t589 t594 t595 t596).bind fun t599=>(if t599 = true then (some true) else (some false))) = some r:=H
 obtain ⟨t599,A13,H⟩:=bQ H
 replace H:(if t599 = true then (some true) else (some false)) = some r:=H
 by_cases c14:t599 = true
 ·subst c14
  have H1:(some true) = some r:=by rw [if_pos rfl] at H;exact H
  clear H
  have H:=H1
  clear H1
  obtain rfl:=Option.some.inj H
  go_enter Try.func5,Try.ntmps5
  try go_wp2_with (first | ((with_reducible refine gate_dst (N:=1) rfl ?_);refine box1 (N:=1) (cs:=#[.int .i64 a0_0,.int .i64 a0_1,.slice A0_2 l0_2.length c0_2]) (t:=24) ?_;intro gb579 hg w15 hbox hb;have BK579:=aQ (hbox);have GW579:=aQ ((by rw [hg];exact (below_size bB):w.heap.size ≤ gb579));have GE579:=aQ ((by rw [hg];exact (below_size bB):w.heap.size ≤ gb579));replace HB:=aQ (below_step bB hb);clear hb hbox hg;have hcz16_0:w15.cell? ⟨gb579,0,none⟩ = some (.int .i64 a0_0):=(blk_cell BK579.out 0).trans rfl;have hcz16_1:w15.cell? ⟨gb579,1,none⟩ = some (.int .i64 a0_1):=(blk_cell BK579.out 1).trans rfl;have hcz16_2:w15.cell? ⟨gb579,2,none⟩ = some (.slice A0_2 l0_2.length c0_2):=(blk_cell BK579.out 2).trans rfl;have hfz16_0:=blk_frozen BK579.out 0;have hfz16_1:=blk_frozen BK579.out 1;have hfz16_2:=blk_frozen BK579.out 2) | ((with_reducible refine gate_callee (f:=13) rfl ?_);refine goesL_ (some 9) rfl rfl Try.func13 (by kernel_rfl) rfl #[.agg #[.int .i64 a0_0,.int .i64 a0_1,.slice A0_2 l0_2.length c0_2],.int .i64 1048576] rfl mP ?_;(with_reducible refine (laws_szClock.calls k a0_0 a0_1 _ _ l0_2 1048576 t580 _ ?side1 ?side2 A2.out).mono ?_);(case side1=>repeat (first | exact (Kd.C_below HR0_2.out HB.out) | (with_reducible refine Kd.C_alloc ?_ _) | (with_reducible refine Kd.C_drewN ?_ _) | (with_reducible refine Kd.C_drew ?_)));(case side2=>exact HC0_2.out);rintro e w17 ⟨rfl,hb⟩;refine ⟨_,rfl,?_⟩;replace BK579:=aQ (blk_below (g:=gb579) (o:=.cells #[.int .i64 a0_0,.int .i64 a0_1,.slice A0_2 l0_2.length c0_2] 24 (0,0)) (nB BK579.out) hb);replace HB:=aQ (below_step bB hb);(try clear hb);have hcz18_0:w17.cell? ⟨gb579,0,none⟩ = some (.int .i64 a0_0):=(blk_cell BK579.out 0).trans rfl;have hcz18_1:w17.cell? ⟨gb579,1,none⟩ = some (.int .i64 a0_1):=(blk_cell BK579.out 1).trans rfl;have hcz18_2:w17.cell? ⟨gb579,2,none⟩ = some (.slice A0_2 l0_2.length c0_2):=(blk_cell BK579.out 2).trans rfl;have hfz18_0:=blk_frozen BK579.out 0;have hfz18_1:=blk_frozen BK579.out 1;have hfz18_2:=blk_frozen BK579.out 2) | ((with_reducible refine gate_callee (f:=15) rfl ?_);refine goesL_ (some 13) rfl rfl Try.func15 (by kernel_rfl) rfl #[.agg #[.int .i64 a0_0,.int .i64 a0_1,.slice A0_2 l0_2.length c0_2]] rfl mP ?_;(with_reducible refine (laws_toClock.calls k a0_0 a0_1 _ _ l0_2 t581 t582 t583 _ ?side1 ?side2 A7.out).mono ?_);(case side1=>repeat (first | exact (Kd.C_below HR0_2.out HB.out) | (with_reducible refine Kd.C_alloc ?_ _) | (with_reducible refine Kd.C_drewN ?_ _) | (with_reducible refine Kd.C_drew ?_)));(case side2=>exact HC0_2.out);rintro e w19 ⟨v584,rfl,ho0,hb⟩;refine ⟨_,rfl,?_⟩;have HO585:=aQ (Kd.R_lower ho0 (below_size bB));replace BK579:=aQ (blk_below (g:=gb579) (o:=.cells #[.int .i64 a0_0,.int .i64 a0_1,.slice A0_2 l0_2.length c0_2] 24 (0,0)) (nB BK579.out) hb);replace HB:=aQ (below_step bB hb);(try clear hb);(try clear ho0);obtain ⟨Ao20,co20,eo20⟩:=Kd.R_slice HO585.out;subst eo20) | ((with_reducible refine gate_callee (f:=21) rfl ?_);refine goesL_ (some 14) rfl rfl Try.func21 (by kernel_rfl) rfl #[.agg #[.int .i64 t581,.int .i64 t582,.slice Ao20 t583.length co20]] rfl mP ?_;(with_reducible refine (spec_ClockUrgent.calls k t581 t582 (fun k_=>(True∧k_ ≠ gb579)) _ _ t583 t586 _ ?side1 A8.out).mono ?_);(case side1=>exact Kd.R_V (Kd.R_types (HO585.out) BK579.out (by decide)));rintro e w21 ⟨rfl,hb⟩;refine ⟨_,rfl,?_⟩;replace HO585:=aQ (Kd.R_below (nR HO585.out) hb);replace BK579:=aQ (blk_below (g:=gb579) (o:=.cells #[.int .i64 a0_0,.int .i64 a0_1,.slice A0_2 l0_2.length c0_2] 24 (0,0)) (nB BK579.out) hb);replace HB:=aQ (below_step bB hb);(try clear hb);have hcz22_0:w21.cell? ⟨gb579,0,none⟩ = some (.int .i64 a0_0):=(blk_cell BK579.out 0).trans rfl;have hcz22_1:w21.cell? ⟨gb579,1,none⟩ = some (.int .i64 a0_1):=(blk_cell BK579.out 1).trans rfl;have hcz22_2:w21.cell? ⟨gb579,2,none⟩ = some (.slice A0_2 l0_2.length c0_2):=(blk_cell BK579.out 2).trans rfl;have hfz22_0:=blk_frozen BK579.out 0;have hfz22_1:=blk_frozen BK579.out 1;have hfz22_2:=blk_frozen BK579.out 2) | ((with_reducible refine gate_callee (f:=15) rfl ?_);refine goesL_ (some 16) rfl rfl Try.func15 (by kernel_rfl) rfl #[.agg #[.int .i64 a0_0,.int .i64 a0_1,.slice A0_2 l0_2.length c0_2]] rfl mP ?_;(with_reducible refine (laws_toClock.calls k a0_0 a0_1 _ _ l0_2 t587 t588 t589 _ ?side1 ?side2 A9.out).mono ?_);(case side1=>repeat (first | exact (Kd.C_below HR0_2.out HB.out) | (with_reducible refine Kd.C_alloc ?_ _) | (with_reducible refine Kd.C_drewN ?_ _) | (with_reducible refine Kd.C_drew ?_)));(case side2=>exact HC0_2.out);rintro e w23 ⟨v590,rfl,ho0,hb⟩;refine ⟨_,rfl,?_⟩;have HO591:=aQ (Kd.R_lower (Kd.R_new' ho0 (Kd.R_lt (nR HO585.out))) (below_size bB));replace HO585:=aQ (Kd.R_elder' (nR HO585.out) (Kd.R_base ho0) hb);replace BK579:=aQ (blk_below (g:=gb579) (o:=.cells #[.int .i64 a0_0,.int .i64 a0_1,.slice A0_2 l0_2.length c0_2] 24 (0,0)) (nB BK579.out) hb);replace HB:=aQ (below_step bB hb);(try clear hb);(try clear ho0)) | ((with_reducible refine gate_dst (N:=5) rfl ?_);refine box1 (N:=5) (cs:=#[.int .i64 0,.int .i64 0,.slice none 0 0]) (t:=29) ?_;intro gb592 hg w24 hbox hb;replace HO585:=aQ (Kd.R_below (Kd.R_elderB (nR HO585.out) gb592 (Nat.le_of_eq hg.symm)) hb);replace HO591:=aQ (Kd.R_below (Kd.R_elderB (nR HO591.out) gb592 (Nat.le_of_eq hg.symm)) hb);have BK592:=aQ (hbox);have GW592:=aQ ((by rw [hg];exact (below_size bB):w.heap.size ≤ gb592));have GE592:=aQ ((by rw [hg];exact (below_size bB):w.heap.size ≤ gb592));replace HB:=aQ (below_step bB hb);have NB579_592:=aQ ((by rw [hg];exact Nat.ne_of_lt (blk_lt (g:=gb579) (o:=.cells #[.int .i64 a0_0,.int .i64 a0_1,.slice A0_2 l0_2.length c0_2] 24 (0,0)) (nB BK579.out)):gb579 ≠ gb592));have NB592_579:=aQ ((by rw [hg];exact Nat.ne_of_gt (blk_lt (g:=gb579) (o:=.cells #[.int .i64 a0_0,.int .i64 a0_1,.slice A0_2 l0_2.length c0_2] 24 (0,0)) (nB BK579.out)):gb592 ≠ gb579));replace BK579:=aQ (blk_below (g:=gb579) (o:=.cells #[.int .i64 a0_0,.int .i64 a0_1,.slice A0_2 l0_2.length c0_2] 24 (0,0)) (nB BK579.out) hb);clear hb hbox hg;have hnb25:=NB592_579.out;have hnc25:=NB579_592.out;have hcz26_0:w24.cell? ⟨gb592,0,none⟩ = some (.int .i64 0):=(blk_cell BK592.out 0).trans rfl;have hcz26_1:w24.cell? ⟨gb592,1,none⟩ = some (.int .i64 0):=(blk_cell BK592.out 1).trans rfl;have hcz26_2:w24.cell? ⟨gb592,2,none⟩ = some (.slice none 0 0):=(blk_cell BK592.out 2).trans rfl;have hfz26_0:=blk_frozen BK592.out 0;have hfz26_1:=blk_frozen BK592.out 1;have hfz26_2:=blk_frozen BK592.out 2;obtain ⟨Ao27,co27,eo27⟩:=Kd.R_slice HO591.out;subst eo27) | ((with_reducible refine gate_store (t:=29) (p:=5) rfl ?_);refine store_event (t:=29) (p:=5) (v:=?vo_w28) (w1:=(((w24.setCell ⟨gb592,0,none⟩ (.int .i64 t587)).setCell ⟨gb592,1,none⟩ (.int .i64 t588)).setCell ⟨gb592,2,none⟩ (.slice Ao27 t589.length co27))) ?hg ?ho ?hn ?hr ?_;(case ho=>rfl);(case hg=>rfl);(case hn=>rfl);(case hr=>first | (go_simp;done) | (go_simp;rfl));intro w28 hw;have n0_:Aside0 (Kd.R k29 29 w28 w.heap.size (fun k_=>some k_ ≠ (.slice Ao27 t589.length co27:Value).ownBlock∧k_ ≠ gb592) (.slice Ao20 t583.length co20) t583):=⟨(by rw [hw];exact (nR (Kd.R_mono (Kd.R_far (p:=⟨gb592,2,none⟩) (Kd.R_far (p:=⟨gb592,1,none⟩) (Kd.R_far (p:=⟨gb592,0,none⟩) (Kd.R_mono HO585.out (fun k_ hk=>(⟨hk,hk.2⟩:_∧k_ ≠ gb592))) (fun _ hk=>hk.2) (.int .i64 t587)) (fun _ hk=>hk.2) (.int .i64 t588)) (fun _ hk=>hk.2) (.slice Ao27 t589.length co27)) (fun _ hk=>⟨hk.1.1.2,hk.1.2⟩))))⟩;have n1_:Aside0 (Kd.R k29 29 w28 w.heap.size (fun k_=>some k_ ≠ (.slice Ao20 t583.length co20:Value).ownBlock∧k_ ≠ gb592) (.slice Ao27 t589.length co27) t589):=⟨(by rw [hw];exact (nR (Kd.R_mono (Kd.R_far (p:=⟨gb592,2,none⟩) (Kd.R_far (p:=⟨gb592,1,none⟩) (Kd.R_far (p:=⟨gb592,0,none⟩) (Kd.R_mono HO591.out (fun k_ hk=>(⟨hk,hk.2⟩:_∧k_ ≠ gb592))) (fun _ hk=>hk.2) (.int .i64 t587)) (fun _ hk=>hk.2) (.int .i64 t588)) (fun _ hk=>hk.2) (.slice Ao27 t589.length co27)) (fun _ hk=>⟨hk.1.1.2,hk.1.2⟩))))⟩;have n2_:Aside0 (w28.heap[gb579]? = some (.cells #[.int .i64 a0_0,.int .i64 a0_1,.slice A0_2 l0_2.length c0_2] 24 (0,0))):=⟨(by rw [hw];exact bF)⟩;have n3_:Aside0 (w28.heap[gb592]? = some (.cells #[.int .i64 t587,.int .i64 t588,.slice Ao27 t589.length co27] 29 (0,0))):=⟨(by rw [hw];exact (by (with_reducible repeat (first | refine blk_drewN ?_ _ | refine blk_drew ?_ | refine blk_alloc ?_ _));refine blk_put (cs:=#[.int .i64 t587,.int .i64 t588,.slice none 0 0]) ?_ 2 _ rfl;(with_reducible repeat (first | refine blk_drewN ?_ _ | refine blk_drew ?_ | refine blk_alloc ?_ _));refine blk_put (cs:=#[.int .i64 t587,.int .i64 0,.slice none 0 0]) ?_ 1 _ rfl;(with_reducible repeat (first | refine blk_drewN ?_ _ | refine blk_drew ?_ | refine blk_alloc ?_ _));refine blk_put (cs:=#[.int .i64 0,.int .i64 0,.slice none 0 0]) ?_ 0 _ rfl;(with_reducible repeat (first | refine blk_drewN ?_ _ | refine blk_drew ?_ | refine blk_alloc ?_ _));exact BK592.out))⟩;have n4_:Aside0 (Below w.heap.size w w28):=⟨(by rw [hw];exact bB)⟩;clear hw;clear HO585;clear HO591;clear BK579;clear BK592;clear HB;have HO585:=n0_;have HO591:=n1_;have BK579:=n2_;have BK592:=n3_;have HB:=n4_;clear n0_ n1_ n2_ n3_ n4_;have hcz29_0:w28.cell? ⟨gb592,0,none⟩ = some (.int .i64 t587):=(blk_cell BK592.out 0).trans rfl;have hcz29_1:w28.cell? ⟨gb592,1,none⟩ = some (.int .i64 t588):=(blk_cell BK592.out 1).trans rfl;have hcz29_2:w28.cell? ⟨gb592,2,none⟩ = some (.slice Ao27 t589.length co27):=(blk_cell BK592.out 2).trans rfl;have hfz29_0:=blk_frozen BK592.out 0;have hfz29_1:=blk_frozen BK592.out 1;have hfz29_2:=blk_frozen BK592.out 2) | ((with_reducible refine gate_callee (f:=20) rfl ?_);refine goesL_ (some 18) rfl rfl Try.func20 (by kernel_rfl) rfl #[.agg #[.int .i64 t587,.int .i64 t588,.slice Ao27 t589.length co27]] rfl mP ?_;(with_reducible refine (impl_ClockUrgent.calls k t587 t588 (fun k_=>((some k_ ≠ (.slice Ao20 t583.length co20:Value).ownBlock∧k_ ≠ gb592)∧k_ ≠ gb579)) _ _ t589 t593 _ ?side1 A10.out).mono ?_);(case side1=>exact Kd.R_V (Kd.R_types (HO591.out) BK579.out (by decide)));rintro e w30 ⟨rfl,hb⟩;refine ⟨_,rfl,?_⟩;replace HO585:=aQ (Kd.R_below (nR HO585.out) hb);replace HO591:=aQ (Kd.R_below (nR HO591.out) hb);replace BK579:=aQ (blk_below (g:=gb579) (o:=.cells #[.int .i64 a0_0,.int .i64 a0_1,.slice A0_2 l0_2.length c0_2] 24 (0,0)) (nB BK579.out) hb);replace BK592:=aQ (blk_below (g:=gb592) (o:=.cells #[.int .i64 t587,.int .i64 t588,.slice Ao27 t589.length co27] 29 (0,0)) (nB BK592.out) hb);replace HB:=aQ (below_step bB hb);(try clear hb)))
  replace HO585:=aQ (Kd.R_drew HO585.out)
  replace HO591:=aQ (Kd.R_drew HO591.out)
  replace BK579:=aQ (blk_drew BK579.out)
  replace BK592:=aQ (blk_drew BK592.out)
  replace HB:=aQ (below_drew1 HB.out)
  refine start_ (n:=5) (S:=fun w'=>w'.cell? ⟨gb592,0,none⟩ = some (.int .i64 t587)∧w'.cell? ⟨gb592,1,none⟩ = some (.int .i64 t588)∧w'.cell? ⟨gb592,2,none⟩ = some (.slice Ao27 t589.length co27)∧w'.cell? ⟨gb579,0,none⟩ = some (.int .i64 a0_0)∧w'.cell? ⟨gb579,1,none⟩ = some (.int .i64 a0_1)∧w'.cell? ⟨gb579,2,none⟩ = some (.slice A0_2 l0_2.length c0_2)) (ds:=[]) #[false,false,false,false,false] (by kernel_rfl) rfl rfl ⟨(blk_cell BK592.out 0).trans rfl,(blk_cell BK592.out 1).trans rfl,(blk_cell BK592.out 2).trans rfl,(blk_cell BK579.out 0).trans rfl,(blk_cell BK579.out 1).trans rfl,(blk_cell BK579.out 2).trans rfl⟩ (fun hHeld=>?_)
  generalize w30.drew = w31 at HO585 HO591 BK579 BK592 HB hHeld ⊢
  refine take_ (i:=0) (N:=some 22) (v:=?_) (a':=?_) #[true,false,false,false,false] rfl rfl (by kernel_rfl) (fun _ _ _ h=>h) (Or.inl ⟨by rfl,?_⟩) hHeld ?_ ?_
  rotate_left;·rintro w' ⟨s0,s1,s2,s3,s4,s5⟩;go_simp;with_reducible rfl
  rotate_left;·simp only [Act.put,List.setIfInBounds_toArray,List.set_cons_zero,List.set_cons_succ,i64_w,i32_w];rfl
  refine take_ (i:=1) (N:=some 23) (v:=?_) (a':=?_) #[true,true,false,false,false] rfl rfl (by kernel_rfl) (fun _ _ _ h=>h) (Or.inl ⟨by rfl,?_⟩) hHeld ?_ ?_
  rotate_left;·rintro w' ⟨s0,s1,s2,s3,s4,s5⟩;go_simp;with_reducible rfl
  rotate_left;·simp only [Act.put,List.setIfInBounds_toArray,List.set_cons_zero,List.set_cons_succ,i64_w,i32_w];rfl
  refine one_ (i:=2) (N:=some 24) #[true,true,true,false,false] rfl rfl (by kernel_rfl) (by decide) (fun K hK=>?_)
  refine goes_ Try.func15 (by kernel_rfl) rfl #[.agg #[.int .i64 a0_0,.int .i64 a0_1,.slice A0_2 l0_2.length c0_2]] (by rfl) rfl rfl mP ?_
  with_reducible refine (laws_toClock.calls k a0_0 a0_1 _ _ l0_2 t594 t595 t596 _ ?side1 ?side2 A12.out).mono ?_
  (case side1=>repeat (first | exact (Kd.C_below HR0_2.out HB.out) | (with_reducible refine Kd.C_alloc ?_ _) | (with_reducible refine Kd.C_drewN ?_ _) | (with_reducible refine Kd.C_drew ?_)))
  (case side2=>exact HC0_2.out)
  rintro e w32 ⟨v597,rfl,ho0,hb⟩
  refine ⟨_,rfl,?_⟩
  have HO598:=aQ (Kd.R_lower (Kd.R_newB (Kd.R_new' (Kd.R_new' ho0 (Kd.R_lt (nR HO585.out))) (Kd.R_lt (nR HO591.out))) (g:=gb592) (o:=.cells #[.int .i64 t587,.int .i64 t588,.slice Ao27 t589.length co27] 29 (0,0)) (nB BK592.out)) (below_size bB))
  replace HO585:=aQ (Kd.R_elder' (nR HO585.out) (Kd.R_base ho0) hb)
  replace HO591:=aQ (Kd.R_elder' (nR HO591.out) (Kd.R_base ho0) hb)
  replace BK579:=aQ (blk_below (g:=gb579) (o:=.cells #[.int .i64 a0_0,.int .i64 a0_1,.slice A0_2 l0_2.length c0_2] 24 (0,0)) (nB BK579.out) hb)
  replace BK592:=aQ (blk_below (g:=gb592) (o:=.cells #[.int .i64 t587,.int .i64 t588,.slice Ao27 t589.length co27] 29 (0,0)) (nB BK592.out) hb)
  replace HB:=aQ (below_step bB hb)
  (try clear hb)
  (try clear ho0)
  obtain ⟨Ao33,co33,eo33⟩:=Kd.R_slice HO598.out
  (first | subst eo33 | (injection eo33 with f1_ f2_ f3_;have f4_:=f1_.symm;have f5_:=f3_.symm;clear f1_ f2_ f3_;subst f4_;subst f5_))
  refine hK.out _ _ ⟨(blk_cell BK592.out 0).trans rfl,(blk_cell BK592.out 1).trans rfl,(blk_cell BK592.out 2).trans rfl,(blk_cell BK579.out 0).trans rfl,(blk_cell BK579.out 1).trans rfl,(blk_cell BK579.out 2).trans rfl⟩ (fun hHeld=>?_)
  clear hK K
  refine norm_ (a':=?_) ?_ ?_
  rotate_left
  ·show Act.put _ (some 24) _ = _
   simp only [Act.put,List.setIfInBounds_toArray,List.set_cons_zero,List.set_cons_succ,i64_w,i32_w]
   rfl
  refine one_ (i:=3) (N:=some 25) #[true,true,true,true,false] rfl rfl (by kernel_rfl) (by decide) (fun K hK=>?_)
  refine goes_ Try.func17 (by kernel_rfl) rfl #[.agg #[.int .i64 t587,.int .i64 t588,.slice Ao27 t589.length co27],.agg #[.int .i64 t594,.int .i64 t595,.slice Ao33 t596.length co33]] (by rfl) rfl rfl mP ?_
  with_reducible refine (laws_eqClock.calls k t587 t588 _ _ t589 t594 t595 _ _ t596 true _ ?side1 ?side2 ?side3 ?side4 A13.out).mono ?_
  (case side1=>repeat (first | exact (Kd.R_reads' HO591.out).2.2 | (with_reducible refine Kd.C_alloc ?_ _) | (with_reducible refine Kd.C_drewN ?_ _) | (with_reducible refine Kd.C_drew ?_)))
  (case side2=>exact (Kd.R_reads' HO591.out).2.1)
  (case side3=>repeat (first | exact (Kd.R_reads' HO598.out).2.2 | (with_reducible refine Kd.C_alloc ?_ _) | (with_reducible refine Kd.C_drewN ?_ _) | (with_reducible refine Kd.C_drew ?_)))
  (case side4=>exact (Kd.R_reads' HO598.out).2.1)
  rintro e w34 ⟨rfl,hb⟩
  refine ⟨_,rfl,?_⟩
  replace HO585:=aQ (Kd.R_below (nR HO585.out) hb)
  replace HO591:=aQ (Kd.R_below (nR HO591.out) hb)
  replace HO598:=aQ (Kd.R_below (nR HO598.out) hb)
  replace BK579:=aQ (blk_below (g:=gb579) (o:=.cells #[.int .i64 a0_0,.int .i64 a0_1,.slice A0_2 l0_2.length c0_2] 24 (0,0)) (nB BK579.out) hb)
  replace BK592:=aQ (blk_below (g:=gb592) (o:=.cells #[.int .i64 t587,.int .i64 t588,.slice Ao27 t589.length co27] 29 (0,0)) (nB BK592.out) hb)
  replace HB:=aQ (below_step bB hb)
  (try clear hb)
  refine hK.out _ _ ⟨(blk_cell BK592.out 0).trans rfl,(blk_cell BK592.out 1).trans rfl,(blk_cell BK592.out 2).trans rfl,(blk_cell BK579.out 0).trans rfl,(blk_cell BK579.out 1).trans rfl,(blk_cell BK579.out 2).trans rfl⟩ (fun hHeld=>?_)
  clear hK K
  refine norm_ (a':=?_) ?_ ?_
  rotate_left
  ·show Act.put _ (some 25) _ = _
   simp only [Act.put,List.setIfInBounds_toArray,List.set_cons_zero,List.set_cons_succ,i64_w,i32_w]
   rfl
  refine pure_ (i:=4) (N:=some 26) (v:=?_) (a':=?_) #[true,true,true,true,true] rfl rfl (by kernel_rfl) (fun _ _ _ h=>h) (Or.inl ⟨by rfl,?_⟩) ?_ ?_
  rotate_left;·intro w';go_simp;with_reducible rfl
  rotate_left;·simp only [Act.put,List.setIfInBounds_toArray,List.set_cons_zero,List.set_cons_succ,i64_w,i32_w];rfl
  refine done_ (by kernel_rfl) ?_
  try go_wp2
  go_ret
  exact ⟨by first | rfl | (simp [errW_none,errW_some] <;> rfl) | (simp [*,errW_none,errW_some] <;> rfl),bB⟩
 ·replace c14:=Bool.eq_false_iff.mpr c14
  subst c14
  have H1:(some false) = some r:=by rw [if_neg (show ¬ (false = true) by decide)] at H;exact H
  clear H
  have H:=H1
  clear H1
  obtain rfl:=Option.some.inj H
  go_enter Try.func5,Try.ntmps5
  try go_wp2_with (first | ((with_reducible refine gate_dst (N:=1) rfl ?_);refine box1 (N:=1) (cs:=#[.int .i64 a0_0,.int .i64 a0_1,.slice A0_2 l0_2.length c0_2]) (t:=24) ?_;intro gb579 hg w35 hbox hb;have BK579:=aQ (hbox);have GW579:=aQ ((by rw [hg];exact (below_size bB):w.heap.size ≤ gb579));have GE579:=aQ ((by rw [hg];exact (below_size bB):w.heap.size ≤ gb579));replace HB:=aQ (below_step bB hb);clear hb hbox hg;have hcz36_0:w35.cell? ⟨gb579,0,none⟩ = some (.int .i64 a0_0):=(blk_cell BK579.out 0).trans rfl;have hcz36_1:w35.cell? ⟨gb579,1,none⟩ = some (.int .i64 a0_1):=(blk_cell BK579.out 1).trans rfl;have hcz36_2:w35.cell? ⟨gb579,2,none⟩ = some (.slice A0_2 l0_2.length c0_2):=(blk_cell BK579.out 2).trans rfl;have hfz36_0:=blk_frozen BK579.out 0;have hfz36_1:=blk_frozen BK579.out 1;have hfz36_2:=blk_frozen BK579.out 2) | ((with_reducible refine gate_callee (f:=13) rfl ?_);refine goesL_ (some 9) rfl rfl Try.func13 (by kernel_rfl) rfl #[.agg #[.int .i64 a0_0,.int .i64 a0_1,.slice A0_2 l0_2.length c0_2],.int .i64 1048576] rfl mP ?_;(with_reducible refine (laws_szClock.calls k a0_0 a0_1 _ _ l0_2 1048576 t580 _ ?side1 ?side2 A2.out).mono ?_);(case side1=>repeat (first | exact (Kd.C_below HR0_2.out HB.out) | (with_reducible refine Kd.C_alloc ?_ _) | (with_reducible refine Kd.C_drewN ?_ _) | (with_reducible refine Kd.C_drew ?_)));(case side2=>exact HC0_2.out);rintro e w37 ⟨rfl,hb⟩;refine ⟨_,rfl,?_⟩;replace BK579:=aQ (blk_below (g:=gb579) (o:=.cells #[.int .i64 a0_0,.int .i64 a0_1,.slice A0_2 l0_2.length c0_2] 24 (0,0)) (nB BK579.out) hb);replace HB:=aQ (below_step bB hb);(try clear hb);have hcz38_0:w37.cell? ⟨gb579,0,none⟩ = some (.int .i64 a0_0):=(blk_cell BK579.out 0).trans rfl;have hcz38_1:w37.cell? ⟨gb579,1,none⟩ = some (.int .i64 a0_1):=(blk_cell BK579.out 1).trans rfl;have hcz38_2:w37.cell? ⟨gb579,2,none⟩ = some (.slice A0_2 l0_2.length c0_2):=(blk_cell BK579.out 2).trans rfl;have hfz38_0:=blk_frozen BK579.out 0;have hfz38_1:=blk_frozen BK579.out 1;have hfz38_2:=blk_frozen BK579.out 2) | ((with_reducible refine gate_callee (f:=15) rfl ?_);refine goesL_ (some 13) rfl rfl Try.func15 (by kernel_rfl) rfl #[.agg #[.int .i64 a0_0,.int .i64 a0_1,.slice A0_2 l0_2.length c0_2]] rfl mP ?_;(with_reducible refine (laws_toClock.calls k a0_0 a0_1 _ _ l0_2 t581 t582 t583 _ ?side1 ?side2 A7.out).mono ?_);(case side1=>repeat (first | exact (Kd.C_below HR0_2.out HB.out) | (with_reducible refine Kd.C_alloc ?_ _) | (with_reducible refine Kd.C_drewN ?_ _) | (with_reducible refine Kd.C_drew ?_)));(case side2=>exact HC0_2.out);rintro e w39 ⟨v584,rfl,ho0,hb⟩;refine ⟨_,rfl,?_⟩;have HO585:=aQ (Kd.R_lower ho0 (below_size bB));replace BK579:=aQ (blk_below (g:=gb579) (o:=.cells #[.int .i64 a0_0,.int .i64 a0_1,.slice A0_2 l0_2.length c0_2] 24 (0,0)) (nB BK579.out) hb);replace HB:=aQ (below_step bB hb);(try clear hb);(try clear ho0);obtain ⟨Ao40,co40,eo40⟩:=Kd.R_slice HO585.out;subst eo40) | ((with_reducible refine gate_callee (f:=21) rfl ?_);refine goesL_ (some 14) rfl rfl Try.func21 (by kernel_rfl) rfl #[.agg #[.int .i64 t581,.int .i64 t582,.slice Ao40 t583.length co40]] rfl mP ?_;(with_reducible refine (spec_ClockUrgent.calls k t581 t582 (fun k_=>(True∧k_ ≠ gb579)) _ _ t583 t586 _ ?side1 A8.out).mono ?_);(case side1=>exact Kd.R_V (Kd.R_types (HO585.out) BK579.out (by decide)));rintro e w41 ⟨rfl,hb⟩;refine ⟨_,rfl,?_⟩;replace HO585:=aQ (Kd.R_below (nR HO585.out) hb);replace BK579:=aQ (blk_below (g:=gb579) (o:=.cells #[.int .i64 a0_0,.int .i64 a0_1,.slice A0_2 l0_2.length c0_2] 24 (0,0)) (nB BK579.out) hb);replace HB:=aQ (below_step bB hb);(try clear hb);have hcz42_0:w41.cell? ⟨gb579,0,none⟩ = some (.int .i64 a0_0):=(blk_cell BK579.out 0).trans rfl;have hcz42_1:w41.cell? ⟨gb579,1,none⟩ = some (.int .i64 a0_1):=(blk_cell BK579.out 1).trans rfl;have hcz42_2:w41.cell? ⟨gb579,2,none⟩ = some (.slice A0_2 l0_2.length c0_2):=(blk_cell BK579.out 2).trans rfl;have hfz42_0:=blk_frozen BK579.out 0;have hfz42_1:=blk_frozen BK579.out 1;have hfz42_2:=blk_frozen BK579.out 2) | ((with_reducible refine gate_callee (f:=15) rfl ?_);refine goesL_ (some 16) rfl rfl Try.func15 (by kernel_rfl) rfl #[.agg #[.int .i64 a0_0,.int .i64 a0_1,.slice A0_2 l0_2.length c0_2]] rfl mP ?_;(with_reducible refine (laws_toClock.calls k a0_0 a0_1 _ _ l0_2 t587 t588 t589 _ ?side1 ?side2 A9.out).mono ?_);(case side1=>repeat (first | exact (Kd.C_below HR0_2.out HB.out) | (with_reducible refine Kd.C_alloc ?_ _) | (with_reducible refine Kd.C_drewN ?_ _) | (with_reducible refine Kd.C_drew ?_)));(case side2=>exact HC0_2.out);rintro e w43 ⟨v590,rfl,ho0,hb⟩;refine ⟨_,rfl,?_⟩;have HO591:=aQ (Kd.R_lower (Kd.R_new' ho0 (Kd.R_lt (nR HO585.out))) (below_size bB));replace HO585:=aQ (Kd.R_elder' (nR HO585.out) (Kd.R_base ho0) hb);replace BK579:=aQ (blk_below (g:=gb579) (o:=.cells #[.int .i64 a0_0,.int .i64 a0_1,.slice A0_2 l0_2.length c0_2] 24 (0,0)) (nB BK579.out) hb);replace HB:=aQ (below_step bB hb);(try clear hb);(try clear ho0)) | ((with_reducible refine gate_dst (N:=5) rfl ?_);refine box1 (N:=5) (cs:=#[.int .i64 0,.int .i64 0,.slice none 0 0]) (t:=29) ?_;intro gb592 hg w44 hbox hb;replace HO585:=aQ (Kd.R_below (Kd.R_elderB (nR HO585.out) gb592 (Nat.le_of_eq hg.symm)) hb);replace HO591:=aQ (Kd.R_below (Kd.R_elderB (nR HO591.out) gb592 (Nat.le_of_eq hg.symm)) hb);have BK592:=aQ (hbox);have GW592:=aQ ((by rw [hg];exact (below_size bB):w.heap.size ≤ gb592));have GE592:=aQ ((by rw [hg];exact (below_size bB):w.heap.size ≤ gb592));replace HB:=aQ (below_step bB hb);have NB579_592:=aQ ((by rw [hg];exact Nat.ne_of_lt (blk_lt (g:=gb579) (o:=.cells #[.int .i64 a0_0,.int .i64 a0_1,.slice A0_2 l0_2.length c0_2] 24 (0,0)) (nB BK579.out)):gb579 ≠ gb592));have NB592_579:=aQ ((by rw [hg];exact Nat.ne_of_gt (blk_lt (g:=gb579) (o:=.cells #[.int .i64 a0_0,.int .i64 a0_1,.slice A0_2 l0_2.length c0_2] 24 (0,0)) (nB BK579.out)):gb592 ≠ gb579));replace BK579:=aQ (blk_below (g:=gb579) (o:=.cells #[.int .i64 a0_0,.int .i64 a0_1,.slice A0_2 l0_2.length c0_2] 24 (0,0)) (nB BK579.out) hb);clear hb hbox hg;have hnb45:=NB592_579.out;have hnc45:=NB579_592.out;have hcz46_0:w44.cell? ⟨gb592,0,none⟩ = some (.int .i64 0):=(blk_cell BK592.out 0).trans rfl;have hcz46_1:w44.cell? ⟨gb592,1,none⟩ = some (.int .i64 0):=(blk_cell BK592.out 1).trans rfl;have hcz46_2:w44.cell? ⟨gb592,2,none⟩ = some (.slice none 0 0):=(blk_cell BK592.out 2).trans rfl;have hfz46_0:=blk_frozen BK592.out 0;have hfz46_1:=blk_frozen BK592.out 1;have hfz46_2:=blk_frozen BK592.out 2;obtain ⟨Ao47,co47,eo47⟩:=Kd.R_slice HO591.out;subst eo47) | ((with_reducible refine gate_store (t:=29) (p:=5) rfl ?_);refine store_event (t:=29) (p:=5) (v:=?vo_w48) (w1:=(((w44.setCell ⟨gb592,0,none⟩ (.int .i64 t587)).setCell ⟨gb592,1,none⟩ (.int .i64 t588)).setCell ⟨gb592,2,none⟩ (.slice Ao47 t589.length co47))) ?hg ?ho ?hn ?hr ?_;(case ho=>rfl);(case hg=>rfl);(case hn=>rfl);(case hr=>first | (go_simp;done) | (go_simp;rfl));intro w48 hw;have n0_:Aside0 (Kd.R k29 29 w48 w.heap.size (fun k_=>some k_ ≠ (.slice Ao47 t589.length co47:Value).ownBlock∧k_ ≠ gb592) (.slice Ao40 t583.length co40) t583):=⟨(by rw [hw];exact (nR (Kd.R_mono (Kd.R_far (p:=⟨gb592,2,none⟩) (Kd.R_far (p:=⟨gb592,1,none⟩) (Kd.R_far (p:=⟨gb592,0,none⟩) (Kd.R_mono HO585.out (fun k_ hk=>(⟨hk,hk.2⟩:_∧k_ ≠ gb592))) (fun _ hk=>hk.2) (.int .i64 t587)) (fun _ hk=>hk.2) (.int .i64 t588)) (fun _ hk=>hk.2) (.slice Ao47 t589.length co47)) (fun _ hk=>⟨hk.1.1.2,hk.1.2⟩))))⟩;have n1_:Aside0 (Kd.R k29 29 w48 w.heap.size (fun k_=>some k_ ≠ (.slice Ao40 t583.length co40:Value).ownBlock∧k_ ≠ gb592) (.slice Ao47 t589.length co47) t589):=⟨(by rw [hw];exact (nR (Kd.R_mono (Kd.R_far (p:=⟨gb592,2,none⟩) (Kd.R_far (p:=⟨gb592,1,none⟩) (Kd.R_far (p:=⟨gb592,0,none⟩) (Kd.R_mono HO591.out (fun k_ hk=>(⟨hk,hk.2⟩:_∧k_ ≠ gb592))) (fun _ hk=>hk.2) (.int .i64 t587)) (fun _ hk=>hk.2) (.int .i64 t588)) (fun _ hk=>hk.2) (.slice Ao47 t589.length co47)) (fun _ hk=>⟨hk.1.1.2,hk.1.2⟩))))⟩;have n2_:Aside0 (w48.heap[gb579]? = some (.cells #[.int .i64 a0_0,.int .i64 a0_1,.slice A0_2 l0_2.length c0_2] 24 (0,0))):=⟨(by rw [hw];exact bF)⟩;have n3_:Aside0 (w48.heap[gb592]? = some (.cells #[.int .i64 t587,.int .i64 t588,.slice Ao47 t589.length co47] 29 (0,0))):=⟨(by rw [hw];exact (by (with_reducible repeat (first | refine blk_drewN ?_ _ | refine blk_drew ?_ | refine blk_alloc ?_ _));refine blk_put (cs:=#[.int .i64 t587,.int .i64 t588,.slice none 0 0]) ?_ 2 _ rfl;(with_reducible repeat (first | refine blk_drewN ?_ _ | refine blk_drew ?_ | refine blk_alloc ?_ _));refine blk_put (cs:=#[.int .i64 t587,.int .i64 0,.slice none 0 0]) ?_ 1 _ rfl;(with_reducible repeat (first | refine blk_drewN ?_ _ | refine blk_drew ?_ | refine blk_alloc ?_ _));refine blk_put (cs:=#[.int .i64 0,.int .i64 0,.slice none 0 0]) ?_ 0 _ rfl;(with_reducible repeat (first | refine blk_drewN ?_ _ | refine blk_drew ?_ | refine blk_alloc ?_ _));exact BK592.out))⟩;have n4_:Aside0 (Below w.heap.size w w48):=⟨(by rw [hw];exact bB)⟩;clear hw;clear HO585;clear HO591;clear BK579;clear BK592;clear HB;have HO585:=n0_;have HO591:=n1_;have BK579:=n2_;have BK592:=n3_;have HB:=n4_;clear n0_ n1_ n2_ n3_ n4_;have hcz49_0:w48.cell? ⟨gb592,0,none⟩ = some (.int .i64 t587):=(blk_cell BK592.out 0).trans rfl;have hcz49_1:w48.cell? ⟨gb592,1,none⟩ = some (.int .i64 t588):=(blk_cell BK592.out 1).trans rfl;have hcz49_2:w48.cell? ⟨gb592,2,none⟩ = some (.slice Ao47 t589.length co47):=(blk_cell BK592.out 2).trans rfl;have hfz49_0:=blk_frozen BK592.out 0;have hfz49_1:=blk_frozen BK592.out 1;have hfz49_2:=blk_frozen BK592.out 2) | ((with_reducible refine gate_callee (f:=20) rfl ?_);refine goesL_ (some 18) rfl rfl Try.func20 (by kernel_rfl) rfl #[.agg #[.int .i64 t587,.int .i64 t588,.slice Ao47 t589.length co47]] rfl mP ?_;(with_reducible refine (impl_ClockUrgent.calls k t587 t588 (fun k_=>((some k_ ≠ (.slice Ao40 t583.length co40:Value).ownBlock∧k_ ≠ gb592)∧k_ ≠ gb579)) _ _ t589 t593 _ ?side1 A10.out).mono ?_);(case side1=>exact Kd.R_V (Kd.R_types (HO591.out) BK579.out (by decide)));rintro e w50 ⟨rfl,hb⟩;refine ⟨_,rfl,?_⟩;replace HO585:=aQ (Kd.R_below (nR HO585.out) hb);replace HO591:=aQ (Kd.R_below (nR HO591.out) hb);replace BK579:=aQ (blk_below (g:=gb579) (o:=.cells #[.int .i64 a0_0,.int .i64 a0_1,.slice A0_2 l0_2.length c0_2] 24 (0,0)) (nB BK579.out) hb);replace BK592:=aQ (blk_below (g:=gb592) (o:=.cells #[.int .i64 t587,.int .i64 t588,.slice Ao47 t589.length co47] 29 (0,0)) (nB BK592.out) hb);replace HB:=aQ (below_step bB hb);(try clear hb)))
  replace HO585:=aQ (Kd.R_drew HO585.out)
  replace HO591:=aQ (Kd.R_drew HO591.out)
  replace BK579:=aQ (blk_drew BK579.out)
  replace BK592:=aQ (blk_drew BK592.out)
  replace HB:=aQ (below_drew1 HB.out)
  refine start_ (n:=5) (S:=fun w'=>w'.cell? ⟨gb592,0,none⟩ = some (.int .i64 t587)∧w'.cell? ⟨gb592,1,none⟩ = some (.int .i64 t588)∧w'.cell? ⟨gb592,2,none⟩ = some (.slice Ao47 t589.length co47)∧w'.cell? ⟨gb579,0,none⟩ = some (.int .i64 a0_0)∧w'.cell? ⟨gb579,1,none⟩ = some (.int .i64 a0_1)∧w'.cell? ⟨gb579,2,none⟩ = some (.slice A0_2 l0_2.length c0_2)) (ds:=[]) #[false,false,false,false,false] (by kernel_rfl) rfl rfl ⟨(blk_cell BK592.out 0).trans rfl,(blk_cell BK592.out 1).trans rfl,(blk_cell BK592.out 2).trans rfl,(blk_cell BK579.out 0).trans rfl,(blk_cell BK579.out 1).trans rfl,(blk_cell BK579.out 2).trans rfl⟩ (fun hHeld=>?_)
  generalize w50.drew = w51 at HO585 HO591 BK579 BK592 HB hHeld ⊢
  refine take_ (i:=0) (N:=some 22) (v:=?_) (a':=?_) #[true,false,false,false,false] rfl rfl (by kernel_rfl) (fun _ _ _ h=>h) (Or.inl ⟨by rfl,?_⟩) hHeld ?_ ?_
  rotate_left;·rintro w' ⟨s0,s1,s2,s3,s4,s5⟩;go_simp;with_reducible rfl
  rotate_left;·simp only [Act.put,List.setIfInBounds_toArray,List.set_cons_zero,List.set_cons_succ,i64_w,i32_w];rfl
  refine take_ (i:=1) (N:=some 23) (v:=?_) (a':=?_) #[true,true,false,false,false] rfl rfl (by kernel_rfl) (fun _ _ _ h=>h) (Or.inl ⟨by rfl,?_⟩) hHeld ?_ ?_
  rotate_left;·rintro w' ⟨s0,s1,s2,s3,s4,s5⟩;go_simp;with_reducible rfl
  rotate_left;·simp only [Act.put,List.setIfInBounds_toArray,List.set_cons_zero,List.set_cons_succ,i64_w,i32_w];rfl
  refine one_ (i:=2) (N:=some 24) #[true,true,true,false,false] rfl rfl (by kernel_rfl) (by decide) (fun K hK=>?_)
  refine goes_ Try.func15 (by kernel_rfl) rfl #[.agg #[.int .i64 a0_0,.int .i64 a0_1,.slice A0_2 l0_2.length c0_2]] (by rfl) rfl rfl mP ?_
  with_reducible refine (laws_toClock.calls k a0_0 a0_1 _ _ l0_2 t594 t595 t596 _ ?side1 ?side2 A12.out).mono ?_
  (case side1=>repeat (first | exact (Kd.C_below HR0_2.out HB.out) | (with_reducible refine Kd.C_alloc ?_ _) | (with_reducible refine Kd.C_drewN ?_ _) | (with_reducible refine Kd.C_drew ?_)))
  (case side2=>exact HC0_2.out)
  rintro e w52 ⟨v597,rfl,ho0,hb⟩
  refine ⟨_,rfl,?_⟩
  have HO598:=aQ (Kd.R_lower (Kd.R_newB (Kd.R_new' (Kd.R_new' ho0 (Kd.R_lt (nR HO585.out))) (Kd.R_lt (nR HO591.out))) (g:=gb592) (o:=.cells #[.int .i64 t587,.int .i64 t588,.slice Ao47 t589.length co47] 29 (0,0)) (nB BK592.out)) (below_size bB))
  replace HO585:=aQ (Kd.R_elder' (nR HO585.out) (Kd.R_base ho0) hb)
  replace HO591:=aQ (Kd.R_elder' (nR HO591.out) (Kd.R_base ho0) hb)
  replace BK579:=aQ (blk_below (g:=gb579) (o:=.cells #[.int .i64 a0_0,.int .i64 a0_1,.slice A0_2 l0_2.length c0_2] 24 (0,0)) (nB BK579.out) hb)
  replace BK592:=aQ (blk_below (g:=gb592) (o:=.cells #[.int .i64 t587,.int .i64 t588,.slice Ao47 t589.length co47] 29 (0,0)) (nB BK592.out) hb)
  replace HB:=aQ (below_step bB hb)
  (try clear hb)
  (try clear ho0)
  obtain ⟨Ao53,co53,eo53⟩:=Kd.R_slice HO598.out
  (first | subst eo53 | (injection eo53 with f1_ f2_ f3_;have f4_:=f1_.symm;have f5_:=f3_.symm;clear f1_ f2_ f3_;subst f4_;subst f5_))
  refine hK.out _ _ ⟨(blk_cell BK592.out 0).trans rfl,(blk_cell BK592.out 1).trans rfl,(blk_cell BK592.out 2).trans rfl,(blk_cell BK579.out 0).trans rfl,(blk_cell BK579.out 1).trans rfl,(blk_cell BK579.out 2).trans rfl⟩ (fun hHeld=>?_)
  clear hK K
  refine norm_ (a':=?_) ?_ ?_
  rotate_left
  ·show Act.put _ (some 24) _ = _
   simp only [Act.put,List.setIfInBounds_toArray,List.set_cons_zero,List.set_cons_succ,i64_w,i32_w]
   rfl
  refine one_ (i:=3) (N:=some 25) #[true,true,true,true,false] rfl rfl (by kernel_rfl) (by decide) (fun K hK=>?_)
  refine goes_ Try.func17 (by kernel_rfl) rfl #[.agg #[.int .i64 t587,.int .i64 t588,.slice Ao47 t589.length co47],.agg #[.int .i64 t594,.int .i64 t595,.slice Ao53 t596.length co53]] (by rfl) rfl rfl mP ?_
  with_reducible refine (laws_eqClock.calls k t587 t588 _ _ t589 t594 t595 _ _ t596 false _ ?side1 ?side2 ?side3 ?side4 A13.out).mono ?_
  (case side1=>repeat (first | exact (Kd.R_reads' HO591.out).2.2 | (with_reducible refine Kd.C_alloc ?_ _) | (with_reducible refine Kd.C_drewN ?_ _) | (with_reducible refine Kd.C_drew ?_)))
  (case side2=>exact (Kd.R_reads' HO591.out).2.1)
  (case side3=>repeat (first | exact (Kd.R_reads' HO598.out).2.2 | (with_reducible refine Kd.C_alloc ?_ _) | (with_reducible refine Kd.C_drewN ?_ _) | (with_reducible refine Kd.C_drew ?_)))
  (case side4=>exact (Kd.R_reads' HO598.out).2.1)
  rintro e w54 ⟨rfl,hb⟩
  refine ⟨_,rfl,?_⟩
  replace HO585:=aQ (Kd.R_below (nR HO585.out) hb)
  replace HO591:=aQ (Kd.R_below (nR HO591.out) hb)
  replace HO598:=aQ (Kd.R_below (nR HO598.out) hb)
  replace BK579:=aQ (blk_below (g:=gb579) (o:=.cells #[.int .i64 a0_0,.int .i64 a0_1,.slice A0_2 l0_2.length c0_2] 24 (0,0)) (nB BK579.out) hb)
  replace BK592:=aQ (blk_below (g:=gb592) (o:=.cells #[.int .i64 t587,.int .i64 t588,.slice Ao47 t589.length co47] 29 (0,0)) (nB BK592.out) hb)
  replace HB:=aQ (below_step bB hb)
  (try clear hb)
  refine hK.out _ _ ⟨(blk_cell BK592.out 0).trans rfl,(blk_cell BK592.out 1).trans rfl,(blk_cell BK592.out 2).trans rfl,(blk_cell BK579.out 0).trans rfl,(blk_cell BK579.out 1).trans rfl,(blk_cell BK579.out 2).trans rfl⟩ (fun hHeld=>?_)
  clear hK K
  refine norm_ (a':=?_) ?_ ?_
  rotate_left
  ·show Act.put _ (some 25) _ = _
   simp only [Act.put,List.setIfInBounds_toArray,List.set_cons_zero,List.set_cons_succ,i64_w,i32_w]
   rfl
  refine pure_ (i:=4) (N:=some 26) (v:=?_) (a':=?_) #[true,true,true,true,true] rfl rfl (by kernel_rfl) (fun _ _ _ h=>h) (Or.inl ⟨by rfl,?_⟩) ?_ ?_
  rotate_left;·intro w';go_simp;with_reducible rfl
  rotate_left;·simp only [Act.put,List.setIfInBounds_toArray,List.set_cons_zero,List.set_cons_succ,i64_w,i32_w];rfl
  refine done_ (by kernel_rfl) ?_
  try go_wp2
  go_ret
  exact ⟨by first | rfl | (simp [errW_none,errW_some] <;> rfl) | (simp [*,errW_none,errW_some] <;> rfl),bB⟩
end Go.Proofs.Ytnkgcjdlfenepaa.P
