/- What the Go functions that the laws reach compute, and that their calls come to just that: told by a program of this session (aprint.py). No condition. -/
import Derived.Test.YtnkgcjdlfenepaaP0
import Derived.Test.YtnkgcjdlfenepaaP1
import Derived.Test.YtnkgcjdlfenepaaHShape
import Derived.Test.YtnkgcjdlfenepaaCut
namespace Go.Proofs.Ytnkgcjdlfenepaa.P
open Go.RowKit Go.Proofs.YtnkgcjdlfenepaaW.PrintWords Go.Proofs.YtnkgcjdlfenepaaW.PrintLast Go.Proofs.YtnkgcjdlfenepaaW.PrintMore
attribute [local go_sem] max2_int min2_int max_two min_two max_three min_three max_four min_four
set_option linter.unusedVariables false
set_option linter.unusedSimpArgs false
mutual
def spec_l17Steps.l0:Nat → List (S44) → List (S44) → List (S44) → Int → Int → Int → List (S29) → Option ((List (S44)))
 | 0,_,_,_,_,_,_,_=>none
 | k + 1,x3,x4,x5,x6,x444000,x444001,x444002=>if x6 < (x4.length:Int) then (if 0 ≤ x6 then (if 1 < (x444002.length:Int) then ((spec_l17Two.f x444000 ((rd_T44 x4 x6).f1.f0) ((rd_T44 x4 x6).f1.f1) ((rd_T44 x4 x6).f1.f2) ((rd_T29 x444002 1).f0) ((rd_T29 x444002 1).f1) ((rd_T29 x444002 1).f2)).bind fun bt473=>(if x3.length < 2932031007402 then (spec_l17Steps.l0 k (x3 ++ [(⟨(rd_T44 x4 x6).f0,(⟨bt473.1,bt473.2.1,bt473.2.2⟩:S29)⟩:S44)]) x4 x5 (wrap64 (x6 + 1)) x444000 x444001 x444002) else (none))) else (none)) else (none)) else (spec_l17Steps.l1 k x3 x4 x5 0 x444000 x444001 x444002)
def spec_l17Steps.l1:Nat → List (S44) → List (S44) → List (S44) → Int → Int → Int → List (S29) → Option ((List (S44)))
 | 0,_,_,_,_,_,_,_=>none
 | k + 1,x3,x4,x5,x7,x444000,x444001,x444002=>if x7 < (x5.length:Int) then (if 0 ≤ x7 then (if 0 < (x444002.length:Int) then ((spec_l17Two.f x444000 ((rd_T29 x444002 0).f0) ((rd_T29 x444002 0).f1) ((rd_T29 x444002 0).f2) ((rd_T44 x5 x7).f1.f0) ((rd_T44 x5 x7).f1.f1) ((rd_T44 x5 x7).f1.f2)).bind fun bt484=>(if x3.length < 2932031007402 then (spec_l17Steps.l1 k (x3 ++ [(⟨(rd_T44 x5 x7).f0,(⟨bt484.1,bt484.2.1,bt484.2.2⟩:S29)⟩:S44)]) x4 x5 (wrap64 (x7 + 1)) x444000 x444001 x444002) else (none))) else (none)) else (none)) else (spec_l17Steps.l2 k x3 x4 x5 0 x444000 x444001 x444002)
def spec_l17Steps.l2:Nat → List (S44) → List (S44) → List (S44) → Int → Int → Int → List (S29) → Option ((List (S44)))
 | 0,_,_,_,_,_,_,_=>none
 | k + 1,x3,x4,x5,x8,x444000,x444001,x444002=>if x8 < (x4.length:Int) then (spec_l17Steps.l3 k x3 x4 x5 x8 0 x444000 x444001 x444002) else (some x3)
def spec_l17Steps.l3:Nat → List (S44) → List (S44) → List (S44) → Int → Int → Int → Int → List (S29) → Option ((List (S44)))
 | 0,_,_,_,_,_,_,_,_=>none
 | k + 1,x3,x4,x5,x8,x9,x444000,x444001,x444002=>if x9 < (x5.length:Int) then (if 0 ≤ x8 then (if x8 < (x4.length:Int) then (if ((rd_T44 x4 x8).f0) = 0 then (spec_l17Steps.l3 k x3 x4 x5 x8 (wrap64 (x9 + 1)) x444000 x444001 x444002) else (if 0 ≤ x9 then (if ((rd_T44 x4 x8).f0) = (wrap64 (-((rd_T44 x5 x9).f0))) then ((spec_l17Two.f x444000 ((rd_T44 x4 x8).f1.f0) ((rd_T44 x4 x8).f1.f1) ((rd_T44 x4 x8).f1.f2) ((rd_T44 x5 x9).f1.f0) ((rd_T44 x5 x9).f1.f1) ((rd_T44 x5 x9).f1.f2)).bind fun bt497=>(if x3.length < 2932031007402 then (spec_l17Steps.l3 k (x3 ++ [(⟨0,(⟨bt497.1,bt497.2.1,bt497.2.2⟩:S29)⟩:S44)]) x4 x5 x8 (wrap64 (x9 + 1)) x444000 x444001 x444002) else (none))) else (spec_l17Steps.l3 k x3 x4 x5 x8 (wrap64 (x9 + 1)) x444000 x444001 x444002)) else (none))) else (none)) else (none)) else (spec_l17Steps.l2 k x3 x4 x5 (wrap64 (x8 + 1)) x444000 x444001 x444002)
def spec_l17Steps.f:Nat → Int → Int → List (S29) → Option ((List (S44)))
 | 0,_,_,_=>none
 | k + 1,a0_0,a0_1,l0_2=>if a0_0 = 1 then (if 0 < (l0_2.length:Int) then (some (([(⟨a0_1,(⟨(rd_T29 l0_2 0).f0,(rd_T29 l0_2 0).f1,(rd_T29 l0_2 0).f2⟩:S29)⟩:S44)]:List (S44)))) else (none)) else (if a0_0 = 3 then (if 0 < (l0_2.length:Int) then ((spec_l17Steps.f k ((rd_T29 l0_2 0).f0) ((rd_T29 l0_2 0).f1) ((rd_T29 l0_2 0).f2)).bind fun t449=>(if 1 < (l0_2.length:Int) then ((spec_l17Steps.f k ((rd_T29 l0_2 1).f0) ((rd_T29 l0_2 1).f1) ((rd_T29 l0_2 1).f2)).bind fun t453=>(if t449.length + t453.length < 2932031007402 then (some (t449 ++ t453)) else (none))) else (none))) else (none)) else (if a0_0 = 4 then (if 0 < (l0_2.length:Int) then ((spec_l17Steps.f k ((rd_T29 l0_2 0).f0) ((rd_T29 l0_2 0).f1) ((rd_T29 l0_2 0).f2)).bind fun t463=>(if 1 < (l0_2.length:Int) then ((spec_l17Steps.f k ((rd_T29 l0_2 1).f0) ((rd_T29 l0_2 1).f1) ((rd_T29 l0_2 1).f2)).bind fun t467=>(spec_l17Steps.l0 k (([]:List (S44))) t463 t467 0 a0_0 a0_1 l0_2)) else (none))) else (none)) else (some (([]:List (S44))))))
end
theorem spec_l17Steps.mono_l:∀ k,(∀ y0 y1 y2,LeO (spec_l17Steps.f k y0 y1 y2) (spec_l17Steps.f (k + 1) y0 y1 y2))∧(∀ y0 y1 y2 y3 y4 y5 y6,LeO (spec_l17Steps.l0 k y0 y1 y2 y3 y4 y5 y6) (spec_l17Steps.l0 (k + 1) y0 y1 y2 y3 y4 y5 y6))∧(∀ y0 y1 y2 y3 y4 y5 y6,LeO (spec_l17Steps.l1 k y0 y1 y2 y3 y4 y5 y6) (spec_l17Steps.l1 (k + 1) y0 y1 y2 y3 y4 y5 y6))∧(∀ y0 y1 y2 y3 y4 y5 y6,LeO (spec_l17Steps.l2 k y0 y1 y2 y3 y4 y5 y6) (spec_l17Steps.l2 (k + 1) y0 y1 y2 y3 y4 y5 y6))∧(∀ y0 y1 y2 y3 y4 y5 y6 y7,LeO (spec_l17Steps.l3 k y0 y1 y2 y3 y4 y5 y6 y7) (spec_l17Steps.l3 (k + 1) y0 y1 y2 y3 y4 y5 y6 y7))
 | 0=>⟨fun _ _ _ r h=>by simp [spec_l17Steps.f] at h,fun _ _ _ _ _ _ _ r h=>by simp [spec_l17Steps.l0] at h,fun _ _ _ _ _ _ _ r h=>by simp [spec_l17Steps.l1] at h,fun _ _ _ _ _ _ _ r h=>by simp [spec_l17Steps.l2] at h,fun _ _ _ _ _ _ _ _ r h=>by simp [spec_l17Steps.l3] at h⟩
 | k + 1=>by
  obtain ⟨ih0,ih1,ih2,ih3,ih4⟩:=spec_l17Steps.mono_l k
  refine ⟨?_,?_,?_,?_,?_⟩
  ·intro y0 y1 y2
   unfold spec_l17Steps.f
   repeat' first
   | (with_reducible exact ih0 _ _ _)
   | (with_reducible exact ih1 _ _ _ _ _ _ _)
   | (with_reducible exact ih2 _ _ _ _ _ _ _)
   | (with_reducible exact ih3 _ _ _ _ _ _ _)
   | (with_reducible exact ih4 _ _ _ _ _ _ _ _)
   | (with_reducible exact LeO.refl _)
   | (with_reducible exact LeO.none _)
   | (with_reducible refine LeO.ite ?_ ?_)
   | (with_reducible refine LeO.bind ?_ (fun _=>?_))
   | exact ih0 _ _ _
   | exact ih1 _ _ _ _ _ _ _
   | exact ih2 _ _ _ _ _ _ _
   | exact ih3 _ _ _ _ _ _ _
   | exact ih4 _ _ _ _ _ _ _ _
   | exact LeO.none _
   | refine LeO.ite ?_ ?_
   | refine LeO.bind ?_ (fun _=>?_)
  ·intro y0 y1 y2 y3 y4 y5 y6
   unfold spec_l17Steps.l0
   repeat' first
   | (with_reducible exact ih0 _ _ _)
   | (with_reducible exact ih1 _ _ _ _ _ _ _)
   | (with_reducible exact ih2 _ _ _ _ _ _ _)
   | (with_reducible exact ih3 _ _ _ _ _ _ _)
   | (with_reducible exact ih4 _ _ _ _ _ _ _ _)
   | (with_reducible exact LeO.refl _)
   | (with_reducible exact LeO.none _)
   | (with_reducible refine LeO.ite ?_ ?_)
   | (with_reducible refine LeO.bind ?_ (fun _=>?_))
   | exact ih0 _ _ _
   | exact ih1 _ _ _ _ _ _ _
   | exact ih2 _ _ _ _ _ _ _
   | exact ih3 _ _ _ _ _ _ _
   | exact ih4 _ _ _ _ _ _ _ _
   | exact LeO.none _
   | refine LeO.ite ?_ ?_
   | refine LeO.bind ?_ (fun _=>?_)
  ·intro y0 y1 y2 y3 y4 y5 y6
   unfold spec_l17Steps.l1
   repeat' first
   | (with_reducible exact ih0 _ _ _)
   | (with_reducible exact ih1 _ _ _ _ _ _ _)
   | (with_reducible exact ih2 _ _ _ _ _ _ _)
   | (with_reducible exact ih3 _ _ _ _ _ _ _)
   | (with_reducible exact ih4 _ _ _ _ _ _ _ _)
   | (with_reducible exact LeO.refl _)
   | (with_reducible exact LeO.none _)
   | (with_reducible refine LeO.ite ?_ ?_)
   | (with_reducible refine LeO.bind ?_ (fun _=>?_))
   | exact ih0 _ _ _
   | exact ih1 _ _ _ _ _ _ _
   | exact ih2 _ _ _ _ _ _ _
   | exact ih3 _ _ _ _ _ _ _
   | exact ih4 _ _ _ _ _ _ _ _
   | exact LeO.none _
   | refine LeO.ite ?_ ?_
   | refine LeO.bind ?_ (fun _=>?_)
  ·intro y0 y1 y2 y3 y4 y5 y6
   unfold spec_l17Steps.l2
   repeat' first
   | (with_reducible exact ih0 _ _ _)
   | (with_reducible exact ih1 _ _ _ _ _ _ _)
   | (with_reducible exact ih2 _ _ _ _ _ _ _)
   | (with_reducible exact ih3 _ _ _ _ _ _ _)
   | (with_reducible exact ih4 _ _ _ _ _ _ _ _)
   | (with_reducible exact LeO.refl _)
   | (with_reducible exact LeO.none _)
   | (with_reducible refine LeO.ite ?_ ?_)
   | (with_reducible refine LeO.bind ?_ (fun _=>?_))
   | exact ih0 _ _ _
   | exact ih1 _ _ _ _ _ _ _
   | exact ih2 _ _ _ _ _ _ _
   | exact ih3 _ _ _ _ _ _ _
   | exact ih4 _ _ _ _ _ _ _ _
   | exact LeO.none _
   | refine LeO.ite ?_ ?_
   | refine LeO.bind ?_ (fun _=>?_)
  ·intro y0 y1 y2 y3 y4 y5 y6 y7
   unfold spec_l17Steps.l3
   repeat' first
   | (with_reducible exact ih0 _ _ _)
   | (with_reducible exact ih1 _ _ _ _ _ _ _)
   | (with_reducible exact ih2 _ _ _ _ _ _ _)
   | (with_reducible exact ih3 _ _ _ _ _ _ _)
   | (with_reducible exact ih4 _ _ _ _ _ _ _ _)
   | (with_reducible exact LeO.refl _)
   | (with_reducible exact LeO.none _)
   | (with_reducible refine LeO.ite ?_ ?_)
   | (with_reducible refine LeO.bind ?_ (fun _=>?_))
   | exact ih0 _ _ _
   | exact ih1 _ _ _ _ _ _ _
   | exact ih2 _ _ _ _ _ _ _
   | exact ih3 _ _ _ _ _ _ _
   | exact ih4 _ _ _ _ _ _ _ _
   | exact LeO.none _
   | refine LeO.ite ?_ ?_
   | refine LeO.bind ?_ (fun _=>?_)
theorem spec_l17Steps.mono:∀ a0 a1 a2 k,LeO (spec_l17Steps.f k a0 a1 a2) (spec_l17Steps.f (k + 1) a0 a1 a2):=by
 intro a0 a1 a2 k
 obtain ⟨ih0,ih1,ih2,ih3,ih4⟩:=spec_l17Steps.mono_l k
 exact ih0 a0 a1 a2
def spec_l17Steps.T3:Bool × List (List Nat × List Nat):=(true,[([],[]),([0],[0]),([],[]),([2],[2]),([3],[3]),([4],[4]),([1,5],[1,5]),([6],[6]),([7,0,1,2,3,4,5,6,7],[7])])
def spec_l17Steps.B3:List Nat:=[0,1,0,4,12,28,63,127,255]
theorem spec_l17Steps.tab3:rtab .any (opsOf Try.f51 3) = spec_l17Steps.T3:=by kernel_rfl
theorem spec_l17Steps.bits3:waitsOk spec_l17Steps.T3.2 spec_l17Steps.B3 = true:=by kernel_rfl
def spec_l17Steps.T5:Bool × List (List Nat × List Nat):=(true,[([],[]),([0],[0]),([1],[1]),([2],[2]),([3],[3]),([],[]),([5],[5]),([6],[6]),([7],[7]),([8,4],[8]),([4,9,9],[4,9]),([10,10,0,1,2,3,4,5,6,7,8,9,10],[10])])
def spec_l17Steps.B5:List Nat:=[0,1,3,7,15,0,32,96,224,511,1023,2047]
theorem spec_l17Steps.tab5:rtab .any (opsOf Try.f51 5) = spec_l17Steps.T5:=by kernel_rfl
theorem spec_l17Steps.bits5:waitsOk spec_l17Steps.T5.2 spec_l17Steps.B5 = true:=by kernel_rfl
def spec_l17Steps.T13:Bool × List (List Nat × List Nat):=(true,[([],[]),([],[]),([],[]),([1,2],[1,2]),([3],[3]),([4],[4]),([],[]),([6],[6]),([],[]),([],[]),([8,9],[8,9]),([10],[10]),([11],[11]),([],[]),([13],[13]),([14],[14]),([15],[15]),([7,12,16],[7,12,16]),([5,17],[5,17]),([18],[18]),([0,19,17],[0,19]),([20,20,0,1,2,3,4,5,6,7,8,9,10,11,12,13,14,15,16,17,18,19,20],[0,20])])
def spec_l17Steps.B13:List Nat:=[0,0,0,6,14,30,0,64,0,0,768,1792,3840,0,8192,24576,57344,131008,262142,524286,1048575,2097151]
theorem spec_l17Steps.tab13:rtab .any (opsOf Try.f51 13) = spec_l17Steps.T13:=by kernel_rfl
theorem spec_l17Steps.bits13:waitsOk spec_l17Steps.T13.2 spec_l17Steps.B13 = true:=by kernel_rfl
def spec_l17Steps.T17:Bool × List (List Nat × List Nat):=(true,[([],[]),([],[]),([],[]),([1,2],[1,2]),([3],[3]),([4],[4]),([],[]),([6],[6]),([],[]),([8],[8]),([9],[9]),([10],[10]),([],[]),([],[]),([12,13],[12,13]),([14],[14]),([15],[15]),([7,11,16],[7,11,16]),([5,17],[5,17]),([18],[18]),([0,19,17],[0,19]),([20,20,0,1,2,3,4,5,6,7,8,9,10,11,12,13,14,15,16,17,18,19,20],[0,20])])
def spec_l17Steps.B17:List Nat:=[0,0,0,6,14,30,0,64,0,256,768,1792,0,0,12288,28672,61440,131008,262142,524286,1048575,2097151]
theorem spec_l17Steps.tab17:rtab .any (opsOf Try.f51 17) = spec_l17Steps.T17:=by kernel_rfl
theorem spec_l17Steps.bits17:waitsOk spec_l17Steps.T17.2 spec_l17Steps.B17 = true:=by kernel_rfl
def spec_l17Steps.T24:Bool × List (List Nat × List Nat):=(true,[([],[]),([],[]),([0,1],[0,1]),([2],[2]),([3],[3]),([4],[4]),([5],[5]),([6],[6]),([6],[6]),([7,8,6],[6,7,8]),([9,6],[6,9]),([10,6],[6,10]),([6],[6]),([6],[6]),([12,13,6],[6,12,13]),([14,6],[6,14]),([15,6],[6,15]),([16,6],[6,16]),([11,17,6],[6,11,17]),([6,18],[6,18])])
def spec_l17Steps.B24:List Nat:=[0,0,3,7,15,31,63,127,127,511,1023,2047,127,127,12415,28799,61567,127103,262143,524287]
theorem spec_l17Steps.tab24:rtab .any (opsOf Try.f51 24) = spec_l17Steps.T24:=by kernel_rfl
theorem spec_l17Steps.bits24:waitsOk spec_l17Steps.T24.2 spec_l17Steps.B24 = true:=by kernel_rfl
def spec_l17Steps.T25:Bool × List (List Nat × List Nat):=(true,[([],[]),([],[]),([1],[1]),([],[]),([],[]),([3,4],[3,4]),([5],[5]),([6],[6]),([],[]),([],[]),([8,9],[8,9]),([10],[10]),([11],[11]),([2,7,12],[2,7,12]),([13],[13]),([14],[14]),([0,15,13],[0,15]),([16,16,0,1,2,3,4,5,6,7,8,9,10,11,12,13,14,15,16],[0,16])])
def spec_l17Steps.B25:List Nat:=[0,0,2,0,0,24,56,120,0,0,768,1792,3840,8190,16382,32766,65535,131071]
theorem spec_l17Steps.tab25:rtab .any (opsOf Try.f51 25) = spec_l17Steps.T25:=by kernel_rfl
theorem spec_l17Steps.bits25:waitsOk spec_l17Steps.T25.2 spec_l17Steps.B25 = true:=by kernel_rfl
set_option maxHeartbeats 8000000 in
set_option maxRecDepth 100000 in
theorem spec_l17Steps.calls (k:Nat):∀ (a0_0:Int) (a0_1:Int) (P0_2_:Nat → Prop) (A0_2:Option Addr) (c0_2:Nat) (l0_2:List (S29)) (r:List (S44)) (w:World) (hs0_2:Kd.V k29 29 w w.heap.size (fun k_=>P0_2_ k_) (.slice A0_2 l0_2.length c0_2) l0_2) (h:spec_l17Steps.f k a0_0 a0_1 l0_2 = some r),
  Calls Try.prog 51 #[.agg #[.int .i64 a0_0,.int .i64 a0_1,.slice A0_2 l0_2.length c0_2]] w fun e w'=>∃ v0_:Value,e = .returned (v0_)∧Kd.N k44 44 w' w.heap.size (fun k_=>(P0_2_ k_ ∨ w.heap.size ≤ k_)) v0_ r∧Below w.heap.size w w':=by
 induction k using Nat.strongRecOn with
 | _ k ih =>
 intro a0_0 a0_1 P0_2_ A0_2 c0_2 l0_2 r w hs0_2 h
 cases k with
 | zero=>exact absurd h (by simp [spec_l17Steps.f])
 | succ k =>
 simp only [spec_l17Steps.f] at h
 have hu29:=Try.underlying29
 have hu44:=Try.underlying44
 have HO0_2:=aQ (show Kd.V k29 29 w w.heap.size (fun k_=>(P0_2_ k_ ∨ w.heap.size ≤ k_)) (.slice A0_2 l0_2.length c0_2) l0_2 from Kd.V_mono hs0_2 (fun k_ hk=>.inl hk))
 have HB:=aQ (Below.refl w.heap.size w)
 have H:=h
 clear h
 by_cases c2:a0_0 = 1
 ·rw [if_pos c2] at H
  have c2b0:(a0_0 == 1) = true:=beq_iff_eq.mpr c2
  have c2b1:(a0_0 != 1) = false:=bne_eq_false_iff_eq.mpr c2
  clear c2
  by_cases c3:0 < (l0_2.length:Int);rotate_left
  ·rw [if_neg c3] at H
   exact absurd H (by simp)
  rw [if_pos c3] at H
  have c3b0:decide (0 < (l0_2.length:Int)) = true:=decide_eq_true c3
  have c3b1:decide (0 < l0_2.length) = true:=decide_eq_true (by omega)
  clear c3
  obtain ⟨y445,hy445⟩:∃ y_:List (S44),y_ = (([(⟨a0_1,(⟨(rd_T29 l0_2 0).f0,(rd_T29 l0_2 0).f1,(rd_T29 l0_2 0).f2⟩:S29)⟩:S44)]:List (S44))):=⟨_,rfl⟩
  replace H:(some y445) = some r:=by rw [hy445];exact H
  have Ny445:=aQ hy445
  clear hy445
  obtain rfl:=Option.some.inj H
  go_enter Try.func51,Try.ntmps51
  try go_wp2_with (first | ((with_reducible refine gate_dst (N:=1) rfl ?_);refine box1 (N:=1) (cs:=#[.int .i64 a0_0,.int .i64 a0_1,.slice A0_2 l0_2.length c0_2]) (t:=29) ?_;intro gb443 hg w4 hbox hb;replace HO0_2:=aQ (Kd.V_below (Kd.V_elderB (nV HO0_2.out) gb443 (Nat.le_of_eq hg.symm)) hb);have BK443:=aQ (hbox);have GW443:=aQ (gB:w.heap.size ≤ gb443);have GE443:=GW443;replace HB:=aQ (below_step bB hb);clear hb hbox hg;obtain ⟨hcz5_0,hcz5_1,hcz5_2,hfz5_0,hfz5_1,hfz5_2⟩:=cz3 BK443.out))
  replace HO0_2:=aQ (Kd.V_drew HO0_2.out)
  replace BK443:=aQ (blk_drew BK443.out)
  replace HB:=aQ (below_drew1 HB.out)
  have p444:0 ≤ (0:Int):=(by omega)
  have q444:0 < (l0_2.length:Int):=of_decide_eq_true (by first | (with_reducible assumption) | assumption)
  obtain ⟨ad444,A444_2,c444_2,e444,hx444_0,hx444_1,hx444_2,hl444_2,hi444_2⟩:=at_T29 (Kd.V_reads' HO0_2.out).2.2 0 p444 q444
  cases e444
  obtain ⟨ce444,hce444,hMe444,hcc444⟩:=Kd.V_get HO0_2.out z29 0 p444 (by first | exact q444 | exact of_decide_eq_true (by first | (with_reducible assumption) | assumption) | (have e_:=(Kd.V_reads' HO0_2.out).1;omega))
  obtain ⟨ua444_2,uc444_2,rfl,ul444_2,ge444_2⟩:=k29_openF hMe444
  have hv444_2:=hcc444 2 _ rfl
  rw [add_field _ _ 2 (by omega)] at hv444_2
  replace hv444_2:=Option.some.inj (hv444_2.symm.trans hx444_2)
  injection hv444_2 with hva_ hvn_ hvc_
  rw [hva_] at ge444_2
  rw [hvc_] at ul444_2
  have HL444_2:=aQ (show Kd.V k29 29 _ w.heap.size _ _ ((rd_T29 l0_2 0).f2) from Kd.V_mk ul444_2 ge444_2)
  clear hva_ hvn_ hvc_ ge444_2 ul444_2
  clear hcc444 hce444
  have qi444:(0 < l0_2.length) = True:=eq_true (by omega)
  (try rw [show ((0:Int)).toNat = 0 from rfl,show 0 * 3 = 0 from rfl] at hx444_0 hx444_1 hx444_2)
  (try rw [Addr.add_zero'] at hx444_0)
  (try rw [Addr.add_zero'] at hx444_1)
  (try rw [Addr.add_zero'] at hx444_2)
  have HR444_2:=aQ hi444_2
  have HC444_2:=aQ hl444_2
  clear hi444_2 hl444_2
  replace p444:=eq_true p444
  replace q444:=eq_true q444
  refine start_ (n:=9) (S:=fun w'=>w'.cell? ⟨gb443,0,none⟩ = some (.int .i64 a0_0)∧w'.cell? ⟨gb443,1,none⟩ = some (.int .i64 a0_1)∧w'.cell? ⟨gb443,2,none⟩ = some (.slice (some ad444) l0_2.length c0_2)∧w'.cell? ad444 = some (.int .i64 ((rd_T29 l0_2 0).f0))∧w'.cell? ⟨ad444.block,ad444.off + 1,none⟩ = some (.int .i64 ((rd_T29 l0_2 0).f1))∧w'.cell? ⟨ad444.block,ad444.off + 2,none⟩ = some (.slice A444_2 ((rd_T29 l0_2 0).f2).length c444_2)) (ds:=[]) (bn 9 0) (by kernel_rfl) rfl rfl ⟨(blk_cell BK443.out 0).trans rfl,(blk_cell BK443.out 1).trans rfl,(blk_cell BK443.out 2).trans rfl,hx444_0,hx444_1,hx444_2⟩ (fun hHeld=>?_);refine with_tabW spec_l17Steps.tab3 spec_l17Steps.bits3 (fun HT_ HW_=>?_)
  generalize w4.drew = w6 at HO0_2 BK443 HB HL444_2 HR444_2 hx444_0 hx444_1 hx444_2 hHeld ⊢
  refine pur (i:=0) (N:=some 14) (bn 9 1) ?_
  refine pur (i:=2) (N:=some 16) (bn 9 5) ?_
  refine tak (i:=1) (N:=some 15) (bn 9 7) ?_
  refine tak (i:=3) (N:=some 17) (bn 9 15) ?_
  refine pur (i:=4) (N:=some 18) (bn 9 31) ?_
  refine tak (i:=5) (N:=some 19) (bn 9 63) ?_
  refine pur (i:=6) (N:=some 20) (bn 9 127) ?_
  refine one_ (i:=7) (N:=some 21) (bn 9 255) rfl rfl (one_of HT_.out (by kernel_rfl)) (by decide) (fun K hK=>?_)
  refine Kd.N_lit_step k44 _ 44 ?hg (N':=21) ?hd (xs:=([(⟨a0_1,(⟨(rd_T29 l0_2 0).f0,(rd_T29 l0_2 0).f1,(rd_T29 l0_2 0).f2⟩:S29)⟩:S44)]:List (S44))) (inner:=[.int .i64 a0_1,.int .i64 ((rd_T29 l0_2 0).f0),.int .i64 ((rd_T29 l0_2 0).f1),.slice A444_2 ((rd_T29 l0_2 0).f2).length c444_2]) (ok:=(fun k_=>(P0_2_ k_ ∨ w.heap.size ≤ k_)∧k_ ≠ gb443)) (okp:=(fun k_=>(P0_2_ k_ ∨ w.heap.size ≤ k_)∧k_ ≠ gb443)) ?hr ?hp (fun _ hk=>hk) ((show ∀ k_,w6.heap.size ≤ k_ → (fun k_=>(P0_2_ k_ ∨ w.heap.size ≤ k_)∧k_ ≠ gb443) k_ from fun k_ hk=>⟨(.inr (Nat.le_trans (below_size bB) hk)),Kd.freshB (nB BK443.out) k_ hk⟩) _ (Nat.le_refl _)) (Below.refl _ _) (Nat.le_refl _) (by simp) ?_;(case hd=>rfl);(case hg=>rfl);(case hr=>first | (go_simp;done) | (go_simp;rfl));(case hp=>exact (Reps.c4 (show Kd.FK k44 _ _ (⟨a0_1,(⟨(rd_T29 l0_2 0).f0,(rd_T29 l0_2 0).f1,(rd_T29 l0_2 0).f2⟩:S29)⟩:S44) [.int .i64 a0_1,.int .i64 ((rd_T29 l0_2 0).f0),.int .i64 ((rd_T29 l0_2 0).f1),.slice A444_2 ((rd_T29 l0_2 0).f2).length c444_2] from (k44_mkF _ _ (⟨a0_1,(⟨(rd_T29 l0_2 0).f0,(rd_T29 l0_2 0).f1,(rd_T29 l0_2 0).f2⟩:S29)⟩:S44) (Kd.V_reads' (Kd.V_mono (ok':=(fun k_=>(P0_2_ k_ ∨ w.heap.size ≤ k_)∧k_ ≠ gb443)) (HL444_2.out) (fun k_ hk=>⟨hk.1,hk.2⟩))).2.1 (Kd.V_F (Kd.V_mono (ok':=(fun k_=>(P0_2_ k_ ∨ w.heap.size ≤ k_)∧k_ ≠ gb443)) (HL444_2.out) (fun k_ hk=>⟨hk.1,hk.2⟩))))) (Reps.none _ _)))
  intro v446 w7 ho8 hb hg_ hnew_
  have HS3_:=(hb.cell (World.block_lt_of_cell? _ _ (hHeld.2.2.2.1))).trans (hHeld.2.2.2.1)
  have HS4_:=(hb.cell (World.block_lt_of_cell? _ _ (hHeld.2.2.2.2.1))).trans (hHeld.2.2.2.2.1)
  have HS5_:=(hb.cell (World.block_lt_of_cell? _ _ (hHeld.2.2.2.2.2))).trans (hHeld.2.2.2.2.2)
  clear hg_ hnew_
  (first | rw [← Ny445.out] at ho8 | (simp only [Int.reduceToNat] at ho8;rw [← Ny445.out] at ho8))
  replace HO0_2:=aQ (Kd.V_elder' (nV HO0_2.out) (Kd.N_base ho8) hb)
  replace HL444_2:=aQ (Kd.V_elder' (nV HL444_2.out) (Kd.N_base ho8) hb)
  have HO447:=aQ (Kd.N_lower ho8 (below_size bB))
  replace BK443:=aQ (blk_below (nB BK443.out) hb)
  replace HR444_2:=aQ (Kd.C_below (nC HR444_2.out) hb)
  replace HB:=aQ (below_step bB hb)
  clear hb ho8
  refine hK.out _ _ ⟨(blk_cell BK443.out 0).trans rfl,(blk_cell BK443.out 1).trans rfl,(blk_cell BK443.out 2).trans rfl,HS3_,HS4_,HS5_⟩ (fun hHeld=>?_)
  clear hK K
  refine nrm (N:=some 21) ?_
  refine pur (i:=8) (N:=some 2) (bn 9 511) ?_
  refine done_ (done_of HT_.out (by kernel_rfl)) ?_
  try go_wp2
  go_ret
  exact ⟨_,rfl,by (with_reducible repeat (first | apply Kd.N_alloc | apply Kd.N_drewN | apply Kd.N_drew));exact Kd.N_mono HO447.out (fun _ hk=>hk.1),bB⟩
 rw [if_neg c2] at H
 have c2b0:(a0_0 == 1) = false:=beq_eq_false_iff_ne.mpr c2
 have c2b1:(a0_0 != 1) = true:=bne_iff_ne.mpr c2
 by_cases c9:a0_0 = 3
 ·rw [if_pos c9] at H
  have c9b0:(a0_0 == 3) = true:=beq_iff_eq.mpr c9
  have c9b1:(a0_0 != 3) = false:=bne_eq_false_iff_eq.mpr c9
  clear c9
  by_cases c10:0 < (l0_2.length:Int);rotate_left
  ·rw [if_neg c10] at H
   exact absurd H (by simp)
  rw [if_pos c10] at H
  have c10b0:decide (0 < (l0_2.length:Int)) = true:=decide_eq_true c10
  have c10b1:decide (0 < l0_2.length) = true:=decide_eq_true (by omega)
  clear c10
  obtain ⟨t449,A11,H⟩:=bQ H
  (try dsimp only at H)
  by_cases c12:1 < (l0_2.length:Int);rotate_left
  ·rw [if_neg c12] at H
   exact absurd H (by simp)
  rw [if_pos c12] at H
  have c12b0:decide (1 < (l0_2.length:Int)) = true:=decide_eq_true c12
  have c12b1:decide (1 < l0_2.length) = true:=decide_eq_true (by omega)
  clear c12
  obtain ⟨t453,A13,H⟩:=bQ H
  (try dsimp only at H)
  by_cases c14:t449.length + t453.length < 2932031007402;rotate_left
  ·rw [if_neg c14] at H
   exact absurd H (by simp)
  rw [if_pos c14] at H
  have LMc14:=aQ c14
  clear c14
  obtain ⟨y456,hy456⟩:∃ y_:List (S44),y_ = (t449 ++ t453):=⟨_,rfl⟩
  replace H:(some y456) = some r:=by rw [hy456];exact H
  have Ny456:=aQ hy456
  clear hy456
  obtain rfl:=Option.some.inj H
  go_enter Try.func51,Try.ntmps51
  try go_wp2_with (first | ((with_reducible refine gate_dst (N:=1) rfl ?_);refine box1 (N:=1) (cs:=#[.int .i64 a0_0,.int .i64 a0_1,.slice A0_2 l0_2.length c0_2]) (t:=29) ?_;intro gb443 hg w15 hbox hb;replace HO0_2:=aQ (Kd.V_below (Kd.V_elderB (nV HO0_2.out) gb443 (Nat.le_of_eq hg.symm)) hb);have BK443:=aQ (hbox);have GW443:=aQ (gB:w.heap.size ≤ gb443);have GE443:=GW443;replace HB:=aQ (below_step bB hb);clear hb hbox hg;obtain ⟨hcz16_0,hcz16_1,hcz16_2,hfz16_0,hfz16_1,hfz16_2⟩:=cz3 BK443.out))
  replace HO0_2:=aQ (Kd.V_drew HO0_2.out)
  replace BK443:=aQ (blk_drew BK443.out)
  replace HB:=aQ (below_drew1 HB.out)
  have p448:0 ≤ (0:Int):=(by omega)
  have q448:0 < (l0_2.length:Int):=of_decide_eq_true (by first | (with_reducible assumption) | assumption)
  obtain ⟨ad448,A448_2,c448_2,e448,hx448_0,hx448_1,hx448_2,hl448_2,hi448_2⟩:=at_T29 (Kd.V_reads' HO0_2.out).2.2 0 p448 q448
  cases e448
  obtain ⟨ce448,hce448,hMe448,hcc448⟩:=Kd.V_get HO0_2.out z29 0 p448 (by first | exact q448 | exact of_decide_eq_true (by first | (with_reducible assumption) | assumption) | (have e_:=(Kd.V_reads' HO0_2.out).1;omega))
  obtain ⟨ua448_2,uc448_2,rfl,ul448_2,ge448_2⟩:=k29_openF hMe448
  have hv448_2:=hcc448 2 _ rfl
  rw [add_field _ _ 2 (by omega)] at hv448_2
  replace hv448_2:=Option.some.inj (hv448_2.symm.trans hx448_2)
  injection hv448_2 with hva_ hvn_ hvc_
  rw [hva_] at ge448_2
  rw [hvc_] at ul448_2
  have HL448_2:=aQ (show Kd.V k29 29 _ w.heap.size _ _ ((rd_T29 l0_2 0).f2) from Kd.V_mk ul448_2 ge448_2)
  clear hva_ hvn_ hvc_ ge448_2 ul448_2
  clear hcc448 hce448
  have qi448:(0 < l0_2.length) = True:=eq_true (by omega)
  (try rw [show ((0:Int)).toNat = 0 from rfl,show 0 * 3 = 0 from rfl] at hx448_0 hx448_1 hx448_2)
  (try rw [Addr.add_zero'] at hx448_0)
  (try rw [Addr.add_zero'] at hx448_1)
  (try rw [Addr.add_zero'] at hx448_2)
  have HR448_2:=aQ hi448_2
  have HC448_2:=aQ hl448_2
  clear hi448_2 hl448_2
  replace p448:=eq_true p448
  replace q448:=eq_true q448
  have p452:0 ≤ (1:Int):=(by omega)
  have q452:1 < (l0_2.length:Int):=of_decide_eq_true (by first | (with_reducible assumption) | assumption)
  obtain ⟨ad452,A452_2,c452_2,e452,hx452_0,hx452_1,hx452_2,hl452_2,hi452_2⟩:=at_T29 (Kd.V_reads' HO0_2.out).2.2 1 p452 q452
  obtain rfl:ad448 = ad452:=(by injection e452)
  obtain ⟨ce452,hce452,hMe452,hcc452⟩:=Kd.V_get HO0_2.out z29 1 p452 (by first | exact q452 | exact of_decide_eq_true (by first | (with_reducible assumption) | assumption) | (have e_:=(Kd.V_reads' HO0_2.out).1;omega))
  obtain ⟨ua452_2,uc452_2,rfl,ul452_2,ge452_2⟩:=k29_openF hMe452
  have hv452_2:=hcc452 2 _ rfl
  rw [add_field _ _ 2 (by omega)] at hv452_2
  replace hv452_2:=Option.some.inj (hv452_2.symm.trans hx452_2)
  injection hv452_2 with hva_ hvn_ hvc_
  rw [hva_] at ge452_2
  rw [hvc_] at ul452_2
  have HL452_2:=aQ (show Kd.V k29 29 _ w.heap.size _ _ ((rd_T29 l0_2 1).f2) from Kd.V_mk ul452_2 ge452_2)
  clear hva_ hvn_ hvc_ ge452_2 ul452_2
  clear hcc452 hce452
  (try simp only [show (1:Int).toNat = 1 from rfl,Nat.reduceMul,Nat.reduceEqDiff,Go.Addr.add,↓reduceIte] at hx452_0)
  (try simp only [show (1:Int).toNat = 1 from rfl,Nat.reduceMul,Nat.reduceEqDiff,Go.Addr.add,↓reduceIte] at hx452_1)
  (try simp only [show (1:Int).toNat = 1 from rfl,Nat.reduceMul,Nat.reduceEqDiff,Go.Addr.add,↓reduceIte] at hx452_2)
  have qi452:(1 < l0_2.length) = True:=eq_true (by omega)
  (try rw [show ((1:Int)).toNat = 1 from rfl,show 1 * 3 = 3 from rfl] at hx452_0 hx452_1 hx452_2)
  have HR452_2:=aQ hi452_2
  have HC452_2:=aQ hl452_2
  clear hi452_2 hl452_2
  replace p452:=eq_true p452
  replace q452:=eq_true q452
  refine start_ (n:=12) (S:=fun w'=>w'.cell? ⟨gb443,0,none⟩ = some (.int .i64 a0_0)∧w'.cell? ⟨gb443,1,none⟩ = some (.int .i64 a0_1)∧w'.cell? ⟨gb443,2,none⟩ = some (.slice (some ad448) l0_2.length c0_2)∧w'.cell? ad448 = some (.int .i64 ((rd_T29 l0_2 0).f0))∧w'.cell? ⟨ad448.block,ad448.off + 1,none⟩ = some (.int .i64 ((rd_T29 l0_2 0).f1))∧w'.cell? ⟨ad448.block,ad448.off + 2,none⟩ = some (.slice A448_2 ((rd_T29 l0_2 0).f2).length c448_2)∧w'.cell? ⟨ad448.block,ad448.off + 3,none⟩ = some (.int .i64 ((rd_T29 l0_2 1).f0))∧w'.cell? ⟨ad448.block,ad448.off + 3 + 1,none⟩ = some (.int .i64 ((rd_T29 l0_2 1).f1))∧w'.cell? ⟨ad448.block,ad448.off + 3 + 2,none⟩ = some (.slice A452_2 ((rd_T29 l0_2 1).f2).length c452_2)) (ds:=[10]) (bn 12 0) (by kernel_rfl) rfl rfl ⟨(blk_cell BK443.out 0).trans rfl,(blk_cell BK443.out 1).trans rfl,(blk_cell BK443.out 2).trans rfl,hx448_0,hx448_1,hx448_2,hx452_0,hx452_1,hx452_2⟩ (fun hHeld=>?_);refine with_tabW spec_l17Steps.tab5 spec_l17Steps.bits5 (fun HT_ HW_=>?_)
  generalize w15.drew = w17 at HO0_2 BK443 HB HL448_2 HL452_2 HR448_2 HR452_2 hx448_0 hx448_1 hx448_2 hx452_0 hx452_1 hx452_2 hHeld ⊢
  refine pur (i:=0) (N:=some 24) (bn 12 1) ?_
  refine pur (i:=5) (N:=some 29) (bn 12 33) ?_
  refine tak (i:=1) (N:=some 25) (bn 12 35) ?_
  refine pur (i:=2) (N:=some 26) (bn 12 39) ?_
  refine tak (i:=3) (N:=some 27) (bn 12 47) ?_
  refine tak (i:=6) (N:=some 30) (bn 12 111) ?_
  refine pur (i:=7) (N:=some 31) (bn 12 239) ?_
  refine tak (i:=8) (N:=some 32) (bn 12 495) ?_
  refine one_ (i:=4) (N:=some 28) (bn 12 511) rfl rfl (one_of HT_.out (by kernel_rfl)) (by decide) (fun K hK=>?_)
  refine goes1 Try.func51 #[.agg #[.int .i64 ((rd_T29 l0_2 0).f0),.int .i64 ((rd_T29 l0_2 0).f1),.slice A448_2 ((rd_T29 l0_2 0).f2).length c448_2]] ?_
  with_reducible refine (ih k (by omega) ((rd_T29 l0_2 0).f0) ((rd_T29 l0_2 0).f1) (fun k_=>((P0_2_ k_ ∨ w.heap.size ≤ k_)∧k_ ≠ gb443)) _ _ ((rd_T29 l0_2 0).f2) t449 _ ?side1 A11.out).mono ?_
  (case side1=>exact HL448_2.out)
  rintro e w18 ⟨v450,rfl,ho0,hb⟩
  have HS3_:=(hb.cell (World.block_lt_of_cell? _ _ (hHeld.2.2.2.1))).trans (hHeld.2.2.2.1)
  have HS4_:=(hb.cell (World.block_lt_of_cell? _ _ (hHeld.2.2.2.2.1))).trans (hHeld.2.2.2.2.1)
  have HS5_:=(hb.cell (World.block_lt_of_cell? _ _ (hHeld.2.2.2.2.2.1))).trans (hHeld.2.2.2.2.2.1)
  have HS6_:=(hb.cell (World.block_lt_of_cell? _ _ (hHeld.2.2.2.2.2.2.1))).trans (hHeld.2.2.2.2.2.2.1)
  have HS7_:=(hb.cell (World.block_lt_of_cell? _ _ (hHeld.2.2.2.2.2.2.2.1))).trans (hHeld.2.2.2.2.2.2.2.1)
  have HS8_:=(hb.cell (World.block_lt_of_cell? _ _ (hHeld.2.2.2.2.2.2.2.2))).trans (hHeld.2.2.2.2.2.2.2.2)
  refine ⟨_,rfl,?_⟩
  replace HO0_2:=aQ (Kd.V_elder' (nV HO0_2.out) (Kd.N_base ho0) hb)
  replace HL448_2:=aQ (Kd.V_elder' (nV HL448_2.out) (Kd.N_base ho0) hb)
  replace HL452_2:=aQ (Kd.V_elder' (nV HL452_2.out) (Kd.N_base ho0) hb)
  have HO451:=aQ (Kd.N_lower (Kd.N_mono (ok':=fun k_=>(P0_2_ k_ ∨ w.heap.size ≤ k_)∧k_ ≠ gb443) ho0 (fun k_ hk_=>⟨Or.elim hk_ (fun hs_=>hs_.1) (fun hn_=>(.inr (Nat.le_trans (below_size bB) hn_))),Or.elim hk_ (fun hs_=>hs_.2) (fun hn_=>(Kd.freshB (nB BK443.out) k_ hn_))⟩)) (below_size bB))
  replace BK443:=aQ (blk_below (nB BK443.out) hb)
  replace HR448_2:=aQ (Kd.C_below (nC HR448_2.out) hb)
  replace HR452_2:=aQ (Kd.C_below (nC HR452_2.out) hb)
  replace HB:=aQ (below_step bB hb)
  (try clear hb)
  (try clear ho0)
  refine hK.out _ _ ⟨(blk_cell BK443.out 0).trans rfl,(blk_cell BK443.out 1).trans rfl,(blk_cell BK443.out 2).trans rfl,HS3_,HS4_,HS5_,HS6_,HS7_,HS8_⟩ (fun hHeld=>?_)
  clear hK K
  refine nrm (N:=some 28) ?_
  refine one_ (i:=9) (N:=some 33) (bn 12 1023) rfl rfl (one_of HT_.out (by kernel_rfl)) (by decide) (fun K hK=>?_)
  refine goes1 Try.func51 #[.agg #[.int .i64 ((rd_T29 l0_2 1).f0),.int .i64 ((rd_T29 l0_2 1).f1),.slice A452_2 ((rd_T29 l0_2 1).f2).length c452_2]] ?_
  with_reducible refine (ih k (by omega) ((rd_T29 l0_2 1).f0) ((rd_T29 l0_2 1).f1) (fun k_=>(((P0_2_ k_ ∨ w.heap.size ≤ k_)∧k_ ≠ gb443)∧some k_ ≠ (v450:Value).ownBlock)) _ _ ((rd_T29 l0_2 1).f2) t453 _ ?side1 A13.out).mono ?_
  (case side1=>exact HL452_2.out)
  rintro e w19 ⟨v454,rfl,ho0,hb⟩
  have HS3_:=(hb.cell (World.block_lt_of_cell? _ _ (hHeld.2.2.2.1))).trans (hHeld.2.2.2.1)
  have HS4_:=(hb.cell (World.block_lt_of_cell? _ _ (hHeld.2.2.2.2.1))).trans (hHeld.2.2.2.2.1)
  have HS5_:=(hb.cell (World.block_lt_of_cell? _ _ (hHeld.2.2.2.2.2.1))).trans (hHeld.2.2.2.2.2.1)
  have HS6_:=(hb.cell (World.block_lt_of_cell? _ _ (hHeld.2.2.2.2.2.2.1))).trans (hHeld.2.2.2.2.2.2.1)
  have HS7_:=(hb.cell (World.block_lt_of_cell? _ _ (hHeld.2.2.2.2.2.2.2.1))).trans (hHeld.2.2.2.2.2.2.2.1)
  have HS8_:=(hb.cell (World.block_lt_of_cell? _ _ (hHeld.2.2.2.2.2.2.2.2))).trans (hHeld.2.2.2.2.2.2.2.2)
  refine ⟨_,rfl,?_⟩
  replace HO0_2:=aQ (Kd.V_elder' (nV HO0_2.out) (Kd.N_base ho0) hb)
  replace HL448_2:=aQ (Kd.V_elder' (nV HL448_2.out) (Kd.N_base ho0) hb)
  replace HL452_2:=aQ (Kd.V_elder' (nV HL452_2.out) (Kd.N_base ho0) hb)
  have HO455:=aQ (Kd.N_lower (Kd.N_mono (ok':=fun k_=>(P0_2_ k_ ∨ w.heap.size ≤ k_)∧some k_ ≠ (v450:Value).ownBlock∧k_ ≠ gb443) ho0 (fun k_ hk_=>⟨Or.elim hk_ (fun hs_=>hs_.1.1) (fun hn_=>(.inr (Nat.le_trans (below_size bB) hn_))),Or.elim hk_ (fun hs_=>hs_.2) (fun hn_=>(Kd.fresh' (Kd.N_lt (nN HO451.out)) k_ hn_)),Or.elim hk_ (fun hs_=>hs_.1.2) (fun hn_=>(Kd.freshB (nB BK443.out) k_ hn_))⟩)) (below_size bB))
  replace HO451:=aQ (Kd.N_elder' (nN HO451.out) (Kd.N_base ho0) hb)
  replace BK443:=aQ (blk_below (nB BK443.out) hb)
  replace HR448_2:=aQ (Kd.C_below (nC HR448_2.out) hb)
  replace HR452_2:=aQ (Kd.C_below (nC HR452_2.out) hb)
  replace HB:=aQ (below_step bB hb)
  (try clear hb)
  (try clear ho0)
  obtain ⟨Ao21,co21,eo21⟩:=Kd.N_slice HO455.out
  (first | subst eo21 | (injection eo21 with f1_ f2_ f3_;have f4_:=f1_.symm;have f5_:=f3_.symm;clear f1_ f2_ f3_;subst f4_;subst f5_))
  refine hK.out _ _ ⟨(blk_cell BK443.out 0).trans rfl,(blk_cell BK443.out 1).trans rfl,(blk_cell BK443.out 2).trans rfl,HS3_,HS4_,HS5_,HS6_,HS7_,HS8_⟩ (fun hHeld=>?_)
  clear hK K
  refine nrm (N:=some 33) ?_
  refine last_ (i:=10) (N:=some 34) (bn 12 2047) rfl rfl (one_of HT_.out (by kernel_rfl)) (by decide) (fun K hK=>?_)
  refine Kd.N_append_rows_step k44 (w0:=w) w.heap.size (by rfl) (.tmp 28) (.tmp 33) 35 44 (.agg #[(.int .i64 0),(.int .i64 0),(.int .i64 0),(.slice none 0 0)]) 48 rfl Try.underlying35 info44 rfl (by decide) (by omega) v450 t449 t453 _ _ _ (fun k_=>(P0_2_ k_ ∨ w.heap.size ≤ k_)∧k_ ≠ gb443) (fun k_=>((fun k_=>(P0_2_ k_ ∨ w.heap.size ≤ k_)∧k_ ≠ gb443)) k_∧some k_ ≠ (v450:Value).ownBlock) rfl rfl ?aO ?aR (fun _ hk=>hk) ?aF ?aB ?aS ?aL ?_
  (case aR=>exact (by skip;exact Kd.N_F (Kd.N_mono (ok':=(fun k_=>((fun k_=>(P0_2_ k_ ∨ w.heap.size ≤ k_)∧k_ ≠ gb443)) k_∧some k_ ≠ (v450:Value).ownBlock)) (HO455.out) (fun k_ hk=>⟨⟨hk.1,hk.2.2⟩,hk.2.1⟩))))
  (case aB=>exact bB)
  (case aF=>exact (fun k_ hk=>⟨(.inr (Nat.le_trans (below_size bB) hk)),Kd.freshB (nB BK443.out) k_ hk⟩))
  (case aO=>exact (nN (Kd.N_mono HO451.out (fun _ hk=>⟨hk.1.1,hk.1.2⟩))))
  (case aS=>exact (below_size bB))
  (case aL=>have:=LMc14.out;omega)
  intro v457 w20 ho hb hg hat
  rw [← Ny456.out] at ho
  have n0_:=aQ (Kd.V_afterv (ok:=(fun k_=>(P0_2_ k_ ∨ w.heap.size ≤ k_)∧some k_ ≠ (.slice Ao21 t453.length co21:Value).ownBlock∧k_ ≠ gb443)) (nV (Kd.V_mono HO0_2.out (fun _ hk=>⟨⟨hk.1.1.1,⟨hk.2,hk.1.1.2⟩⟩,hk.1.2⟩))) hg hat)
  have n1_:=aQ (blk_grown (nB BK443.out) hg (Kd.N_ne HO451.out BK443.out (by decide)))
  have n2_:=aQ (Kd.V_afterv (ok:=(fun k_=>(P0_2_ k_ ∨ w.heap.size ≤ k_)∧some k_ ≠ (.slice Ao21 t453.length co21:Value).ownBlock∧k_ ≠ gb443)) (nV (Kd.V_mono HL448_2.out (fun _ hk=>⟨⟨hk.1.1.1,⟨hk.2,hk.1.1.2⟩⟩,hk.1.2⟩))) hg hat)
  have n3_:=aQ (Kd.V_afterv (ok:=(fun k_=>(P0_2_ k_ ∨ w.heap.size ≤ k_)∧some k_ ≠ (.slice Ao21 t453.length co21:Value).ownBlock∧k_ ≠ gb443)) (nV (Kd.V_mono HL452_2.out (fun _ hk=>⟨⟨hk.1.1.1,⟨hk.2,hk.1.1.2⟩⟩,hk.1.2⟩))) hg hat)
  have n4_:=aQ (Kd.N_afterv (ok:=(fun k_=>(P0_2_ k_ ∨ w.heap.size ≤ k_)∧k_ ≠ gb443)) (nN (Kd.N_mono HO455.out (fun _ hk=>⟨⟨hk.1,hk.2.2⟩,hk.2.1⟩))) hg hat)
  have n5_:=aQ (hb)
  have n6_:=aQ (ho)
  clear HO0_2 BK443 HL448_2 HL452_2 HO455 HB HO451
  have HO0_2:=n0_
  have BK443:=n1_
  have HL448_2:=n2_
  have HL452_2:=n3_
  have HO455:=n4_
  have HB:=n5_
  have HO458:=n6_
  clear n0_ n1_ n2_ n3_ n4_ n5_ n6_
  clear ho hb hg hat
  refine hK.out _ _ ?_
  clear hK K
  refine nrm (N:=some 34) ?_
  refine pur (i:=11) (N:=some 2) (bn 12 4095) ?_
  refine done_ (done_of HT_.out (by kernel_rfl)) ?_
  try go_wp2
  go_ret
  exact ⟨_,rfl,by (with_reducible repeat (first | apply Kd.N_alloc | apply Kd.N_drewN | apply Kd.N_drew));exact Kd.N_mono HO458.out (fun _ hk=>hk.1),bB⟩
 rw [if_neg c9] at H
 have c9b0:(a0_0 == 3) = false:=beq_eq_false_iff_ne.mpr c9
 have c9b1:(a0_0 != 3) = true:=bne_iff_ne.mpr c9
 by_cases c22:a0_0 = 4;rotate_left
 ·rw [if_neg c22] at H
  have c22b0:(a0_0 == 4) = false:=beq_eq_false_iff_ne.mpr c22
  have c22b1:(a0_0 != 4) = true:=bne_iff_ne.mpr c22
  obtain ⟨y505,hy505⟩:∃ y_:List (S44),y_ = (([]:List (S44))):=⟨_,rfl⟩
  replace H:(some y505) = some r:=by rw [hy505];exact H
  have Ny505:=aQ hy505
  clear hy505
  obtain rfl:=Option.some.inj H
  go_enter Try.func51,Try.ntmps51
  go_wp2_with (first | ((with_reducible refine gate_dst (N:=1) rfl ?_);refine box1 (N:=1) (cs:=#[.int .i64 a0_0,.int .i64 a0_1,.slice A0_2 l0_2.length c0_2]) (t:=29) ?_;intro gb443 hg w73 hbox hb;replace HO0_2:=aQ (Kd.V_below (Kd.V_elderB (nV HO0_2.out) gb443 (Nat.le_of_eq hg.symm)) hb);have BK443:=aQ (hbox);have GW443:=aQ (gB:w.heap.size ≤ gb443);have GE443:=GW443;replace HB:=aQ (below_step bB hb);clear hb hbox hg;obtain ⟨hcz74_0,hcz74_1,hcz74_2,hfz74_0,hfz74_1,hfz74_2⟩:=cz3 BK443.out) | ((with_reducible refine gate_dst (N:=152) rfl ?_);refine Kd.N_lit k44 _ 44 ?hg (N':=152) ?hd (xs:=([]:List (S44))) (inner:=[]) (ok:=(fun k_=>(P0_2_ k_ ∨ w.heap.size ≤ k_)∧k_ ≠ gb443)) (okp:=(fun k_=>(P0_2_ k_ ∨ w.heap.size ≤ k_)∧k_ ≠ gb443)) ?hr ?hp (fun _ hk=>hk) ((show ∀ k_,w73.heap.size ≤ k_ → (fun k_=>(P0_2_ k_ ∨ w.heap.size ≤ k_)∧k_ ≠ gb443) k_ from fun k_ hk=>⟨(.inr (Nat.le_trans (below_size bB) hk)),Kd.freshB (nB BK443.out) k_ hk⟩) _ (Nat.le_refl _)) (Below.refl _ _) (Nat.le_refl _) (by simp) ?_;(case hd=>rfl);(case hg=>rfl);(case hr=>first | (go_simp;done) | (go_simp;rfl));(case hp=>exact (Reps.none _ _));intro v506 w75 ho76 hb hg_ hnew_;clear hg_ hnew_;(first | rw [← Ny505.out] at ho76 | (simp only [Int.reduceToNat] at ho76;rw [← Ny505.out] at ho76));replace HO0_2:=aQ (Kd.V_elder' (nV HO0_2.out) (Kd.N_base ho76) hb);have HO507:=aQ (Kd.N_lower ho76 (below_size bB));replace BK443:=aQ (blk_below (nB BK443.out) hb);replace HB:=aQ (below_step bB hb);clear hb ho76))
  go_ret
  exact ⟨_,rfl,by (with_reducible repeat (first | apply Kd.N_alloc | apply Kd.N_drewN | apply Kd.N_drew));exact Kd.N_mono HO507.out (fun _ hk=>hk.1),bB⟩
 rw [if_pos c22] at H
 have c22b0:(a0_0 == 4) = true:=beq_iff_eq.mpr c22
 have c22b1:(a0_0 != 4) = false:=bne_eq_false_iff_eq.mpr c22
 clear c22
 obtain ⟨y459,hy459⟩:∃ y_:List (S44),y_ = (([]:List (S44))):=⟨_,rfl⟩
 replace H:(if 0 < (l0_2.length:Int) then ((spec_l17Steps.f k ((rd_T29 l0_2 0).f0) ((rd_T29 l0_2 0).f1) ((rd_T29 l0_2 0).f2)).bind fun t463=>(if 1 < (l0_2.length:Int) then ((spec_l17Steps.f k ((rd_T29 l0_2 1).f0) ((rd_T29 l0_2 1).f1) ((rd_T29 l0_2 1).f2)).bind fun t467=>(spec_l17Steps.l0 k y459 t463 t467 0 a0_0 a0_1 l0_2)) else (none))) else (none)) = some r:=by rw [hy459];exact H
 have Ny459:=aQ hy459
 clear hy459
 by_cases c23:0 < (l0_2.length:Int);rotate_left
 ·rw [if_neg c23] at H
  exact absurd H (by simp)
 rw [if_pos c23] at H
 have c23b0:decide (0 < (l0_2.length:Int)) = true:=decide_eq_true c23
 have c23b1:decide (0 < l0_2.length) = true:=decide_eq_true (by omega)
 clear c23
 obtain ⟨t463,A24,H⟩:=bQ H
 (try dsimp only at H)
 by_cases c25:1 < (l0_2.length:Int);rotate_left
 ·rw [if_neg c25] at H
  exact absurd H (by simp)
 rw [if_pos c25] at H
 have c25b0:decide (1 < (l0_2.length:Int)) = true:=decide_eq_true c25
 have c25b1:decide (1 < l0_2.length) = true:=decide_eq_true (by omega)
 clear c25
 obtain ⟨t467,A26,H⟩:=bQ H
 (try dsimp only at H)
 have H':=aQ H
 clear H
 go_enter Try.func51,Try.ntmps51
 go_wp2_with (first | ((with_reducible refine gate_dst (N:=1) rfl ?_);refine box1 (N:=1) (cs:=#[.int .i64 a0_0,.int .i64 a0_1,.slice A0_2 l0_2.length c0_2]) (t:=29) ?_;intro gb443 hg w27 hbox hb;replace HO0_2:=aQ (Kd.V_below (Kd.V_elderB (nV HO0_2.out) gb443 (Nat.le_of_eq hg.symm)) hb);have BK443:=aQ (hbox);have GW443:=aQ (gB:w.heap.size ≤ gb443);have GE443:=GW443;replace HB:=aQ (below_step bB hb);clear hb hbox hg;obtain ⟨hcz28_0,hcz28_1,hcz28_2,hfz28_0,hfz28_1,hfz28_2⟩:=cz3 BK443.out) | ((with_reducible refine gate_dst (N:=37) rfl ?_);refine Kd.N_lit k44 _ 44 ?hg (N':=37) ?hd (xs:=([]:List (S44))) (inner:=[]) (ok:=(fun k_=>(P0_2_ k_ ∨ w.heap.size ≤ k_)∧k_ ≠ gb443)) (okp:=(fun k_=>(P0_2_ k_ ∨ w.heap.size ≤ k_)∧k_ ≠ gb443)) ?hr ?hp (fun _ hk=>hk) ((show ∀ k_,w27.heap.size ≤ k_ → (fun k_=>(P0_2_ k_ ∨ w.heap.size ≤ k_)∧k_ ≠ gb443) k_ from fun k_ hk=>⟨(.inr (Nat.le_trans (below_size bB) hk)),Kd.freshB (nB BK443.out) k_ hk⟩) _ (Nat.le_refl _)) (Below.refl _ _) (Nat.le_refl _) (by simp) ?_;(case hd=>rfl);(case hg=>rfl);(case hr=>first | (go_simp;done) | (go_simp;rfl));(case hp=>exact (Reps.none _ _));intro v460 w29 ho30 hb hg_ hnew_;clear hg_ hnew_;(first | rw [← Ny459.out] at ho30 | (simp only [Int.reduceToNat] at ho30;rw [← Ny459.out] at ho30));replace HO0_2:=aQ (Kd.V_elder' (nV HO0_2.out) (Kd.N_base ho30) hb);have HO461:=aQ (Kd.N_lower ho30 (below_size bB));replace BK443:=aQ (blk_below (nB BK443.out) hb);replace HB:=aQ (below_step bB hb);clear hb ho30;obtain ⟨hcz31_0,hcz31_1,hcz31_2,hfz31_0,hfz31_1,hfz31_2⟩:=cz3 BK443.out;have p462:0 ≤ (0:Int):=(by omega);have q462:0 < (l0_2.length:Int):=of_decide_eq_true (by first | (with_reducible assumption) | assumption);obtain ⟨ad462,A462_2,c462_2,e462,hx462_0,hx462_1,hx462_2,hl462_2,hi462_2⟩:=at_T29 (Kd.V_reads' HO0_2.out).2.2 0 p462 q462;cases e462;obtain ⟨ce462,hce462,hMe462,hcc462⟩:=Kd.V_get HO0_2.out z29 0 p462 (by first | exact q462 | exact of_decide_eq_true (by first | (with_reducible assumption) | assumption) | (have e_:=(Kd.V_reads' HO0_2.out).1;omega));obtain ⟨ua462_2,uc462_2,rfl,ul462_2,ge462_2⟩:=k29_openF hMe462;have hv462_2:=hcc462 2 _ rfl;rw [add_field _ _ 2 (by omega)] at hv462_2;replace hv462_2:=Option.some.inj (hv462_2.symm.trans hx462_2);injection hv462_2 with hva_ hvn_ hvc_;rw [hva_] at ge462_2;rw [hvc_] at ul462_2;have HL462_2:=aQ (show Kd.V k29 29 _ w.heap.size _ _ ((rd_T29 l0_2 0).f2) from Kd.V_mk ul462_2 ge462_2);clear hva_ hvn_ hvc_ ge462_2 ul462_2;clear hcc462 hce462;have qi462:(0 < l0_2.length) = True:=eq_true (by omega);(try rw [show ((0:Int)).toNat = 0 from rfl,show 0 * 3 = 0 from rfl] at hx462_0 hx462_1 hx462_2);(try rw [Addr.add_zero'] at hx462_0);(try rw [Addr.add_zero'] at hx462_1);(try rw [Addr.add_zero'] at hx462_2);have HR462_2:=aQ hi462_2;have HC462_2:=aQ hl462_2;clear hi462_2 hl462_2;replace p462:=eq_true p462;replace q462:=eq_true q462) | ((with_reducible refine gate_callee (f:=51) rfl ?_);refine goesL_ (some 42) rfl rfl Try.func51 (by kernel_rfl) rfl #[.agg #[.int .i64 ((rd_T29 l0_2 0).f0),.int .i64 ((rd_T29 l0_2 0).f1),.slice A462_2 ((rd_T29 l0_2 0).f2).length c462_2]] rfl mP ?_;(with_reducible refine (ih k (by omega) ((rd_T29 l0_2 0).f0) ((rd_T29 l0_2 0).f1) (fun k_=>(((P0_2_ k_ ∨ w.heap.size ≤ k_)∧k_ ≠ gb443)∧some k_ ≠ (v460:Value).ownBlock)) _ _ ((rd_T29 l0_2 0).f2) t463 _ ?side1 A24.out).mono ?_);(case side1=>exact HL462_2.out);rintro e w32 ⟨v464,rfl,ho0,hb⟩;refine ⟨_,rfl,?_⟩;replace HO0_2:=aQ (Kd.V_elder' (nV HO0_2.out) (Kd.N_base ho0) hb);replace HL462_2:=aQ (Kd.V_elder' (nV HL462_2.out) (Kd.N_base ho0) hb);have HO465:=aQ (Kd.N_lower (Kd.N_mono (ok':=fun k_=>(P0_2_ k_ ∨ w.heap.size ≤ k_)∧some k_ ≠ (v460:Value).ownBlock∧k_ ≠ gb443) ho0 (fun k_ hk_=>⟨Or.elim hk_ (fun hs_=>hs_.1.1) (fun hn_=>(.inr (Nat.le_trans (below_size bB) hn_))),Or.elim hk_ (fun hs_=>hs_.2) (fun hn_=>(Kd.fresh' (Kd.N_lt (nN HO461.out)) k_ hn_)),Or.elim hk_ (fun hs_=>hs_.1.2) (fun hn_=>(Kd.freshB (nB BK443.out) k_ hn_))⟩)) (below_size bB));replace HO461:=aQ (Kd.N_elder' (nN HO461.out) (Kd.N_base ho0) hb);replace BK443:=aQ (blk_below (nB BK443.out) hb);replace HR462_2:=aQ (Kd.C_below (nC HR462_2.out) hb);replace HB:=aQ (below_step bB hb);(try clear hb);(try clear ho0);obtain ⟨hcz33_0,hcz33_1,hcz33_2,hfz33_0,hfz33_1,hfz33_2⟩:=cz3 BK443.out;have p466:0 ≤ (1:Int):=(by omega);have q466:1 < (l0_2.length:Int):=of_decide_eq_true (by first | (with_reducible assumption) | assumption);obtain ⟨ad466,A466_2,c466_2,e466,hx466_0,hx466_1,hx466_2,hl466_2,hi466_2⟩:=at_T29 (Kd.V_reads' HO0_2.out).2.2 1 p466 q466;obtain rfl:ad462 = ad466:=(by injection e466);obtain ⟨ce466,hce466,hMe466,hcc466⟩:=Kd.V_get HO0_2.out z29 1 p466 (by first | exact q466 | exact of_decide_eq_true (by first | (with_reducible assumption) | assumption) | (have e_:=(Kd.V_reads' HO0_2.out).1;omega));obtain ⟨ua466_2,uc466_2,rfl,ul466_2,ge466_2⟩:=k29_openF hMe466;have hv466_2:=hcc466 2 _ rfl;rw [add_field _ _ 2 (by omega)] at hv466_2;replace hv466_2:=Option.some.inj (hv466_2.symm.trans hx466_2);injection hv466_2 with hva_ hvn_ hvc_;rw [hva_] at ge466_2;rw [hvc_] at ul466_2;have HL466_2:=aQ (show Kd.V k29 29 _ w.heap.size _ _ ((rd_T29 l0_2 1).f2) from Kd.V_mk ul466_2 ge466_2);clear hva_ hvn_ hvc_ ge466_2 ul466_2;clear hcc466 hce466;(try simp only [show (1:Int).toNat = 1 from rfl,Nat.reduceMul,Nat.reduceEqDiff,Go.Addr.add,↓reduceIte] at hx466_0);(try simp only [show (1:Int).toNat = 1 from rfl,Nat.reduceMul,Nat.reduceEqDiff,Go.Addr.add,↓reduceIte] at hx466_1);(try simp only [show (1:Int).toNat = 1 from rfl,Nat.reduceMul,Nat.reduceEqDiff,Go.Addr.add,↓reduceIte] at hx466_2);have qi466:(1 < l0_2.length) = True:=eq_true (by omega);(try rw [show ((1:Int)).toNat = 1 from rfl,show 1 * 3 = 3 from rfl] at hx466_0 hx466_1 hx466_2);have HR466_2:=aQ hi466_2;have HC466_2:=aQ hl466_2;clear hi466_2 hl466_2;replace p466:=eq_true p466;replace q466:=eq_true q466) | ((with_reducible refine gate_callee (f:=51) rfl ?_);refine goesL_ (some 47) rfl rfl Try.func51 (by kernel_rfl) rfl #[.agg #[.int .i64 ((rd_T29 l0_2 1).f0),.int .i64 ((rd_T29 l0_2 1).f1),.slice A466_2 ((rd_T29 l0_2 1).f2).length c466_2]] rfl mP ?_;(with_reducible refine (ih k (by omega) ((rd_T29 l0_2 1).f0) ((rd_T29 l0_2 1).f1) (fun k_=>((((P0_2_ k_ ∨ w.heap.size ≤ k_)∧k_ ≠ gb443)∧some k_ ≠ (v460:Value).ownBlock)∧some k_ ≠ (v464:Value).ownBlock)) _ _ ((rd_T29 l0_2 1).f2) t467 _ ?side1 A26.out).mono ?_);(case side1=>exact HL466_2.out);rintro e w34 ⟨v468,rfl,ho0,hb⟩;refine ⟨_,rfl,?_⟩;replace HO0_2:=aQ (Kd.V_elder' (nV HO0_2.out) (Kd.N_base ho0) hb);replace HL462_2:=aQ (Kd.V_elder' (nV HL462_2.out) (Kd.N_base ho0) hb);replace HL466_2:=aQ (Kd.V_elder' (nV HL466_2.out) (Kd.N_base ho0) hb);have HO469:=aQ (Kd.N_lower (Kd.N_mono (ok':=fun k_=>(P0_2_ k_ ∨ w.heap.size ≤ k_)∧some k_ ≠ (v460:Value).ownBlock∧some k_ ≠ (v464:Value).ownBlock∧k_ ≠ gb443) ho0 (fun k_ hk_=>⟨Or.elim hk_ (fun hs_=>hs_.1.1.1) (fun hn_=>(.inr (Nat.le_trans (below_size bB) hn_))),Or.elim hk_ (fun hs_=>hs_.1.2) (fun hn_=>(Kd.fresh' (Kd.N_lt (nN HO461.out)) k_ hn_)),Or.elim hk_ (fun hs_=>hs_.2) (fun hn_=>(Kd.fresh' (Kd.N_lt (nN HO465.out)) k_ hn_)),Or.elim hk_ (fun hs_=>hs_.1.1.2) (fun hn_=>(Kd.freshB (nB BK443.out) k_ hn_))⟩)) (below_size bB));replace HO461:=aQ (Kd.N_elder' (nN HO461.out) (Kd.N_base ho0) hb);replace HO465:=aQ (Kd.N_elder' (nN HO465.out) (Kd.N_base ho0) hb);replace BK443:=aQ (blk_below (nB BK443.out) hb);replace HR462_2:=aQ (Kd.C_below (nC HR462_2.out) hb);replace HR466_2:=aQ (Kd.C_below (nC HR466_2.out) hb);replace HB:=aQ (below_step bB hb);(try clear hb);(try clear ho0)))
 go_loopg [3,6] k (fun kq v3 v6 w'=>∃ (x3_1:List (S44)) (x6_1:Int),v6 = .int .i64 x6_1∧Aside0 (spec_l17Steps.l0 kq x3_1 t463 t467 x6_1 a0_0 a0_1 l0_2 = some r)∧Aside0 (kq ≤ k)∧Aside0 (Kd.N k44 44 w' w.heap.size (fun k_=>(P0_2_ k_ ∨ w.heap.size ≤ k_)∧some k_ ≠ (v464:Value).ownBlock∧some k_ ≠ (v468:Value).ownBlock∧k_ ≠ gb443) v3 x3_1)∧Aside0 (Kd.N k44 44 w' w.heap.size (fun k_=>(P0_2_ k_ ∨ w.heap.size ≤ k_)∧some k_ ≠ (v3:Value).ownBlock∧some k_ ≠ (v468:Value).ownBlock∧k_ ≠ gb443) v464 t463)∧Aside0 (Kd.N k44 44 w' w.heap.size (fun k_=>(P0_2_ k_ ∨ w.heap.size ≤ k_)∧some k_ ≠ (v3:Value).ownBlock∧some k_ ≠ (v464:Value).ownBlock∧k_ ≠ gb443) v468 t467)∧Aside0 (Kd.V k29 29 w' w.heap.size (fun k_=>(P0_2_ k_ ∨ w.heap.size ≤ k_)∧some k_ ≠ (v3:Value).ownBlock∧some k_ ≠ (v464:Value).ownBlock∧some k_ ≠ (v468:Value).ownBlock∧k_ ≠ gb443) (.slice (some ad462) l0_2.length c0_2) l0_2)∧Aside0 (w'.heap[gb443]? = some (.cells #[.int .i64 a0_0,.int .i64 a0_1,(.slice (some ad462) l0_2.length c0_2)] 29 (0,0)))∧Aside0 (Below w.heap.size w w'))
 case atStart=>exact ⟨(y459),(0),rfl,H',⟨Nat.le_refl _⟩,⟨nN (Kd.N_mono HO461.out (fun _ hk=>⟨hk.1.1.1,⟨hk.1.2,⟨hk.2,hk.1.1.2⟩⟩⟩))⟩,⟨nN (Kd.N_mono HO465.out (fun _ hk=>⟨hk.1.1,⟨hk.1.2.1,⟨hk.2,hk.1.2.2⟩⟩⟩))⟩,⟨nN HO469.out⟩,⟨nV (Kd.V_mono HO0_2.out (fun _ hk=>⟨hk.1.1.1.1,⟨hk.1.1.2,⟨hk.1.2,⟨hk.2,hk.1.1.1.2⟩⟩⟩⟩))⟩,⟨nB BK443.out⟩,⟨bB⟩⟩
 case round =>
  clear H'
  try clear c2
  try clear c2b0
  try clear c2b1
  try clear c9
  try clear c9b0
  try clear c9b1
  try clear c22b0
  try clear c22b1
  try clear c23b0
  try clear c23b1
  try clear c25b0
  try clear c25b1
  try clear hcz28_0
  try clear hcz28_1
  try clear hcz28_2
  try clear hcz31_0
  try clear hcz31_1
  try clear hcz31_2
  try clear hcz33_0
  try clear hcz33_1
  try clear hcz33_2
  try clear hfz28_0
  try clear hfz28_1
  try clear hfz28_2
  try clear hfz31_0
  try clear hfz31_1
  try clear hfz31_2
  try clear hfz33_0
  try clear hfz33_1
  try clear hfz33_2
  try clear hx462_0
  try clear hx462_1
  try clear hx462_2
  try clear hx466_0
  try clear hx466_1
  try clear hx466_2
  try clear p462
  try clear p466
  try clear q462
  try clear q466
  repeat (first | clear HO_3 | clear HO_4 | clear HO_5 | clear HO_444002 | clear BK443 | clear HB)
  obtain ⟨x3_1,x6_1,rfl,HA,HK1,HO_3,HO_4,HO_5,HO_444002,BK443,HB⟩:=hrel
  cases gk with
  | zero=>exact absurd HA.out (by simp [spec_l17Steps.l0])
  | succ k1 =>
   have H:=HA.out
   clear HA
   simp only [spec_l17Steps.l0] at H
   by_cases c35:x6_1 < (t463.length:Int)
   ·rw [if_pos c35] at H
    have c35b0:decide (x6_1 < (t463.length:Int)) = true:=decide_eq_true c35
    clear c35
    by_cases c36:0 ≤ x6_1;rotate_left
    ·rw [if_neg c36] at H
     exact absurd H (by simp)
    rw [if_pos c36] at H
    have c36b0:decide (0 ≤ x6_1) = true:=decide_eq_true c36
    clear c36
    by_cases c37:1 < (l0_2.length:Int);rotate_left
    ·rw [if_neg c37] at H
     exact absurd H (by simp)
    rw [if_pos c37] at H
    have c37b0:decide (1 < (l0_2.length:Int)) = true:=decide_eq_true c37
    have c37b1:decide (1 < l0_2.length) = true:=decide_eq_true (by omega)
    clear c37
    obtain ⟨⟨t473,t474,t475⟩,A38,H⟩:=bQ H
    dsimp only at H
    by_cases c39:x3_1.length < 2932031007402;rotate_left
    ·rw [if_neg c39] at H
     exact absurd H (by simp)
    rw [if_pos c39] at H
    have LMc39:=aQ c39
    clear c39
    obtain ⟨y478,hy478⟩:∃ y_:List (S44),y_ = (x3_1 ++ [(⟨(rd_T44 t463 x6_1).f0,(⟨t473,t474,t475⟩:S29)⟩:S44)]):=⟨_,rfl⟩
    replace H:(spec_l17Steps.l0 k1 y478 t463 t467 (wrap64 (x6_1 + 1)) a0_0 a0_1 l0_2) = some r:=by rw [hy478];exact H
    have Ny478:=aQ hy478
    clear hy478
    have H':=aQ H
    clear H
    obtain ⟨Ao40,co40,eo40⟩:=Kd.N_slice HO_4.out
    subst eo40
    try go_wp2
    replace HO_3:=aQ (Kd.N_drew HO_3.out)
    replace HO_4:=aQ (Kd.N_drew HO_4.out)
    replace HO_5:=aQ (Kd.N_drew HO_5.out)
    replace HO_444002:=aQ (Kd.V_drew HO_444002.out)
    replace BK443:=aQ (blk_drew BK443.out)
    replace HB:=aQ (below_drew1 HB.out)
    have p470:0 ≤ (x6_1:Int):=of_decide_eq_true (by first | (with_reducible assumption) | assumption)
    have q470:x6_1 < (t463.length:Int):=of_decide_eq_true (by first | (with_reducible assumption) | assumption)
    obtain ⟨ad470,A470_3,c470_3,e470,hx470_0,hx470_1,hx470_2,hx470_3,hl470_3,hi470_3⟩:=at_T44 (Kd.N_reads' HO_4.out).2.2 x6_1 p470 q470
    cases e470
    obtain ⟨ce470,hce470,hMe470,hcc470⟩:=Kd.N_get HO_4.out z44 x6_1 p470 (by first | exact q470 | exact of_decide_eq_true (by first | (with_reducible assumption) | assumption) | (have e_:=(Kd.N_reads' HO_4.out).1;omega))
    obtain ⟨ua470_3,uc470_3,rfl,ul470_3,ge470_3⟩:=k44_openF hMe470
    have hv470_3:=hcc470 3 _ rfl
    rw [add_field _ _ 3 (by omega)] at hv470_3
    replace hv470_3:=Option.some.inj (hv470_3.symm.trans hx470_3)
    injection hv470_3 with hva_ hvn_ hvc_
    rw [hva_] at ge470_3
    rw [hvc_] at ul470_3
    have HL470_3:=aQ (show Kd.V k29 29 _ w.heap.size _ _ ((rd_T44 t463 x6_1).f1.f2) from Kd.V_mk ul470_3 ge470_3)
    clear hva_ hvn_ hvc_ ge470_3 ul470_3
    clear hcc470 hce470
    have HR470_3:=aQ hi470_3
    have HC470_3:=aQ hl470_3
    clear hi470_3 hl470_3
    replace p470:=eq_true p470
    replace q470:=eq_true q470
    have p471:0 ≤ (x6_1:Int):=of_decide_eq_true (by first | (with_reducible assumption) | assumption)
    have q471:x6_1 < (t463.length:Int):=of_decide_eq_true (by first | (with_reducible assumption) | assumption)
    obtain ⟨ad471,A471_3,c471_3,e471,hx471_0,hx471_1,hx471_2,hx471_3,hl471_3,hi471_3⟩:=at_T44 (Kd.N_reads' HO_4.out).2.2 x6_1 p471 q471
    obtain rfl:ad470 = ad471:=(by injection e471)
    obtain ⟨ce471,hce471,hMe471,hcc471⟩:=Kd.N_get HO_4.out z44 x6_1 p471 (by first | exact q471 | exact of_decide_eq_true (by first | (with_reducible assumption) | assumption) | (have e_:=(Kd.N_reads' HO_4.out).1;omega))
    obtain ⟨ua471_3,uc471_3,rfl,ul471_3,ge471_3⟩:=k44_openF hMe471
    have hv471_3:=hcc471 3 _ rfl
    rw [add_field _ _ 3 (by omega)] at hv471_3
    replace hv471_3:=Option.some.inj (hv471_3.symm.trans hx471_3)
    injection hv471_3 with hva_ hvn_ hvc_
    rw [hva_] at ge471_3
    rw [hvc_] at ul471_3
    have HL471_3:=aQ (show Kd.V k29 29 _ w.heap.size _ _ ((rd_T44 t463 x6_1).f1.f2) from Kd.V_mk ul471_3 ge471_3)
    clear hva_ hvn_ hvc_ ge471_3 ul471_3
    clear hcc471 hce471
    have HR471_3:=aQ hi471_3
    have HC471_3:=aQ hl471_3
    clear hi471_3 hl471_3
    replace p471:=eq_true p471
    replace q471:=eq_true q471
    have ea_:=Option.some.inj (hx470_3.symm.trans hx471_3)
    injection ea_ with ea_ en_ ec_
    subst ea_
    subst ec_
    clear en_
    have p472:0 ≤ (1:Int):=(by omega)
    have q472:1 < (l0_2.length:Int):=of_decide_eq_true (by first | (with_reducible assumption) | assumption)
    obtain ⟨ad472,A472_2,c472_2,e472,hx472_0,hx472_1,hx472_2,hl472_2,hi472_2⟩:=at_T29 (Kd.V_reads' HO_444002.out).2.2 1 p472 q472
    obtain rfl:ad462 = ad472:=(by injection e472)
    obtain ⟨ce472,hce472,hMe472,hcc472⟩:=Kd.V_get HO_444002.out z29 1 p472 (by first | exact q472 | exact of_decide_eq_true (by first | (with_reducible assumption) | assumption) | (have e_:=(Kd.V_reads' HO_444002.out).1;omega))
    obtain ⟨ua472_2,uc472_2,rfl,ul472_2,ge472_2⟩:=k29_openF hMe472
    have hv472_2:=hcc472 2 _ rfl
    rw [add_field _ _ 2 (by omega)] at hv472_2
    replace hv472_2:=Option.some.inj (hv472_2.symm.trans hx472_2)
    injection hv472_2 with hva_ hvn_ hvc_
    rw [hva_] at ge472_2
    rw [hvc_] at ul472_2
    have HL472_2:=aQ (show Kd.V k29 29 _ w.heap.size _ _ ((rd_T29 l0_2 1).f2) from Kd.V_mk ul472_2 ge472_2)
    clear hva_ hvn_ hvc_ ge472_2 ul472_2
    clear hcc472 hce472
    (try simp only [show (1:Int).toNat = 1 from rfl,Nat.reduceMul,Nat.reduceEqDiff,Go.Addr.add,↓reduceIte] at hx472_0)
    (try simp only [show (1:Int).toNat = 1 from rfl,Nat.reduceMul,Nat.reduceEqDiff,Go.Addr.add,↓reduceIte] at hx472_1)
    (try simp only [show (1:Int).toNat = 1 from rfl,Nat.reduceMul,Nat.reduceEqDiff,Go.Addr.add,↓reduceIte] at hx472_2)
    have qi472:(1 < l0_2.length) = True:=eq_true (by omega)
    (try rw [show ((1:Int)).toNat = 1 from rfl,show 1 * 3 = 3 from rfl] at hx472_0 hx472_1 hx472_2)
    have HR472_2:=aQ hi472_2
    have HC472_2:=aQ hl472_2
    clear hi472_2 hl472_2
    replace p472:=eq_true p472
    replace q472:=eq_true q472
    refine start_ (n:=22) (S:=fun w'=>w'.cell? ⟨gb443,0,none⟩ = some (.int .i64 a0_0)∧w'.cell? ⟨gb443,1,none⟩ = some (.int .i64 a0_1)∧w'.cell? ⟨gb443,2,none⟩ = some (.slice (some ad462) l0_2.length c0_2)∧w'.cell? (ad470.add ((x6_1).toNat * 4)) = some (.int .i64 ((rd_T44 t463 x6_1).f0))∧w'.cell? ⟨(ad470.add ((x6_1).toNat * 4)).block,(ad470.add ((x6_1).toNat * 4)).off + 1,none⟩ = some (.int .i64 ((rd_T44 t463 x6_1).f1.f0))∧w'.cell? ⟨(ad470.add ((x6_1).toNat * 4)).block,(ad470.add ((x6_1).toNat * 4)).off + 2,none⟩ = some (.int .i64 ((rd_T44 t463 x6_1).f1.f1))∧w'.cell? ⟨(ad470.add ((x6_1).toNat * 4)).block,(ad470.add ((x6_1).toNat * 4)).off + 3,none⟩ = some (.slice A470_3 ((rd_T44 t463 x6_1).f1.f2).length c470_3)∧w'.cell? (ad470.add ((x6_1).toNat * 4)) = some (.int .i64 ((rd_T44 t463 x6_1).f0))∧w'.cell? ⟨(ad470.add ((x6_1).toNat * 4)).block,(ad470.add ((x6_1).toNat * 4)).off + 1,none⟩ = some (.int .i64 ((rd_T44 t463 x6_1).f1.f0))∧w'.cell? ⟨(ad470.add ((x6_1).toNat * 4)).block,(ad470.add ((x6_1).toNat * 4)).off + 2,none⟩ = some (.int .i64 ((rd_T44 t463 x6_1).f1.f1))∧w'.cell? ⟨(ad470.add ((x6_1).toNat * 4)).block,(ad470.add ((x6_1).toNat * 4)).off + 3,none⟩ = some (.slice A470_3 ((rd_T44 t463 x6_1).f1.f2).length c470_3)∧w'.cell? ⟨ad462.block,ad462.off + 3,none⟩ = some (.int .i64 ((rd_T29 l0_2 1).f0))∧w'.cell? ⟨ad462.block,ad462.off + 3 + 1,none⟩ = some (.int .i64 ((rd_T29 l0_2 1).f1))∧w'.cell? ⟨ad462.block,ad462.off + 3 + 2,none⟩ = some (.slice A472_2 ((rd_T29 l0_2 1).f2).length c472_2)) (ds:=[19,20]) (bn 22 0) (by kernel_rfl) rfl rfl ⟨(blk_cell BK443.out 0).trans rfl,(blk_cell BK443.out 1).trans rfl,(blk_cell BK443.out 2).trans rfl,hx470_0,hx470_1,hx470_2,hx470_3,hx471_0,hx471_1,hx471_2,hx471_3,hx472_0,hx472_1,hx472_2⟩ (fun hHeld=>?_);refine with_tabW spec_l17Steps.tab13 spec_l17Steps.bits13 (fun HT_ HW_=>?_)
    generalize wr.drew = w41 at HO_3 HO_4 HO_5 HO_444002 BK443 HB HL470_3 HL471_3 HL472_2 HR470_3 HR471_3 HR472_2 hx470_0 hx470_1 hx470_2 hx470_3 hx471_0 hx471_1 hx471_2 hx471_3 hx472_0 hx472_1 hx472_2 hHeld ⊢
    refine pur (i:=0) (N:=some 54) (bn 22 1) ?_
    refine pur (i:=1) (N:=some 55) (bn 22 3) ?_
    refine pur (i:=2) (N:=some 56) (bn 22 7) ?_
    refine pur (i:=3) (N:=some 57) (bn 22 15) ?_
    refine pur (i:=4) (N:=some 58) (bn 22 31) ?_
    refine pur (i:=6) (N:=some 60) (bn 22 95) ?_
    refine pur (i:=8) (N:=some 62) (bn 22 351) ?_
    refine pur (i:=9) (N:=some 63) (bn 22 863) ?_
    refine pur (i:=10) (N:=some 64) (bn 22 1887) ?_
    refine pur (i:=11) (N:=some 65) (bn 22 3935) ?_
    refine pur (i:=13) (N:=some 67) (bn 22 12127) ?_
    refine tak (i:=5) (N:=some 59) (bn 22 12159) ?_
    refine tak (i:=7) (N:=some 61) (bn 22 12287) ?_
    refine tak (i:=12) (N:=some 66) (bn 22 16383) ?_
    refine tak (i:=14) (N:=some 68) (bn 22 32767) ?_
    refine pur (i:=15) (N:=some 69) (bn 22 65535) ?_
    refine tak (i:=16) (N:=some 70) (bn 22 131071) ?_
    refine one_ (i:=17) (N:=some 71) (bn 22 262143) rfl rfl (one_of HT_.out (by kernel_rfl)) (by decide) (fun K hK=>?_)
    refine goes1 Try.func66 #[.int .i64 a0_0,.agg #[.int .i64 ((rd_T44 t463 x6_1).f1.f0),.int .i64 ((rd_T44 t463 x6_1).f1.f1),.slice A470_3 ((rd_T44 t463 x6_1).f1.f2).length c470_3],.agg #[.int .i64 ((rd_T29 l0_2 1).f0),.int .i64 ((rd_T29 l0_2 1).f1),.slice A472_2 ((rd_T29 l0_2 1).f2).length c472_2]] ?_
    with_reducible refine (spec_l17Two.calls a0_0 ((rd_T44 t463 x6_1).f1.f0) ((rd_T44 t463 x6_1).f1.f1) (fun k_=>(((P0_2_ k_ ∨ w.heap.size ≤ k_)∧(some k_ ≠ (u3:Value).ownBlock∧(some k_ ≠ (v468:Value).ownBlock∧k_ ≠ gb443)))∧some k_ ≠ (.slice (some ad470) t463.length co40:Value).ownBlock)) _ _ ((rd_T44 t463 x6_1).f1.f2) ((rd_T29 l0_2 1).f0) ((rd_T29 l0_2 1).f1) (fun k_=>((P0_2_ k_ ∨ w.heap.size ≤ k_)∧(some k_ ≠ (u3:Value).ownBlock∧(some k_ ≠ (.slice (some ad470) t463.length co40:Value).ownBlock∧(some k_ ≠ (v468:Value).ownBlock∧k_ ≠ gb443))))) _ _ ((rd_T29 l0_2 1).f2) t473 t474 t475 _ ?side1 ?side2 A38.out).mono ?_
    (case side1=>exact HL471_3.out)
    (case side2=>exact HL472_2.out)
    rintro e w42 ⟨v476,rfl,ho0,hb⟩
    have HS3_:=(hb.cell (World.block_lt_of_cell? _ _ (hHeld.2.2.2.1))).trans (hHeld.2.2.2.1)
    have HS4_:=(hb.cell (World.block_lt_of_cell? _ _ (hHeld.2.2.2.2.1))).trans (hHeld.2.2.2.2.1)
    have HS5_:=(hb.cell (World.block_lt_of_cell? _ _ (hHeld.2.2.2.2.2.1))).trans (hHeld.2.2.2.2.2.1)
    have HS6_:=(hb.cell (World.block_lt_of_cell? _ _ (hHeld.2.2.2.2.2.2.1))).trans (hHeld.2.2.2.2.2.2.1)
    have HS7_:=(hb.cell (World.block_lt_of_cell? _ _ (hHeld.2.2.2.2.2.2.2.1))).trans (hHeld.2.2.2.2.2.2.2.1)
    have HS8_:=(hb.cell (World.block_lt_of_cell? _ _ (hHeld.2.2.2.2.2.2.2.2.1))).trans (hHeld.2.2.2.2.2.2.2.2.1)
    have HS9_:=(hb.cell (World.block_lt_of_cell? _ _ (hHeld.2.2.2.2.2.2.2.2.2.1))).trans (hHeld.2.2.2.2.2.2.2.2.2.1)
    have HS10_:=(hb.cell (World.block_lt_of_cell? _ _ (hHeld.2.2.2.2.2.2.2.2.2.2.1))).trans (hHeld.2.2.2.2.2.2.2.2.2.2.1)
    have HS11_:=(hb.cell (World.block_lt_of_cell? _ _ (hHeld.2.2.2.2.2.2.2.2.2.2.2.1))).trans (hHeld.2.2.2.2.2.2.2.2.2.2.2.1)
    have HS12_:=(hb.cell (World.block_lt_of_cell? _ _ (hHeld.2.2.2.2.2.2.2.2.2.2.2.2.1))).trans (hHeld.2.2.2.2.2.2.2.2.2.2.2.2.1)
    have HS13_:=(hb.cell (World.block_lt_of_cell? _ _ (hHeld.2.2.2.2.2.2.2.2.2.2.2.2.2))).trans (hHeld.2.2.2.2.2.2.2.2.2.2.2.2.2)
    refine ⟨_,rfl,?_⟩
    replace HO_444002:=aQ (Kd.V_elder' (nV HO_444002.out) (Kd.N_base ho0) hb)
    replace HL470_3:=aQ (Kd.V_elder' (nV HL470_3.out) (Kd.N_base ho0) hb)
    replace HL471_3:=aQ (Kd.V_elder' (nV HL471_3.out) (Kd.N_base ho0) hb)
    replace HL472_2:=aQ (Kd.V_elder' (nV HL472_2.out) (Kd.N_base ho0) hb)
    have HO477:=aQ (Kd.N_lower (Kd.N_mono (ok':=fun k_=>(P0_2_ k_ ∨ w.heap.size ≤ k_)∧some k_ ≠ (u3:Value).ownBlock∧some k_ ≠ (.slice (some ad470) t463.length co40:Value).ownBlock∧some k_ ≠ (v468:Value).ownBlock∧k_ ≠ gb443) ho0 (fun k_ hk_=>⟨Or.elim hk_ (fun hs_=>Or.elim hs_ (fun hs_=>hs_.1.1) (fun hs_=>hs_.1)) (fun hn_=>(.inr (Nat.le_trans (below_size bB) hn_))),Or.elim hk_ (fun hs_=>Or.elim hs_ (fun hs_=>hs_.1.2.1) (fun hs_=>hs_.2.1)) (fun hn_=>(Kd.fresh' (Kd.N_lt (nN HO_3.out)) k_ hn_)),Or.elim hk_ (fun hs_=>Or.elim hs_ (fun hs_=>hs_.2) (fun hs_=>hs_.2.2.1)) (fun hn_=>(Kd.fresh' (Kd.N_lt (nN HO_4.out)) k_ hn_)),Or.elim hk_ (fun hs_=>Or.elim hs_ (fun hs_=>hs_.1.2.2.1) (fun hs_=>hs_.2.2.2.1)) (fun hn_=>(Kd.fresh' (Kd.N_lt (nN HO_5.out)) k_ hn_)),Or.elim hk_ (fun hs_=>Or.elim hs_ (fun hs_=>hs_.1.2.2.2) (fun hs_=>hs_.2.2.2.2)) (fun hn_=>(Kd.freshB (nB BK443.out) k_ hn_))⟩)) (below_size bB))
    replace HO_3:=aQ (Kd.N_elder' (nN HO_3.out) (Kd.N_base ho0) hb)
    replace HO_4:=aQ (Kd.N_elder' (nN HO_4.out) (Kd.N_base ho0) hb)
    replace HO_5:=aQ (Kd.N_elder' (nN HO_5.out) (Kd.N_base ho0) hb)
    replace BK443:=aQ (blk_below (nB BK443.out) hb)
    replace HR470_3:=aQ (Kd.C_below (nC HR470_3.out) hb)
    replace HR471_3:=aQ (Kd.C_below (nC HR471_3.out) hb)
    replace HR472_2:=aQ (Kd.C_below (nC HR472_2.out) hb)
    replace HB:=aQ (below_step bB hb)
    (try clear hb)
    (try clear ho0)
    obtain ⟨Ao43,co43,eo43⟩:=Kd.N_slice HO477.out
    (first | subst eo43 | (injection eo43 with f1_ f2_ f3_;have f4_:=f1_.symm;have f5_:=f3_.symm;clear f1_ f2_ f3_;subst f4_;subst f5_))
    refine hK.out _ _ ⟨(blk_cell BK443.out 0).trans rfl,(blk_cell BK443.out 1).trans rfl,(blk_cell BK443.out 2).trans rfl,HS3_,HS4_,HS5_,HS6_,HS7_,HS8_,HS9_,HS10_,HS11_,HS12_,HS13_⟩ (fun hHeld=>?_)
    clear hK K
    refine nrm (N:=some 71) ?_
    refine pur (i:=18) (N:=some 72) (bn 22 524287) ?_
    refine last_ (i:=19) (N:=some 73) (bn 22 1048575) rfl rfl (one_of HT_.out (by kernel_rfl)) (by decide) (fun K hK=>?_)
    refine value_ (w1:=?_) (v:=?_) (by rfl) rfl ?_ ?_
    rotate_left 2
    ·go_simp
     constructor
     ·rfl
     ·rfl
    refine hK.out _ _ ?_
    clear hK K
    refine nrm (N:=some 73) ?_
    refine last_ (i:=20) (N:=some 74) (bn 22 2097151) rfl rfl (one_of HT_.out (by kernel_rfl)) (by decide) (fun K hK=>?_)
    refine Kd.N_append_step k44 (w0:=w) w.heap.size (by rfl) (.tmp 54) (.tmp 73) 35 44 (.agg #[(.int .i64 0),(.int .i64 0),(.int .i64 0),(.slice none 0 0)]) 48 rfl Try.underlying35 info44 rfl (by decide) (by omega) u3 x3_1 (⟨(rd_T44 t463 x6_1).f0,(⟨t473,t474,t475⟩:S29)⟩:S44) [.int .i64 ((rd_T44 t463 x6_1).f0),.int .i64 t473,.int .i64 t474,.slice Ao43 t475.length co43] (fun k_=>(P0_2_ k_ ∨ w.heap.size ≤ k_)∧some k_ ≠ (.slice (some ad470) t463.length co40:Value).ownBlock∧some k_ ≠ (v468:Value).ownBlock∧k_ ≠ gb443) (fun k_=>((fun k_=>(P0_2_ k_ ∨ w.heap.size ≤ k_)∧some k_ ≠ (.slice (some ad470) t463.length co40:Value).ownBlock∧some k_ ≠ (v468:Value).ownBlock∧k_ ≠ gb443)) k_∧some k_ ≠ (u3:Value).ownBlock) rfl rfl ?aP (fun _ hk=>hk) ?aF ?aO ?aB ?aS ?aL ?_
    (case aP=>exact (k44_mkF _ _ (⟨(rd_T44 t463 x6_1).f0,(⟨t473,t474,t475⟩:S29)⟩:S44) (Kd.N_reads' (Kd.N_mono (ok':=(fun k_=>((fun k_=>(P0_2_ k_ ∨ w.heap.size ≤ k_)∧some k_ ≠ (.slice (some ad470) t463.length co40:Value).ownBlock∧some k_ ≠ (v468:Value).ownBlock∧k_ ≠ gb443)) k_∧some k_ ≠ (u3:Value).ownBlock)) (HO477.out) (fun k_ hk=>⟨⟨hk.1,⟨hk.2.2.1,⟨hk.2.2.2.1,hk.2.2.2.2⟩⟩⟩,hk.2.1⟩))).2.1 (Kd.N_F (Kd.N_mono (ok':=(fun k_=>((fun k_=>(P0_2_ k_ ∨ w.heap.size ≤ k_)∧some k_ ≠ (.slice (some ad470) t463.length co40:Value).ownBlock∧some k_ ≠ (v468:Value).ownBlock∧k_ ≠ gb443)) k_∧some k_ ≠ (u3:Value).ownBlock)) (HO477.out) (fun k_ hk=>⟨⟨hk.1,⟨hk.2.2.1,⟨hk.2.2.2.1,hk.2.2.2.2⟩⟩⟩,hk.2.1⟩)))))
    (case aB=>exact bB)
    (case aF=>exact (fun k_ hk=>⟨(.inr (Nat.le_trans (below_size bB) hk)),Kd.fresh' (Kd.N_lt (nN HO_4.out)) k_ hk,Kd.fresh' (Kd.N_lt (nN HO_5.out)) k_ hk,Kd.freshB (nB BK443.out) k_ hk⟩))
    (case aO=>exact (nN (Kd.N_mono HO_3.out (fun _ hk=>⟨hk.1.1,⟨hk.1.2.1,⟨hk.1.2.2.1,hk.1.2.2.2⟩⟩⟩))))
    (case aS=>exact (below_size bB))
    (case aL=>have:=LMc39.out;omega)
    intro v479 w44 ho hb hg hat
    rw [← Ny478.out] at ho
    have n0_:=aQ (Kd.N_afterv (ok:=(fun k_=>(P0_2_ k_ ∨ w.heap.size ≤ k_)∧some k_ ≠ (v468:Value).ownBlock∧some k_ ≠ (.slice Ao43 t475.length co43:Value).ownBlock∧k_ ≠ gb443)) (nN (Kd.N_mono HO_4.out (fun _ hk=>⟨⟨hk.1.1,⟨hk.1.2.2.1,⟨hk.2,hk.1.2.2.2⟩⟩⟩,hk.1.2.1⟩))) hg hat)
    have n1_:=aQ (Kd.N_afterv (ok:=(fun k_=>(P0_2_ k_ ∨ w.heap.size ≤ k_)∧some k_ ≠ (.slice (some ad470) t463.length co40:Value).ownBlock∧some k_ ≠ (.slice Ao43 t475.length co43:Value).ownBlock∧k_ ≠ gb443)) (nN (Kd.N_mono HO_5.out (fun _ hk=>⟨⟨hk.1.1,⟨hk.1.2.2.1,⟨hk.2,hk.1.2.2.2⟩⟩⟩,hk.1.2.1⟩))) hg hat)
    have n2_:=aQ (Kd.V_afterv (ok:=(fun k_=>(P0_2_ k_ ∨ w.heap.size ≤ k_)∧some k_ ≠ (.slice (some ad470) t463.length co40:Value).ownBlock∧some k_ ≠ (v468:Value).ownBlock∧some k_ ≠ (.slice Ao43 t475.length co43:Value).ownBlock∧k_ ≠ gb443)) (nV (Kd.V_mono HO_444002.out (fun _ hk=>⟨⟨hk.1.1,⟨hk.1.2.2.1,⟨hk.1.2.2.2.1,⟨hk.2,hk.1.2.2.2.2⟩⟩⟩⟩,hk.1.2.1⟩))) hg hat)
    have n3_:=aQ (blk_grown (nB BK443.out) hg (Kd.N_ne HO_3.out BK443.out (by decide)))
    have n4_:=aQ (Kd.V_afterv (ok:=(fun k_=>(P0_2_ k_ ∨ w.heap.size ≤ k_)∧some k_ ≠ (.slice (some ad470) t463.length co40:Value).ownBlock∧some k_ ≠ (v468:Value).ownBlock∧some k_ ≠ (.slice Ao43 t475.length co43:Value).ownBlock∧k_ ≠ gb443)) (nV (Kd.V_mono HL470_3.out (fun _ hk=>⟨⟨hk.1.1.1,⟨hk.1.2,⟨hk.1.1.2.2.1,⟨hk.2,hk.1.1.2.2.2⟩⟩⟩⟩,hk.1.1.2.1⟩))) hg hat)
    have n5_:=aQ (Kd.V_afterv (ok:=(fun k_=>(P0_2_ k_ ∨ w.heap.size ≤ k_)∧some k_ ≠ (.slice (some ad470) t463.length co40:Value).ownBlock∧some k_ ≠ (v468:Value).ownBlock∧some k_ ≠ (.slice Ao43 t475.length co43:Value).ownBlock∧k_ ≠ gb443)) (nV (Kd.V_mono HL471_3.out (fun _ hk=>⟨⟨hk.1.1.1,⟨hk.1.2,⟨hk.1.1.2.2.1,⟨hk.2,hk.1.1.2.2.2⟩⟩⟩⟩,hk.1.1.2.1⟩))) hg hat)
    have n6_:=aQ (Kd.V_afterv (ok:=(fun k_=>(P0_2_ k_ ∨ w.heap.size ≤ k_)∧some k_ ≠ (.slice (some ad470) t463.length co40:Value).ownBlock∧some k_ ≠ (v468:Value).ownBlock∧some k_ ≠ (.slice Ao43 t475.length co43:Value).ownBlock∧k_ ≠ gb443)) (nV (Kd.V_mono HL472_2.out (fun _ hk=>⟨⟨hk.1.1,⟨hk.1.2.2.1,⟨hk.1.2.2.2.1,⟨hk.2,hk.1.2.2.2.2⟩⟩⟩⟩,hk.1.2.1⟩))) hg hat)
    have n7_:=aQ (hb)
    have n8_:=aQ (ho)
    clear HO_4 HO_5 HO_444002 BK443 HL470_3 HL471_3 HL472_2 HB HO_3 HO477
    have HO_4:=n0_
    have HO_5:=n1_
    have HO_444002:=n2_
    have BK443:=n3_
    have HL470_3:=n4_
    have HL471_3:=n5_
    have HL472_2:=n6_
    have HB:=n7_
    have HO480:=n8_
    clear n0_ n1_ n2_ n3_ n4_ n5_ n6_ n7_ n8_
    clear ho hb hg hat
    refine hK.out _ _ ?_
    clear hK K
    refine nrm (N:=some 74) ?_
    refine pur (i:=21) (N:=some 3) (bn 22 4194303) ?_
    refine done_ (done_of HT_.out (by kernel_rfl)) ?_
    try go_wp2
    go_roundg k1
    case measure=>have:=HK1.out;omega
    case rel=>exact ⟨(y478),(wrap64 (x6_1 + 1)),rfl,H',⟨by have:=HK1.out;omega⟩,⟨nN HO480.out⟩,⟨nN (Kd.N_mono HO_4.out (fun _ hk=>⟨hk.1.1,⟨hk.2,⟨hk.1.2.1,hk.1.2.2.2⟩⟩⟩))⟩,⟨nN (Kd.N_mono HO_5.out (fun _ hk=>⟨hk.1.1,⟨hk.2,⟨hk.1.2.1,hk.1.2.2.2⟩⟩⟩))⟩,⟨nV (Kd.V_mono HO_444002.out (fun _ hk=>⟨hk.1.1,⟨hk.2,⟨hk.1.2.1,⟨hk.1.2.2.1,hk.1.2.2.2.2⟩⟩⟩⟩))⟩,⟨nB BK443.out⟩,⟨bB⟩⟩
   rw [if_neg c35] at H
   have c35b0:decide (x6_1 < (t463.length:Int)) = false:=decide_eq_false c35
   clear c35
   have H':=aQ H
   clear H
   obtain ⟨Ao45,co45,eo45⟩:=Kd.N_slice HO_4.out
   subst eo45
   go_wp2
   go_loopg [3,7] k1 (fun kq v3 v7 w'=>∃ (x3_2:List (S44)) (x7_2:Int),v7 = .int .i64 x7_2∧Aside0 (spec_l17Steps.l1 kq x3_2 t463 t467 x7_2 a0_0 a0_1 l0_2 = some r)∧Aside0 (kq ≤ k1)∧Aside0 (Kd.N k44 44 w' w.heap.size (fun k_=>(P0_2_ k_ ∨ w.heap.size ≤ k_)∧some k_ ≠ ((.slice Ao45 t463.length co45):Value).ownBlock∧some k_ ≠ (v468:Value).ownBlock∧k_ ≠ gb443) v3 x3_2)∧Aside0 (Kd.N k44 44 w' w.heap.size (fun k_=>(P0_2_ k_ ∨ w.heap.size ≤ k_)∧some k_ ≠ (v3:Value).ownBlock∧some k_ ≠ (v468:Value).ownBlock∧k_ ≠ gb443) (.slice Ao45 t463.length co45) t463)∧Aside0 (Kd.N k44 44 w' w.heap.size (fun k_=>(P0_2_ k_ ∨ w.heap.size ≤ k_)∧some k_ ≠ (v3:Value).ownBlock∧some k_ ≠ ((.slice Ao45 t463.length co45):Value).ownBlock∧k_ ≠ gb443) v468 t467)∧Aside0 (Kd.V k29 29 w' w.heap.size (fun k_=>(P0_2_ k_ ∨ w.heap.size ≤ k_)∧some k_ ≠ (v3:Value).ownBlock∧some k_ ≠ ((.slice Ao45 t463.length co45):Value).ownBlock∧some k_ ≠ (v468:Value).ownBlock∧k_ ≠ gb443) (.slice (some ad462) l0_2.length c0_2) l0_2)∧Aside0 (w'.heap[gb443]? = some (.cells #[.int .i64 a0_0,.int .i64 a0_1,(.slice (some ad462) l0_2.length c0_2)] 29 (0,0)))∧Aside0 (Below w.heap.size w w'))
   case atStart=>exact ⟨(x3_1),(0),rfl,H',⟨Nat.le_refl _⟩,⟨nN HO_3.out⟩,⟨nN HO_4.out⟩,⟨nN HO_5.out⟩,⟨nV HO_444002.out⟩,⟨nB BK443.out⟩,⟨bB⟩⟩
   case round =>
    clear H'
    try clear c35b0
    repeat (first | clear HO_3 | clear HO_4 | clear HO_5 | clear HO_444002 | clear BK443 | clear HB)
    obtain ⟨x3_2,x7_2,rfl,HA,HK2,HO_3,HO_4,HO_5,HO_444002,BK443,HB⟩:=hrel
    cases gk with
    | zero=>exact absurd HA.out (by simp [spec_l17Steps.l1])
    | succ k2 =>
     have H:=HA.out
     clear HA
     simp only [spec_l17Steps.l1] at H
     by_cases c46:x7_2 < (t467.length:Int)
     ·rw [if_pos c46] at H
      have c46b0:decide (x7_2 < (t467.length:Int)) = true:=decide_eq_true c46
      clear c46
      by_cases c47:0 ≤ x7_2;rotate_left
      ·rw [if_neg c47] at H
       exact absurd H (by simp)
      rw [if_pos c47] at H
      have c47b0:decide (0 ≤ x7_2) = true:=decide_eq_true c47
      clear c47
      by_cases c48:0 < (l0_2.length:Int);rotate_left
      ·rw [if_neg c48] at H
       exact absurd H (by simp)
      rw [if_pos c48] at H
      have c48b0:decide (0 < (l0_2.length:Int)) = true:=decide_eq_true c48
      have c48b1:decide (0 < l0_2.length) = true:=decide_eq_true (by omega)
      clear c48
      obtain ⟨⟨t484,t485,t486⟩,A49,H⟩:=bQ H
      dsimp only at H
      by_cases c50:x3_2.length < 2932031007402;rotate_left
      ·rw [if_neg c50] at H
       exact absurd H (by simp)
      rw [if_pos c50] at H
      have LMc50:=aQ c50
      clear c50
      obtain ⟨y489,hy489⟩:∃ y_:List (S44),y_ = (x3_2 ++ [(⟨(rd_T44 t467 x7_2).f0,(⟨t484,t485,t486⟩:S29)⟩:S44)]):=⟨_,rfl⟩
      replace H:(spec_l17Steps.l1 k2 y489 t463 t467 (wrap64 (x7_2 + 1)) a0_0 a0_1 l0_2) = some r:=by rw [hy489];exact H
      have Ny489:=aQ hy489
      clear hy489
      have H':=aQ H
      clear H
      obtain ⟨Ao51,co51,eo51⟩:=Kd.N_slice HO_5.out
      subst eo51
      try go_wp2
      replace HO_3:=aQ (Kd.N_drew HO_3.out)
      replace HO_4:=aQ (Kd.N_drew HO_4.out)
      replace HO_5:=aQ (Kd.N_drew HO_5.out)
      replace HO_444002:=aQ (Kd.V_drew HO_444002.out)
      replace BK443:=aQ (blk_drew BK443.out)
      replace HB:=aQ (below_drew1 HB.out)
      have p481:0 ≤ (x7_2:Int):=of_decide_eq_true (by first | (with_reducible assumption) | assumption)
      have q481:x7_2 < (t467.length:Int):=of_decide_eq_true (by first | (with_reducible assumption) | assumption)
      obtain ⟨ad481,A481_3,c481_3,e481,hx481_0,hx481_1,hx481_2,hx481_3,hl481_3,hi481_3⟩:=at_T44 (Kd.N_reads' HO_5.out).2.2 x7_2 p481 q481
      cases e481
      obtain ⟨ce481,hce481,hMe481,hcc481⟩:=Kd.N_get HO_5.out z44 x7_2 p481 (by first | exact q481 | exact of_decide_eq_true (by first | (with_reducible assumption) | assumption) | (have e_:=(Kd.N_reads' HO_5.out).1;omega))
      obtain ⟨ua481_3,uc481_3,rfl,ul481_3,ge481_3⟩:=k44_openF hMe481
      have hv481_3:=hcc481 3 _ rfl
      rw [add_field _ _ 3 (by omega)] at hv481_3
      replace hv481_3:=Option.some.inj (hv481_3.symm.trans hx481_3)
      injection hv481_3 with hva_ hvn_ hvc_
      rw [hva_] at ge481_3
      rw [hvc_] at ul481_3
      have HL481_3:=aQ (show Kd.V k29 29 _ w.heap.size _ _ ((rd_T44 t467 x7_2).f1.f2) from Kd.V_mk ul481_3 ge481_3)
      clear hva_ hvn_ hvc_ ge481_3 ul481_3
      clear hcc481 hce481
      have HR481_3:=aQ hi481_3
      have HC481_3:=aQ hl481_3
      clear hi481_3 hl481_3
      replace p481:=eq_true p481
      replace q481:=eq_true q481
      have p482:0 ≤ (0:Int):=(by omega)
      have q482:0 < (l0_2.length:Int):=of_decide_eq_true (by first | (with_reducible assumption) | assumption)
      obtain ⟨ad482,A482_2,c482_2,e482,hx482_0,hx482_1,hx482_2,hl482_2,hi482_2⟩:=at_T29 (Kd.V_reads' HO_444002.out).2.2 0 p482 q482
      obtain rfl:ad462 = ad482:=(by injection e482)
      obtain ⟨ce482,hce482,hMe482,hcc482⟩:=Kd.V_get HO_444002.out z29 0 p482 (by first | exact q482 | exact of_decide_eq_true (by first | (with_reducible assumption) | assumption) | (have e_:=(Kd.V_reads' HO_444002.out).1;omega))
      obtain ⟨ua482_2,uc482_2,rfl,ul482_2,ge482_2⟩:=k29_openF hMe482
      have hv482_2:=hcc482 2 _ rfl
      rw [add_field _ _ 2 (by omega)] at hv482_2
      replace hv482_2:=Option.some.inj (hv482_2.symm.trans hx482_2)
      injection hv482_2 with hva_ hvn_ hvc_
      rw [hva_] at ge482_2
      rw [hvc_] at ul482_2
      have HL482_2:=aQ (show Kd.V k29 29 _ w.heap.size _ _ ((rd_T29 l0_2 0).f2) from Kd.V_mk ul482_2 ge482_2)
      clear hva_ hvn_ hvc_ ge482_2 ul482_2
      clear hcc482 hce482
      have qi482:(0 < l0_2.length) = True:=eq_true (by omega)
      (try rw [show ((0:Int)).toNat = 0 from rfl,show 0 * 3 = 0 from rfl] at hx482_0 hx482_1 hx482_2)
      (try rw [Addr.add_zero'] at hx482_0)
      (try rw [Addr.add_zero'] at hx482_1)
      (try rw [Addr.add_zero'] at hx482_2)
      have HR482_2:=aQ hi482_2
      have HC482_2:=aQ hl482_2
      clear hi482_2 hl482_2
      replace p482:=eq_true p482
      replace q482:=eq_true q482
      have p483:0 ≤ (x7_2:Int):=of_decide_eq_true (by first | (with_reducible assumption) | assumption)
      have q483:x7_2 < (t467.length:Int):=of_decide_eq_true (by first | (with_reducible assumption) | assumption)
      obtain ⟨ad483,A483_3,c483_3,e483,hx483_0,hx483_1,hx483_2,hx483_3,hl483_3,hi483_3⟩:=at_T44 (Kd.N_reads' HO_5.out).2.2 x7_2 p483 q483
      obtain rfl:ad481 = ad483:=(by injection e483)
      obtain ⟨ce483,hce483,hMe483,hcc483⟩:=Kd.N_get HO_5.out z44 x7_2 p483 (by first | exact q483 | exact of_decide_eq_true (by first | (with_reducible assumption) | assumption) | (have e_:=(Kd.N_reads' HO_5.out).1;omega))
      obtain ⟨ua483_3,uc483_3,rfl,ul483_3,ge483_3⟩:=k44_openF hMe483
      have hv483_3:=hcc483 3 _ rfl
      rw [add_field _ _ 3 (by omega)] at hv483_3
      replace hv483_3:=Option.some.inj (hv483_3.symm.trans hx483_3)
      injection hv483_3 with hva_ hvn_ hvc_
      rw [hva_] at ge483_3
      rw [hvc_] at ul483_3
      have HL483_3:=aQ (show Kd.V k29 29 _ w.heap.size _ _ ((rd_T44 t467 x7_2).f1.f2) from Kd.V_mk ul483_3 ge483_3)
      clear hva_ hvn_ hvc_ ge483_3 ul483_3
      clear hcc483 hce483
      have HR483_3:=aQ hi483_3
      have HC483_3:=aQ hl483_3
      clear hi483_3 hl483_3
      replace p483:=eq_true p483
      replace q483:=eq_true q483
      have ea_:=Option.some.inj (hx481_3.symm.trans hx483_3)
      injection ea_ with ea_ en_ ec_
      subst ea_
      subst ec_
      clear en_
      refine start_ (n:=22) (S:=fun w'=>w'.cell? ⟨gb443,0,none⟩ = some (.int .i64 a0_0)∧w'.cell? ⟨gb443,1,none⟩ = some (.int .i64 a0_1)∧w'.cell? ⟨gb443,2,none⟩ = some (.slice (some ad462) l0_2.length c0_2)∧w'.cell? (ad481.add ((x7_2).toNat * 4)) = some (.int .i64 ((rd_T44 t467 x7_2).f0))∧w'.cell? ⟨(ad481.add ((x7_2).toNat * 4)).block,(ad481.add ((x7_2).toNat * 4)).off + 1,none⟩ = some (.int .i64 ((rd_T44 t467 x7_2).f1.f0))∧w'.cell? ⟨(ad481.add ((x7_2).toNat * 4)).block,(ad481.add ((x7_2).toNat * 4)).off + 2,none⟩ = some (.int .i64 ((rd_T44 t467 x7_2).f1.f1))∧w'.cell? ⟨(ad481.add ((x7_2).toNat * 4)).block,(ad481.add ((x7_2).toNat * 4)).off + 3,none⟩ = some (.slice A481_3 ((rd_T44 t467 x7_2).f1.f2).length c481_3)∧w'.cell? ad462 = some (.int .i64 ((rd_T29 l0_2 0).f0))∧w'.cell? ⟨ad462.block,ad462.off + 1,none⟩ = some (.int .i64 ((rd_T29 l0_2 0).f1))∧w'.cell? ⟨ad462.block,ad462.off + 2,none⟩ = some (.slice A482_2 ((rd_T29 l0_2 0).f2).length c482_2)∧w'.cell? (ad481.add ((x7_2).toNat * 4)) = some (.int .i64 ((rd_T44 t467 x7_2).f0))∧w'.cell? ⟨(ad481.add ((x7_2).toNat * 4)).block,(ad481.add ((x7_2).toNat * 4)).off + 1,none⟩ = some (.int .i64 ((rd_T44 t467 x7_2).f1.f0))∧w'.cell? ⟨(ad481.add ((x7_2).toNat * 4)).block,(ad481.add ((x7_2).toNat * 4)).off + 2,none⟩ = some (.int .i64 ((rd_T44 t467 x7_2).f1.f1))∧w'.cell? ⟨(ad481.add ((x7_2).toNat * 4)).block,(ad481.add ((x7_2).toNat * 4)).off + 3,none⟩ = some (.slice A481_3 ((rd_T44 t467 x7_2).f1.f2).length c481_3)) (ds:=[19,20]) (bn 22 0) (by kernel_rfl) rfl rfl ⟨(blk_cell BK443.out 0).trans rfl,(blk_cell BK443.out 1).trans rfl,(blk_cell BK443.out 2).trans rfl,hx481_0,hx481_1,hx481_2,hx481_3,hx482_0,hx482_1,hx482_2,hx483_0,hx483_1,hx483_2,hx483_3⟩ (fun hHeld=>?_);refine with_tabW spec_l17Steps.tab17 spec_l17Steps.bits17 (fun HT_ HW_=>?_)
      generalize wr.drew = w52 at HO_3 HO_4 HO_5 HO_444002 BK443 HB HL481_3 HL482_2 HL483_3 HR481_3 HR482_2 HR483_3 hx481_0 hx481_1 hx481_2 hx481_3 hx482_0 hx482_1 hx482_2 hx483_0 hx483_1 hx483_2 hx483_3 hHeld ⊢
      refine pur (i:=0) (N:=some 81) (bn 22 1) ?_
      refine pur (i:=1) (N:=some 82) (bn 22 3) ?_
      refine pur (i:=2) (N:=some 83) (bn 22 7) ?_
      refine pur (i:=3) (N:=some 84) (bn 22 15) ?_
      refine pur (i:=4) (N:=some 85) (bn 22 31) ?_
      refine pur (i:=6) (N:=some 87) (bn 22 95) ?_
      refine pur (i:=8) (N:=some 89) (bn 22 351) ?_
      refine pur (i:=12) (N:=some 93) (bn 22 4447) ?_
      refine pur (i:=13) (N:=some 94) (bn 22 12639) ?_
      refine pur (i:=14) (N:=some 95) (bn 22 29023) ?_
      refine pur (i:=15) (N:=some 96) (bn 22 61791) ?_
      refine tak (i:=5) (N:=some 86) (bn 22 61823) ?_
      refine tak (i:=7) (N:=some 88) (bn 22 61951) ?_
      refine tak (i:=9) (N:=some 90) (bn 22 62463) ?_
      refine pur (i:=10) (N:=some 91) (bn 22 63487) ?_
      refine tak (i:=11) (N:=some 92) (bn 22 65535) ?_
      refine tak (i:=16) (N:=some 97) (bn 22 131071) ?_
      refine one_ (i:=17) (N:=some 98) (bn 22 262143) rfl rfl (one_of HT_.out (by kernel_rfl)) (by decide) (fun K hK=>?_)
      refine goes1 Try.func66 #[.int .i64 a0_0,.agg #[.int .i64 ((rd_T29 l0_2 0).f0),.int .i64 ((rd_T29 l0_2 0).f1),.slice A482_2 ((rd_T29 l0_2 0).f2).length c482_2],.agg #[.int .i64 ((rd_T44 t467 x7_2).f1.f0),.int .i64 ((rd_T44 t467 x7_2).f1.f1),.slice A481_3 ((rd_T44 t467 x7_2).f1.f2).length c481_3]] ?_
      with_reducible refine (spec_l17Two.calls a0_0 ((rd_T29 l0_2 0).f0) ((rd_T29 l0_2 0).f1) (fun k_=>((P0_2_ k_ ∨ w.heap.size ≤ k_)∧(some k_ ≠ (u3:Value).ownBlock∧(some k_ ≠ (.slice Ao45 t463.length co45:Value).ownBlock∧(some k_ ≠ (.slice (some ad481) t467.length co51:Value).ownBlock∧k_ ≠ gb443))))) _ _ ((rd_T29 l0_2 0).f2) ((rd_T44 t467 x7_2).f1.f0) ((rd_T44 t467 x7_2).f1.f1) (fun k_=>(((P0_2_ k_ ∨ w.heap.size ≤ k_)∧(some k_ ≠ (u3:Value).ownBlock∧(some k_ ≠ (.slice Ao45 t463.length co45:Value).ownBlock∧k_ ≠ gb443)))∧some k_ ≠ (.slice (some ad481) t467.length co51:Value).ownBlock)) _ _ ((rd_T44 t467 x7_2).f1.f2) t484 t485 t486 _ ?side1 ?side2 A49.out).mono ?_
      (case side1=>exact HL482_2.out)
      (case side2=>exact HL483_3.out)
      rintro e w53 ⟨v487,rfl,ho0,hb⟩
      have HS3_:=(hb.cell (World.block_lt_of_cell? _ _ (hHeld.2.2.2.1))).trans (hHeld.2.2.2.1)
      have HS4_:=(hb.cell (World.block_lt_of_cell? _ _ (hHeld.2.2.2.2.1))).trans (hHeld.2.2.2.2.1)
      have HS5_:=(hb.cell (World.block_lt_of_cell? _ _ (hHeld.2.2.2.2.2.1))).trans (hHeld.2.2.2.2.2.1)
      have HS6_:=(hb.cell (World.block_lt_of_cell? _ _ (hHeld.2.2.2.2.2.2.1))).trans (hHeld.2.2.2.2.2.2.1)
      have HS7_:=(hb.cell (World.block_lt_of_cell? _ _ (hHeld.2.2.2.2.2.2.2.1))).trans (hHeld.2.2.2.2.2.2.2.1)
      have HS8_:=(hb.cell (World.block_lt_of_cell? _ _ (hHeld.2.2.2.2.2.2.2.2.1))).trans (hHeld.2.2.2.2.2.2.2.2.1)
      have HS9_:=(hb.cell (World.block_lt_of_cell? _ _ (hHeld.2.2.2.2.2.2.2.2.2.1))).trans (hHeld.2.2.2.2.2.2.2.2.2.1)
      have HS10_:=(hb.cell (World.block_lt_of_cell? _ _ (hHeld.2.2.2.2.2.2.2.2.2.2.1))).trans (hHeld.2.2.2.2.2.2.2.2.2.2.1)
      have HS11_:=(hb.cell (World.block_lt_of_cell? _ _ (hHeld.2.2.2.2.2.2.2.2.2.2.2.1))).trans (hHeld.2.2.2.2.2.2.2.2.2.2.2.1)
      have HS12_:=(hb.cell (World.block_lt_of_cell? _ _ (hHeld.2.2.2.2.2.2.2.2.2.2.2.2.1))).trans (hHeld.2.2.2.2.2.2.2.2.2.2.2.2.1)
      have HS13_:=(hb.cell (World.block_lt_of_cell? _ _ (hHeld.2.2.2.2.2.2.2.2.2.2.2.2.2))).trans (hHeld.2.2.2.2.2.2.2.2.2.2.2.2.2)
      refine ⟨_,rfl,?_⟩
      replace HO_444002:=aQ (Kd.V_elder' (nV HO_444002.out) (Kd.N_base ho0) hb)
      replace HL481_3:=aQ (Kd.V_elder' (nV HL481_3.out) (Kd.N_base ho0) hb)
      replace HL482_2:=aQ (Kd.V_elder' (nV HL482_2.out) (Kd.N_base ho0) hb)
      replace HL483_3:=aQ (Kd.V_elder' (nV HL483_3.out) (Kd.N_base ho0) hb)
      have HO488:=aQ (Kd.N_lower (Kd.N_mono (ok':=fun k_=>(P0_2_ k_ ∨ w.heap.size ≤ k_)∧some k_ ≠ (u3:Value).ownBlock∧some k_ ≠ (.slice Ao45 t463.length co45:Value).ownBlock∧some k_ ≠ (.slice (some ad481) t467.length co51:Value).ownBlock∧k_ ≠ gb443) ho0 (fun k_ hk_=>⟨Or.elim hk_ (fun hs_=>Or.elim hs_ (fun hs_=>hs_.1) (fun hs_=>hs_.1.1)) (fun hn_=>(.inr (Nat.le_trans (below_size bB) hn_))),Or.elim hk_ (fun hs_=>Or.elim hs_ (fun hs_=>hs_.2.1) (fun hs_=>hs_.1.2.1)) (fun hn_=>(Kd.fresh' (Kd.N_lt (nN HO_3.out)) k_ hn_)),Or.elim hk_ (fun hs_=>Or.elim hs_ (fun hs_=>hs_.2.2.1) (fun hs_=>hs_.1.2.2.1)) (fun hn_=>(Kd.fresh' (Kd.N_lt (nN HO_4.out)) k_ hn_)),Or.elim hk_ (fun hs_=>Or.elim hs_ (fun hs_=>hs_.2.2.2.1) (fun hs_=>hs_.2)) (fun hn_=>(Kd.fresh' (Kd.N_lt (nN HO_5.out)) k_ hn_)),Or.elim hk_ (fun hs_=>Or.elim hs_ (fun hs_=>hs_.2.2.2.2) (fun hs_=>hs_.1.2.2.2)) (fun hn_=>(Kd.freshB (nB BK443.out) k_ hn_))⟩)) (below_size bB))
      replace HO_3:=aQ (Kd.N_elder' (nN HO_3.out) (Kd.N_base ho0) hb)
      replace HO_4:=aQ (Kd.N_elder' (nN HO_4.out) (Kd.N_base ho0) hb)
      replace HO_5:=aQ (Kd.N_elder' (nN HO_5.out) (Kd.N_base ho0) hb)
      replace BK443:=aQ (blk_below (nB BK443.out) hb)
      replace HR481_3:=aQ (Kd.C_below (nC HR481_3.out) hb)
      replace HR482_2:=aQ (Kd.C_below (nC HR482_2.out) hb)
      replace HR483_3:=aQ (Kd.C_below (nC HR483_3.out) hb)
      replace HB:=aQ (below_step bB hb)
      (try clear hb)
      (try clear ho0)
      obtain ⟨Ao54,co54,eo54⟩:=Kd.N_slice HO488.out
      (first | subst eo54 | (injection eo54 with f1_ f2_ f3_;have f4_:=f1_.symm;have f5_:=f3_.symm;clear f1_ f2_ f3_;subst f4_;subst f5_))
      refine hK.out _ _ ⟨(blk_cell BK443.out 0).trans rfl,(blk_cell BK443.out 1).trans rfl,(blk_cell BK443.out 2).trans rfl,HS3_,HS4_,HS5_,HS6_,HS7_,HS8_,HS9_,HS10_,HS11_,HS12_,HS13_⟩ (fun hHeld=>?_)
      clear hK K
      refine nrm (N:=some 98) ?_
      refine pur (i:=18) (N:=some 99) (bn 22 524287) ?_
      refine last_ (i:=19) (N:=some 100) (bn 22 1048575) rfl rfl (one_of HT_.out (by kernel_rfl)) (by decide) (fun K hK=>?_)
      refine value_ (w1:=?_) (v:=?_) (by rfl) rfl ?_ ?_
      rotate_left 2
      ·go_simp
       constructor
       ·rfl
       ·rfl
      refine hK.out _ _ ?_
      clear hK K
      refine nrm (N:=some 100) ?_
      refine last_ (i:=20) (N:=some 101) (bn 22 2097151) rfl rfl (one_of HT_.out (by kernel_rfl)) (by decide) (fun K hK=>?_)
      refine Kd.N_append_step k44 (w0:=w) w.heap.size (by rfl) (.tmp 81) (.tmp 100) 35 44 (.agg #[(.int .i64 0),(.int .i64 0),(.int .i64 0),(.slice none 0 0)]) 48 rfl Try.underlying35 info44 rfl (by decide) (by omega) u3 x3_2 (⟨(rd_T44 t467 x7_2).f0,(⟨t484,t485,t486⟩:S29)⟩:S44) [.int .i64 ((rd_T44 t467 x7_2).f0),.int .i64 t484,.int .i64 t485,.slice Ao54 t486.length co54] (fun k_=>(P0_2_ k_ ∨ w.heap.size ≤ k_)∧some k_ ≠ (.slice Ao45 t463.length co45:Value).ownBlock∧some k_ ≠ (.slice (some ad481) t467.length co51:Value).ownBlock∧k_ ≠ gb443) (fun k_=>((fun k_=>(P0_2_ k_ ∨ w.heap.size ≤ k_)∧some k_ ≠ (.slice Ao45 t463.length co45:Value).ownBlock∧some k_ ≠ (.slice (some ad481) t467.length co51:Value).ownBlock∧k_ ≠ gb443)) k_∧some k_ ≠ (u3:Value).ownBlock) rfl rfl ?aP (fun _ hk=>hk) ?aF ?aO ?aB ?aS ?aL ?_
      (case aP=>exact (k44_mkF _ _ (⟨(rd_T44 t467 x7_2).f0,(⟨t484,t485,t486⟩:S29)⟩:S44) (Kd.N_reads' (Kd.N_mono (ok':=(fun k_=>((fun k_=>(P0_2_ k_ ∨ w.heap.size ≤ k_)∧some k_ ≠ (.slice Ao45 t463.length co45:Value).ownBlock∧some k_ ≠ (.slice (some ad481) t467.length co51:Value).ownBlock∧k_ ≠ gb443)) k_∧some k_ ≠ (u3:Value).ownBlock)) (HO488.out) (fun k_ hk=>⟨⟨hk.1,⟨hk.2.2.1,⟨hk.2.2.2.1,hk.2.2.2.2⟩⟩⟩,hk.2.1⟩))).2.1 (Kd.N_F (Kd.N_mono (ok':=(fun k_=>((fun k_=>(P0_2_ k_ ∨ w.heap.size ≤ k_)∧some k_ ≠ (.slice Ao45 t463.length co45:Value).ownBlock∧some k_ ≠ (.slice (some ad481) t467.length co51:Value).ownBlock∧k_ ≠ gb443)) k_∧some k_ ≠ (u3:Value).ownBlock)) (HO488.out) (fun k_ hk=>⟨⟨hk.1,⟨hk.2.2.1,⟨hk.2.2.2.1,hk.2.2.2.2⟩⟩⟩,hk.2.1⟩)))))
      (case aB=>exact bB)
      (case aF=>exact (fun k_ hk=>⟨(.inr (Nat.le_trans (below_size bB) hk)),Kd.fresh' (Kd.N_lt (nN HO_4.out)) k_ hk,Kd.fresh' (Kd.N_lt (nN HO_5.out)) k_ hk,Kd.freshB (nB BK443.out) k_ hk⟩))
      (case aO=>exact (nN (Kd.N_mono HO_3.out (fun _ hk=>⟨hk.1.1,⟨hk.1.2.1,⟨hk.1.2.2.1,hk.1.2.2.2⟩⟩⟩))))
      (case aS=>exact (below_size bB))
      (case aL=>have:=LMc50.out;omega)
      intro v490 w55 ho hb hg hat
      rw [← Ny489.out] at ho
      have n0_:=aQ (Kd.N_afterv (ok:=(fun k_=>(P0_2_ k_ ∨ w.heap.size ≤ k_)∧some k_ ≠ (.slice (some ad481) t467.length co51:Value).ownBlock∧some k_ ≠ (.slice Ao54 t486.length co54:Value).ownBlock∧k_ ≠ gb443)) (nN (Kd.N_mono HO_4.out (fun _ hk=>⟨⟨hk.1.1,⟨hk.1.2.2.1,⟨hk.2,hk.1.2.2.2⟩⟩⟩,hk.1.2.1⟩))) hg hat)
      have n1_:=aQ (Kd.N_afterv (ok:=(fun k_=>(P0_2_ k_ ∨ w.heap.size ≤ k_)∧some k_ ≠ (.slice Ao45 t463.length co45:Value).ownBlock∧some k_ ≠ (.slice Ao54 t486.length co54:Value).ownBlock∧k_ ≠ gb443)) (nN (Kd.N_mono HO_5.out (fun _ hk=>⟨⟨hk.1.1,⟨hk.1.2.2.1,⟨hk.2,hk.1.2.2.2⟩⟩⟩,hk.1.2.1⟩))) hg hat)
      have n2_:=aQ (Kd.V_afterv (ok:=(fun k_=>(P0_2_ k_ ∨ w.heap.size ≤ k_)∧some k_ ≠ (.slice Ao45 t463.length co45:Value).ownBlock∧some k_ ≠ (.slice (some ad481) t467.length co51:Value).ownBlock∧some k_ ≠ (.slice Ao54 t486.length co54:Value).ownBlock∧k_ ≠ gb443)) (nV (Kd.V_mono HO_444002.out (fun _ hk=>⟨⟨hk.1.1,⟨hk.1.2.2.1,⟨hk.1.2.2.2.1,⟨hk.2,hk.1.2.2.2.2⟩⟩⟩⟩,hk.1.2.1⟩))) hg hat)
      have n3_:=aQ (blk_grown (nB BK443.out) hg (Kd.N_ne HO_3.out BK443.out (by decide)))
      have n4_:=aQ (Kd.V_afterv (ok:=(fun k_=>(P0_2_ k_ ∨ w.heap.size ≤ k_)∧some k_ ≠ (.slice Ao45 t463.length co45:Value).ownBlock∧some k_ ≠ (.slice (some ad481) t467.length co51:Value).ownBlock∧some k_ ≠ (.slice Ao54 t486.length co54:Value).ownBlock∧k_ ≠ gb443)) (nV (Kd.V_mono HL481_3.out (fun _ hk=>⟨⟨hk.1.1.1,⟨hk.1.1.2.2.1,⟨hk.1.2,⟨hk.2,hk.1.1.2.2.2⟩⟩⟩⟩,hk.1.1.2.1⟩))) hg hat)
      have n5_:=aQ (Kd.V_afterv (ok:=(fun k_=>(P0_2_ k_ ∨ w.heap.size ≤ k_)∧some k_ ≠ (.slice Ao45 t463.length co45:Value).ownBlock∧some k_ ≠ (.slice (some ad481) t467.length co51:Value).ownBlock∧some k_ ≠ (.slice Ao54 t486.length co54:Value).ownBlock∧k_ ≠ gb443)) (nV (Kd.V_mono HL482_2.out (fun _ hk=>⟨⟨hk.1.1,⟨hk.1.2.2.1,⟨hk.1.2.2.2.1,⟨hk.2,hk.1.2.2.2.2⟩⟩⟩⟩,hk.1.2.1⟩))) hg hat)
      have n6_:=aQ (Kd.V_afterv (ok:=(fun k_=>(P0_2_ k_ ∨ w.heap.size ≤ k_)∧some k_ ≠ (.slice Ao45 t463.length co45:Value).ownBlock∧some k_ ≠ (.slice (some ad481) t467.length co51:Value).ownBlock∧some k_ ≠ (.slice Ao54 t486.length co54:Value).ownBlock∧k_ ≠ gb443)) (nV (Kd.V_mono HL483_3.out (fun _ hk=>⟨⟨hk.1.1.1,⟨hk.1.1.2.2.1,⟨hk.1.2,⟨hk.2,hk.1.1.2.2.2⟩⟩⟩⟩,hk.1.1.2.1⟩))) hg hat)
      have n7_:=aQ (hb)
      have n8_:=aQ (ho)
      clear HO_4 HO_5 HO_444002 BK443 HL481_3 HL482_2 HL483_3 HB HO_3 HO488
      have HO_4:=n0_
      have HO_5:=n1_
      have HO_444002:=n2_
      have BK443:=n3_
      have HL481_3:=n4_
      have HL482_2:=n5_
      have HL483_3:=n6_
      have HB:=n7_
      have HO491:=n8_
      clear n0_ n1_ n2_ n3_ n4_ n5_ n6_ n7_ n8_
      clear ho hb hg hat
      refine hK.out _ _ ?_
      clear hK K
      refine nrm (N:=some 101) ?_
      refine pur (i:=21) (N:=some 3) (bn 22 4194303) ?_
      refine done_ (done_of HT_.out (by kernel_rfl)) ?_
      try go_wp2
      go_roundg k2
      case measure=>have:=HK1.out;have:=HK2.out;omega
      case rel=>exact ⟨(y489),(wrap64 (x7_2 + 1)),rfl,H',⟨by have:=HK1.out;have:=HK2.out;omega⟩,⟨nN HO491.out⟩,⟨nN (Kd.N_mono HO_4.out (fun _ hk=>⟨hk.1.1,⟨hk.2,⟨hk.1.2.1,hk.1.2.2.2⟩⟩⟩))⟩,⟨nN (Kd.N_mono HO_5.out (fun _ hk=>⟨hk.1.1,⟨hk.2,⟨hk.1.2.1,hk.1.2.2.2⟩⟩⟩))⟩,⟨nV (Kd.V_mono HO_444002.out (fun _ hk=>⟨hk.1.1,⟨hk.2,⟨hk.1.2.1,⟨hk.1.2.2.1,hk.1.2.2.2.2⟩⟩⟩⟩))⟩,⟨nB BK443.out⟩,⟨bB⟩⟩
     rw [if_neg c46] at H
     have c46b0:decide (x7_2 < (t467.length:Int)) = false:=decide_eq_false c46
     clear c46
     have H':=aQ H
     clear H
     obtain ⟨Ao56,co56,eo56⟩:=Kd.N_slice HO_5.out
     subst eo56
     go_wp2
     go_loopg [3,8] k2 (fun kq v3 v8 w'=>∃ (x3_3:List (S44)) (x8_3:Int),v8 = .int .i64 x8_3∧Aside0 (spec_l17Steps.l2 kq x3_3 t463 t467 x8_3 a0_0 a0_1 l0_2 = some r)∧Aside0 (kq ≤ k2)∧Aside0 (Kd.N k44 44 w' w.heap.size (fun k_=>(P0_2_ k_ ∨ w.heap.size ≤ k_)∧some k_ ≠ ((.slice Ao45 t463.length co45):Value).ownBlock∧some k_ ≠ ((.slice Ao56 t467.length co56):Value).ownBlock∧k_ ≠ gb443) v3 x3_3)∧Aside0 (Kd.N k44 44 w' w.heap.size (fun k_=>(P0_2_ k_ ∨ w.heap.size ≤ k_)∧some k_ ≠ (v3:Value).ownBlock∧some k_ ≠ ((.slice Ao56 t467.length co56):Value).ownBlock∧k_ ≠ gb443) (.slice Ao45 t463.length co45) t463)∧Aside0 (Kd.N k44 44 w' w.heap.size (fun k_=>(P0_2_ k_ ∨ w.heap.size ≤ k_)∧some k_ ≠ (v3:Value).ownBlock∧some k_ ≠ ((.slice Ao45 t463.length co45):Value).ownBlock∧k_ ≠ gb443) (.slice Ao56 t467.length co56) t467)∧Aside0 (Kd.V k29 29 w' w.heap.size (fun k_=>(P0_2_ k_ ∨ w.heap.size ≤ k_)∧some k_ ≠ (v3:Value).ownBlock∧some k_ ≠ ((.slice Ao45 t463.length co45):Value).ownBlock∧some k_ ≠ ((.slice Ao56 t467.length co56):Value).ownBlock∧k_ ≠ gb443) (.slice (some ad462) l0_2.length c0_2) l0_2)∧Aside0 (w'.heap[gb443]? = some (.cells #[.int .i64 a0_0,.int .i64 a0_1,(.slice (some ad462) l0_2.length c0_2)] 29 (0,0)))∧Aside0 (Below w.heap.size w w'))
     case atStart=>exact ⟨(x3_2),(0),rfl,H',⟨Nat.le_refl _⟩,⟨nN HO_3.out⟩,⟨nN HO_4.out⟩,⟨nN HO_5.out⟩,⟨nV HO_444002.out⟩,⟨nB BK443.out⟩,⟨bB⟩⟩
     case round =>
      clear H'
      try clear c46b0
      repeat (first | clear HO_3 | clear HO_4 | clear HO_5 | clear HO_444002 | clear BK443 | clear HB)
      obtain ⟨x3_3,x8_3,rfl,HA,HK3,HO_3,HO_4,HO_5,HO_444002,BK443,HB⟩:=hrel
      cases gk with
      | zero=>exact absurd HA.out (by simp [spec_l17Steps.l2])
      | succ k3 =>
       have H:=HA.out
       clear HA
       simp only [spec_l17Steps.l2] at H
       by_cases c57:x8_3 < (t463.length:Int);rotate_left
       ·rw [if_neg c57] at H
        have c57b0:decide (x8_3 < (t463.length:Int)) = false:=decide_eq_false c57
        clear c57
        obtain rfl:=Option.some.inj H
        go_wp2
        go_ret
        exact ⟨_,rfl,by (with_reducible repeat (first | apply Kd.N_alloc | apply Kd.N_drewN | apply Kd.N_drew));exact Kd.N_mono HO_3.out (fun _ hk=>hk.1),bB⟩
       rw [if_pos c57] at H
       have c57b0:decide (x8_3 < (t463.length:Int)) = true:=decide_eq_true c57
       clear c57
       have H':=aQ H
       clear H
       go_wp2
       go_loopg [3,9] k3 (fun kq v3 v9 w'=>∃ (x3_4:List (S44)) (x9_4:Int),v9 = .int .i64 x9_4∧Aside0 (spec_l17Steps.l3 kq x3_4 t463 t467 x8_3 x9_4 a0_0 a0_1 l0_2 = some r)∧Aside0 (kq ≤ k3)∧Aside0 (Kd.N k44 44 w' w.heap.size (fun k_=>(P0_2_ k_ ∨ w.heap.size ≤ k_)∧some k_ ≠ ((.slice Ao45 t463.length co45):Value).ownBlock∧some k_ ≠ ((.slice Ao56 t467.length co56):Value).ownBlock∧k_ ≠ gb443) v3 x3_4)∧Aside0 (Kd.N k44 44 w' w.heap.size (fun k_=>(P0_2_ k_ ∨ w.heap.size ≤ k_)∧some k_ ≠ (v3:Value).ownBlock∧some k_ ≠ ((.slice Ao56 t467.length co56):Value).ownBlock∧k_ ≠ gb443) (.slice Ao45 t463.length co45) t463)∧Aside0 (Kd.N k44 44 w' w.heap.size (fun k_=>(P0_2_ k_ ∨ w.heap.size ≤ k_)∧some k_ ≠ (v3:Value).ownBlock∧some k_ ≠ ((.slice Ao45 t463.length co45):Value).ownBlock∧k_ ≠ gb443) (.slice Ao56 t467.length co56) t467)∧Aside0 (Kd.V k29 29 w' w.heap.size (fun k_=>(P0_2_ k_ ∨ w.heap.size ≤ k_)∧some k_ ≠ (v3:Value).ownBlock∧some k_ ≠ ((.slice Ao45 t463.length co45):Value).ownBlock∧some k_ ≠ ((.slice Ao56 t467.length co56):Value).ownBlock∧k_ ≠ gb443) (.slice (some ad462) l0_2.length c0_2) l0_2)∧Aside0 (w'.heap[gb443]? = some (.cells #[.int .i64 a0_0,.int .i64 a0_1,(.slice (some ad462) l0_2.length c0_2)] 29 (0,0)))∧Aside0 (Below w.heap.size w w'))
       case atStart=>exact ⟨(x3_3),(0),rfl,H',⟨Nat.le_refl _⟩,⟨nN HO_3.out⟩,⟨nN HO_4.out⟩,⟨nN HO_5.out⟩,⟨nV HO_444002.out⟩,⟨nB BK443.out⟩,⟨bB⟩⟩
       case round =>
        clear H'
        try clear c57b0
        repeat (first | clear HO_3 | clear HO_4 | clear HO_5 | clear HO_444002 | clear BK443 | clear HB)
        obtain ⟨x3_4,x9_4,rfl,HA,HK4,HO_3,HO_4,HO_5,HO_444002,BK443,HB⟩:=hrel
        cases gk with
        | zero=>exact absurd HA.out (by simp [spec_l17Steps.l3])
        | succ k4 =>
         have H:=HA.out
         clear HA
         simp only [spec_l17Steps.l3] at H
         by_cases c58:x9_4 < (t467.length:Int);rotate_left
         ·rw [if_neg c58] at H
          have c58b0:decide (x9_4 < (t467.length:Int)) = false:=decide_eq_false c58
          clear c58
          have H':=aQ H
          clear H
          go_wp2
          go_roundg k4
          case measure=>have:=HK1.out;have:=HK2.out;have:=HK3.out;have:=HK4.out;omega
          case rel=>exact ⟨(x3_4),(wrap64 (x8_3 + 1)),rfl,H',⟨by have:=HK1.out;have:=HK2.out;have:=HK3.out;have:=HK4.out;omega⟩,⟨nN HO_3.out⟩,⟨nN HO_4.out⟩,⟨nN HO_5.out⟩,⟨nV HO_444002.out⟩,⟨nB BK443.out⟩,⟨bB⟩⟩
         rw [if_pos c58] at H
         have c58b0:decide (x9_4 < (t467.length:Int)) = true:=decide_eq_true c58
         clear c58
         by_cases c59:0 ≤ x8_3;rotate_left
         ·rw [if_neg c59] at H
          exact absurd H (by simp)
         rw [if_pos c59] at H
         have c59b0:decide (0 ≤ x8_3) = true:=decide_eq_true c59
         clear c59
         by_cases c60:x8_3 < (t463.length:Int);rotate_left
         ·rw [if_neg c60] at H
          exact absurd H (by simp)
         rw [if_pos c60] at H
         have c60b0:decide (x8_3 < (t463.length:Int)) = true:=decide_eq_true c60
         clear c60
         by_cases c61:((rd_T44 t463 x8_3).f0) = 0
         ·rw [if_pos c61] at H
          have c61b0:(((rd_T44 t463 x8_3).f0) == 0) = true:=beq_iff_eq.mpr c61
          have c61b1:(((rd_T44 t463 x8_3).f0) != 0) = false:=bne_eq_false_iff_eq.mpr c61
          clear c61
          have H':=aQ H
          clear H
          try go_wp2
          replace HO_3:=aQ (Kd.N_drew HO_3.out)
          replace HO_4:=aQ (Kd.N_drew HO_4.out)
          replace HO_5:=aQ (Kd.N_drew HO_5.out)
          replace HO_444002:=aQ (Kd.V_drew HO_444002.out)
          replace BK443:=aQ (blk_drew BK443.out)
          replace HB:=aQ (below_drew1 HB.out)
          have p492:0 ≤ (x8_3:Int):=of_decide_eq_true (by first | (with_reducible assumption) | assumption)
          have q492:x8_3 < (t463.length:Int):=of_decide_eq_true (by first | (with_reducible assumption) | assumption)
          obtain ⟨ad492,A492_3,c492_3,e492,hx492_0,hx492_1,hx492_2,hx492_3,hl492_3,hi492_3⟩:=at_T44 (Kd.N_reads' HO_4.out).2.2 x8_3 p492 q492
          cases e492
          obtain ⟨ce492,hce492,hMe492,hcc492⟩:=Kd.N_get HO_4.out z44 x8_3 p492 (by first | exact q492 | exact of_decide_eq_true (by first | (with_reducible assumption) | assumption) | (have e_:=(Kd.N_reads' HO_4.out).1;omega))
          obtain ⟨ua492_3,uc492_3,rfl,ul492_3,ge492_3⟩:=k44_openF hMe492
          have hv492_3:=hcc492 3 _ rfl
          rw [add_field _ _ 3 (by omega)] at hv492_3
          replace hv492_3:=Option.some.inj (hv492_3.symm.trans hx492_3)
          injection hv492_3 with hva_ hvn_ hvc_
          rw [hva_] at ge492_3
          rw [hvc_] at ul492_3
          have HL492_3:=aQ (show Kd.V k29 29 _ w.heap.size _ _ ((rd_T44 t463 x8_3).f1.f2) from Kd.V_mk ul492_3 ge492_3)
          clear hva_ hvn_ hvc_ ge492_3 ul492_3
          clear hcc492 hce492
          have HR492_3:=aQ hi492_3
          have HC492_3:=aQ hl492_3
          clear hi492_3 hl492_3
          replace p492:=eq_true p492
          replace q492:=eq_true q492
          refine start_ (n:=20) (S:=fun w'=>w'.cell? (ad492.add ((x8_3).toNat * 4)) = some (.int .i64 ((rd_T44 t463 x8_3).f0))∧w'.cell? ⟨(ad492.add ((x8_3).toNat * 4)).block,(ad492.add ((x8_3).toNat * 4)).off + 1,none⟩ = some (.int .i64 ((rd_T44 t463 x8_3).f1.f0))∧w'.cell? ⟨(ad492.add ((x8_3).toNat * 4)).block,(ad492.add ((x8_3).toNat * 4)).off + 2,none⟩ = some (.int .i64 ((rd_T44 t463 x8_3).f1.f1))∧w'.cell? ⟨(ad492.add ((x8_3).toNat * 4)).block,(ad492.add ((x8_3).toNat * 4)).off + 3,none⟩ = some (.slice A492_3 ((rd_T44 t463 x8_3).f1.f2).length c492_3)) (ds:=[]) (bn 20 0) (by kernel_rfl) rfl rfl ⟨hx492_0,hx492_1,hx492_2,hx492_3⟩ (fun hHeld=>?_);refine with_tabW spec_l17Steps.tab24 spec_l17Steps.bits24 (fun HT_ HW_=>?_)
          generalize wr.drew = w62 at HO_3 HO_4 HO_5 HO_444002 BK443 HB HL492_3 HR492_3 hx492_0 hx492_1 hx492_2 hx492_3 hHeld ⊢
          refine pur (i:=0) (N:=some 114) (bn 20 1) ?_
          refine pur (i:=1) (N:=some 115) (bn 20 3) ?_
          refine pur (i:=2) (N:=some 116) (bn 20 7) ?_
          refine pur (i:=3) (N:=some 117) (bn 20 15) ?_
          refine tak (i:=4) (N:=some 118) (bn 20 31) ?_
          refine pur (i:=5) (N:=some 119) (bn 20 63) ?_
          refine pur (i:=6) (N:=some 120) (bn 20 127) ?_
          refine pur (i:=7) (N:=some 121) (v:=undef) (bn 20 255) ?_
          refine pur (i:=8) (N:=some 122) (v:=undef) (bn 20 511) ?_
          refine pur (i:=9) (N:=some 123) (v:=undef) (bn 20 1023) ?_
          refine pur (i:=10) (N:=some 124) (v:=undef) (bn 20 2047) ?_
          refine pur (i:=11) (N:=some 125) (v:=undef) (bn 20 4095) ?_
          refine pur (i:=12) (N:=some 126) (v:=undef) (bn 20 8191) ?_
          refine pur (i:=13) (N:=some 127) (v:=undef) (bn 20 16383) ?_
          refine pur (i:=14) (N:=some 128) (v:=undef) (bn 20 32767) ?_
          refine pur (i:=15) (N:=some 129) (v:=undef) (bn 20 65535) ?_
          refine pur (i:=16) (N:=some 130) (v:=undef) (bn 20 131071) ?_
          refine pur (i:=17) (N:=some 131) (v:=undef) (bn 20 262143) ?_
          refine pur (i:=18) (N:=some 132) (v:=undef) (bn 20 524287) ?_
          refine pur (i:=19) (N:=some 133) (bn 20 1048575) ?_
          refine done_ (done_of HT_.out (by kernel_rfl)) ?_
          try go_wp2
          go_roundg k4
          case measure=>have:=HK1.out;have:=HK2.out;have:=HK3.out;have:=HK4.out;omega
          case rel=>exact ⟨(x3_4),(wrap64 (x9_4 + 1)),rfl,H',⟨by have:=HK1.out;have:=HK2.out;have:=HK3.out;have:=HK4.out;omega⟩,⟨nN HO_3.out⟩,⟨nN HO_4.out⟩,⟨nN HO_5.out⟩,⟨nV HO_444002.out⟩,⟨nB BK443.out⟩,⟨bB⟩⟩
         rw [if_neg c61] at H
         have c61b0:(((rd_T44 t463 x8_3).f0) == 0) = false:=beq_eq_false_iff_ne.mpr c61
         have c61b1:(((rd_T44 t463 x8_3).f0) != 0) = true:=bne_iff_ne.mpr c61
         by_cases c63:0 ≤ x9_4;rotate_left
         ·rw [if_neg c63] at H
          exact absurd H (by simp)
         rw [if_pos c63] at H
         have c63b0:decide (0 ≤ x9_4) = true:=decide_eq_true c63
         clear c63
         by_cases c64:((rd_T44 t463 x8_3).f0) = (wrap64 (-((rd_T44 t467 x9_4).f0)));rotate_left
         ·rw [if_neg c64] at H
          have c64b0:(((rd_T44 t463 x8_3).f0) == (wrap64 (-((rd_T44 t467 x9_4).f0)))) = false:=beq_eq_false_iff_ne.mpr c64
          have c64b1:(((rd_T44 t463 x8_3).f0) != (wrap64 (-((rd_T44 t467 x9_4).f0)))) = true:=bne_iff_ne.mpr c64
          have H':=aQ H
          clear H
          try go_wp2
          replace HO_3:=aQ (Kd.N_drew HO_3.out)
          replace HO_4:=aQ (Kd.N_drew HO_4.out)
          replace HO_5:=aQ (Kd.N_drew HO_5.out)
          replace HO_444002:=aQ (Kd.V_drew HO_444002.out)
          replace BK443:=aQ (blk_drew BK443.out)
          replace HB:=aQ (below_drew1 HB.out)
          have p492:0 ≤ (x8_3:Int):=of_decide_eq_true (by first | (with_reducible assumption) | assumption)
          have q492:x8_3 < (t463.length:Int):=of_decide_eq_true (by first | (with_reducible assumption) | assumption)
          obtain ⟨ad492,A492_3,c492_3,e492,hx492_0,hx492_1,hx492_2,hx492_3,hl492_3,hi492_3⟩:=at_T44 (Kd.N_reads' HO_4.out).2.2 x8_3 p492 q492
          cases e492
          obtain ⟨ce492,hce492,hMe492,hcc492⟩:=Kd.N_get HO_4.out z44 x8_3 p492 (by first | exact q492 | exact of_decide_eq_true (by first | (with_reducible assumption) | assumption) | (have e_:=(Kd.N_reads' HO_4.out).1;omega))
          obtain ⟨ua492_3,uc492_3,rfl,ul492_3,ge492_3⟩:=k44_openF hMe492
          have hv492_3:=hcc492 3 _ rfl
          rw [add_field _ _ 3 (by omega)] at hv492_3
          replace hv492_3:=Option.some.inj (hv492_3.symm.trans hx492_3)
          injection hv492_3 with hva_ hvn_ hvc_
          rw [hva_] at ge492_3
          rw [hvc_] at ul492_3
          have HL492_3:=aQ (show Kd.V k29 29 _ w.heap.size _ _ ((rd_T44 t463 x8_3).f1.f2) from Kd.V_mk ul492_3 ge492_3)
          clear hva_ hvn_ hvc_ ge492_3 ul492_3
          clear hcc492 hce492
          have HR492_3:=aQ hi492_3
          have HC492_3:=aQ hl492_3
          clear hi492_3 hl492_3
          replace p492:=eq_true p492
          replace q492:=eq_true q492
          have p493:0 ≤ (x8_3:Int):=of_decide_eq_true (by first | (with_reducible assumption) | assumption)
          have q493:x8_3 < (t463.length:Int):=of_decide_eq_true (by first | (with_reducible assumption) | assumption)
          obtain ⟨ad493,A493_3,c493_3,e493,hx493_0,hx493_1,hx493_2,hx493_3,hl493_3,hi493_3⟩:=at_T44 (Kd.N_reads' HO_4.out).2.2 x8_3 p493 q493
          obtain rfl:ad492 = ad493:=(by injection e493)
          obtain ⟨ce493,hce493,hMe493,hcc493⟩:=Kd.N_get HO_4.out z44 x8_3 p493 (by first | exact q493 | exact of_decide_eq_true (by first | (with_reducible assumption) | assumption) | (have e_:=(Kd.N_reads' HO_4.out).1;omega))
          obtain ⟨ua493_3,uc493_3,rfl,ul493_3,ge493_3⟩:=k44_openF hMe493
          have hv493_3:=hcc493 3 _ rfl
          rw [add_field _ _ 3 (by omega)] at hv493_3
          replace hv493_3:=Option.some.inj (hv493_3.symm.trans hx493_3)
          injection hv493_3 with hva_ hvn_ hvc_
          rw [hva_] at ge493_3
          rw [hvc_] at ul493_3
          have HL493_3:=aQ (show Kd.V k29 29 _ w.heap.size _ _ ((rd_T44 t463 x8_3).f1.f2) from Kd.V_mk ul493_3 ge493_3)
          clear hva_ hvn_ hvc_ ge493_3 ul493_3
          clear hcc493 hce493
          have HR493_3:=aQ hi493_3
          have HC493_3:=aQ hl493_3
          clear hi493_3 hl493_3
          replace p493:=eq_true p493
          replace q493:=eq_true q493
          have ea_:=Option.some.inj (hx492_3.symm.trans hx493_3)
          injection ea_ with ea_ en_ ec_
          subst ea_
          subst ec_
          clear en_
          have p494:0 ≤ (x9_4:Int):=of_decide_eq_true (by first | (with_reducible assumption) | assumption)
          have q494:x9_4 < (t467.length:Int):=of_decide_eq_true (by first | (with_reducible assumption) | assumption)
          obtain ⟨ad494,A494_3,c494_3,e494,hx494_0,hx494_1,hx494_2,hx494_3,hl494_3,hi494_3⟩:=at_T44 (Kd.N_reads' HO_5.out).2.2 x9_4 p494 q494
          cases e494
          obtain ⟨ce494,hce494,hMe494,hcc494⟩:=Kd.N_get HO_5.out z44 x9_4 p494 (by first | exact q494 | exact of_decide_eq_true (by first | (with_reducible assumption) | assumption) | (have e_:=(Kd.N_reads' HO_5.out).1;omega))
          obtain ⟨ua494_3,uc494_3,rfl,ul494_3,ge494_3⟩:=k44_openF hMe494
          have hv494_3:=hcc494 3 _ rfl
          rw [add_field _ _ 3 (by omega)] at hv494_3
          replace hv494_3:=Option.some.inj (hv494_3.symm.trans hx494_3)
          injection hv494_3 with hva_ hvn_ hvc_
          rw [hva_] at ge494_3
          rw [hvc_] at ul494_3
          have HL494_3:=aQ (show Kd.V k29 29 _ w.heap.size _ _ ((rd_T44 t467 x9_4).f1.f2) from Kd.V_mk ul494_3 ge494_3)
          clear hva_ hvn_ hvc_ ge494_3 ul494_3
          clear hcc494 hce494
          have HR494_3:=aQ hi494_3
          have HC494_3:=aQ hl494_3
          clear hi494_3 hl494_3
          replace p494:=eq_true p494
          replace q494:=eq_true q494
          refine start_ (n:=20) (S:=fun w'=>w'.cell? (ad492.add ((x8_3).toNat * 4)) = some (.int .i64 ((rd_T44 t463 x8_3).f0))∧w'.cell? ⟨(ad492.add ((x8_3).toNat * 4)).block,(ad492.add ((x8_3).toNat * 4)).off + 1,none⟩ = some (.int .i64 ((rd_T44 t463 x8_3).f1.f0))∧w'.cell? ⟨(ad492.add ((x8_3).toNat * 4)).block,(ad492.add ((x8_3).toNat * 4)).off + 2,none⟩ = some (.int .i64 ((rd_T44 t463 x8_3).f1.f1))∧w'.cell? ⟨(ad492.add ((x8_3).toNat * 4)).block,(ad492.add ((x8_3).toNat * 4)).off + 3,none⟩ = some (.slice A492_3 ((rd_T44 t463 x8_3).f1.f2).length c492_3)∧w'.cell? (ad492.add ((x8_3).toNat * 4)) = some (.int .i64 ((rd_T44 t463 x8_3).f0))∧w'.cell? ⟨(ad492.add ((x8_3).toNat * 4)).block,(ad492.add ((x8_3).toNat * 4)).off + 1,none⟩ = some (.int .i64 ((rd_T44 t463 x8_3).f1.f0))∧w'.cell? ⟨(ad492.add ((x8_3).toNat * 4)).block,(ad492.add ((x8_3).toNat * 4)).off + 2,none⟩ = some (.int .i64 ((rd_T44 t463 x8_3).f1.f1))∧w'.cell? ⟨(ad492.add ((x8_3).toNat * 4)).block,(ad492.add ((x8_3).toNat * 4)).off + 3,none⟩ = some (.slice A492_3 ((rd_T44 t463 x8_3).f1.f2).length c492_3)∧w'.cell? (ad494.add ((x9_4).toNat * 4)) = some (.int .i64 ((rd_T44 t467 x9_4).f0))∧w'.cell? ⟨(ad494.add ((x9_4).toNat * 4)).block,(ad494.add ((x9_4).toNat * 4)).off + 1,none⟩ = some (.int .i64 ((rd_T44 t467 x9_4).f1.f0))∧w'.cell? ⟨(ad494.add ((x9_4).toNat * 4)).block,(ad494.add ((x9_4).toNat * 4)).off + 2,none⟩ = some (.int .i64 ((rd_T44 t467 x9_4).f1.f1))∧w'.cell? ⟨(ad494.add ((x9_4).toNat * 4)).block,(ad494.add ((x9_4).toNat * 4)).off + 3,none⟩ = some (.slice A494_3 ((rd_T44 t467 x9_4).f1.f2).length c494_3)) (ds:=[]) (bn 20 0) (by kernel_rfl) rfl rfl ⟨hx492_0,hx492_1,hx492_2,hx492_3,hx493_0,hx493_1,hx493_2,hx493_3,hx494_0,hx494_1,hx494_2,hx494_3⟩ (fun hHeld=>?_);refine with_tabW spec_l17Steps.tab24 spec_l17Steps.bits24 (fun HT_ HW_=>?_)
          generalize wr.drew = w72 at HO_3 HO_4 HO_5 HO_444002 BK443 HB HL492_3 HL493_3 HL494_3 HR492_3 HR493_3 HR494_3 hx492_0 hx492_1 hx492_2 hx492_3 hx493_0 hx493_1 hx493_2 hx493_3 hx494_0 hx494_1 hx494_2 hx494_3 hHeld ⊢
          refine pur (i:=0) (N:=some 114) (bn 20 1) ?_
          refine pur (i:=1) (N:=some 115) (bn 20 3) ?_
          refine pur (i:=2) (N:=some 116) (bn 20 7) ?_
          refine pur (i:=3) (N:=some 117) (bn 20 15) ?_
          refine tak (i:=4) (N:=some 118) (bn 20 31) ?_
          refine pur (i:=5) (N:=some 119) (bn 20 63) ?_
          refine pur (i:=6) (N:=some 120) (bn 20 127) ?_
          refine pur (i:=7) (N:=some 121) (bn 20 255) ?_
          refine pur (i:=8) (N:=some 122) (bn 20 511) ?_
          refine pur (i:=9) (N:=some 123) (bn 20 1023) ?_
          refine pur (i:=10) (N:=some 124) (bn 20 2047) ?_
          refine pur (i:=12) (N:=some 126) (bn 20 6143) ?_
          refine pur (i:=13) (N:=some 127) (bn 20 14335) ?_
          refine pur (i:=14) (N:=some 128) (bn 20 30719) ?_
          refine pur (i:=15) (N:=some 129) (bn 20 63487) ?_
          refine tak (i:=11) (N:=some 125) (bn 20 65535) ?_
          refine tak (i:=16) (N:=some 130) (bn 20 131071) ?_
          refine pur (i:=17) (N:=some 131) (bn 20 262143) ?_
          refine pur (i:=18) (N:=some 132) (bn 20 524287) ?_
          refine pur (i:=19) (N:=some 133) (bn 20 1048575) ?_
          refine done_ (done_of HT_.out (by kernel_rfl)) ?_
          try go_wp2
          go_roundg k4
          case measure=>have:=HK1.out;have:=HK2.out;have:=HK3.out;have:=HK4.out;omega
          case rel=>exact ⟨(x3_4),(wrap64 (x9_4 + 1)),rfl,H',⟨by have:=HK1.out;have:=HK2.out;have:=HK3.out;have:=HK4.out;omega⟩,⟨nN HO_3.out⟩,⟨nN HO_4.out⟩,⟨nN HO_5.out⟩,⟨nV HO_444002.out⟩,⟨nB BK443.out⟩,⟨bB⟩⟩
         rw [if_pos c64] at H
         have c64b0:(((rd_T44 t463 x8_3).f0) == (wrap64 (-((rd_T44 t467 x9_4).f0)))) = true:=beq_iff_eq.mpr c64
         have c64b1:(((rd_T44 t463 x8_3).f0) != (wrap64 (-((rd_T44 t467 x9_4).f0)))) = false:=bne_eq_false_iff_eq.mpr c64
         clear c64
         obtain ⟨⟨t497,t498,t499⟩,A65,H⟩:=bQ H
         dsimp only at H
         by_cases c66:x3_4.length < 2932031007402;rotate_left
         ·rw [if_neg c66] at H
          exact absurd H (by simp)
         rw [if_pos c66] at H
         have LMc66:=aQ c66
         clear c66
         obtain ⟨y502,hy502⟩:∃ y_:List (S44),y_ = (x3_4 ++ [(⟨0,(⟨t497,t498,t499⟩:S29)⟩:S44)]):=⟨_,rfl⟩
         replace H:(spec_l17Steps.l3 k4 y502 t463 t467 x8_3 (wrap64 (x9_4 + 1)) a0_0 a0_1 l0_2) = some r:=by rw [hy502];exact H
         have Ny502:=aQ hy502
         clear hy502
         have H':=aQ H
         clear H
         try go_wp2
         replace HO_3:=aQ (Kd.N_drew HO_3.out)
         replace HO_4:=aQ (Kd.N_drew HO_4.out)
         replace HO_5:=aQ (Kd.N_drew HO_5.out)
         replace HO_444002:=aQ (Kd.V_drew HO_444002.out)
         replace BK443:=aQ (blk_drew BK443.out)
         replace HB:=aQ (below_drew1 HB.out)
         have p492:0 ≤ (x8_3:Int):=of_decide_eq_true (by first | (with_reducible assumption) | assumption)
         have q492:x8_3 < (t463.length:Int):=of_decide_eq_true (by first | (with_reducible assumption) | assumption)
         obtain ⟨ad492,A492_3,c492_3,e492,hx492_0,hx492_1,hx492_2,hx492_3,hl492_3,hi492_3⟩:=at_T44 (Kd.N_reads' HO_4.out).2.2 x8_3 p492 q492
         cases e492
         obtain ⟨ce492,hce492,hMe492,hcc492⟩:=Kd.N_get HO_4.out z44 x8_3 p492 (by first | exact q492 | exact of_decide_eq_true (by first | (with_reducible assumption) | assumption) | (have e_:=(Kd.N_reads' HO_4.out).1;omega))
         obtain ⟨ua492_3,uc492_3,rfl,ul492_3,ge492_3⟩:=k44_openF hMe492
         have hv492_3:=hcc492 3 _ rfl
         rw [add_field _ _ 3 (by omega)] at hv492_3
         replace hv492_3:=Option.some.inj (hv492_3.symm.trans hx492_3)
         injection hv492_3 with hva_ hvn_ hvc_
         rw [hva_] at ge492_3
         rw [hvc_] at ul492_3
         have HL492_3:=aQ (show Kd.V k29 29 _ w.heap.size _ _ ((rd_T44 t463 x8_3).f1.f2) from Kd.V_mk ul492_3 ge492_3)
         clear hva_ hvn_ hvc_ ge492_3 ul492_3
         clear hcc492 hce492
         have HR492_3:=aQ hi492_3
         have HC492_3:=aQ hl492_3
         clear hi492_3 hl492_3
         replace p492:=eq_true p492
         replace q492:=eq_true q492
         have p493:0 ≤ (x8_3:Int):=of_decide_eq_true (by first | (with_reducible assumption) | assumption)
         have q493:x8_3 < (t463.length:Int):=of_decide_eq_true (by first | (with_reducible assumption) | assumption)
         obtain ⟨ad493,A493_3,c493_3,e493,hx493_0,hx493_1,hx493_2,hx493_3,hl493_3,hi493_3⟩:=at_T44 (Kd.N_reads' HO_4.out).2.2 x8_3 p493 q493
         obtain rfl:ad492 = ad493:=(by injection e493)
         obtain ⟨ce493,hce493,hMe493,hcc493⟩:=Kd.N_get HO_4.out z44 x8_3 p493 (by first | exact q493 | exact of_decide_eq_true (by first | (with_reducible assumption) | assumption) | (have e_:=(Kd.N_reads' HO_4.out).1;omega))
         obtain ⟨ua493_3,uc493_3,rfl,ul493_3,ge493_3⟩:=k44_openF hMe493
         have hv493_3:=hcc493 3 _ rfl
         rw [add_field _ _ 3 (by omega)] at hv493_3
         replace hv493_3:=Option.some.inj (hv493_3.symm.trans hx493_3)
         injection hv493_3 with hva_ hvn_ hvc_
         rw [hva_] at ge493_3
         rw [hvc_] at ul493_3
         have HL493_3:=aQ (show Kd.V k29 29 _ w.heap.size _ _ ((rd_T44 t463 x8_3).f1.f2) from Kd.V_mk ul493_3 ge493_3)
         clear hva_ hvn_ hvc_ ge493_3 ul493_3
         clear hcc493 hce493
         have HR493_3:=aQ hi493_3
         have HC493_3:=aQ hl493_3
         clear hi493_3 hl493_3
         replace p493:=eq_true p493
         replace q493:=eq_true q493
         have ea_:=Option.some.inj (hx492_3.symm.trans hx493_3)
         injection ea_ with ea_ en_ ec_
         subst ea_
         subst ec_
         clear en_
         have p494:0 ≤ (x9_4:Int):=of_decide_eq_true (by first | (with_reducible assumption) | assumption)
         have q494:x9_4 < (t467.length:Int):=of_decide_eq_true (by first | (with_reducible assumption) | assumption)
         obtain ⟨ad494,A494_3,c494_3,e494,hx494_0,hx494_1,hx494_2,hx494_3,hl494_3,hi494_3⟩:=at_T44 (Kd.N_reads' HO_5.out).2.2 x9_4 p494 q494
         cases e494
         obtain ⟨ce494,hce494,hMe494,hcc494⟩:=Kd.N_get HO_5.out z44 x9_4 p494 (by first | exact q494 | exact of_decide_eq_true (by first | (with_reducible assumption) | assumption) | (have e_:=(Kd.N_reads' HO_5.out).1;omega))
         obtain ⟨ua494_3,uc494_3,rfl,ul494_3,ge494_3⟩:=k44_openF hMe494
         have hv494_3:=hcc494 3 _ rfl
         rw [add_field _ _ 3 (by omega)] at hv494_3
         replace hv494_3:=Option.some.inj (hv494_3.symm.trans hx494_3)
         injection hv494_3 with hva_ hvn_ hvc_
         rw [hva_] at ge494_3
         rw [hvc_] at ul494_3
         have HL494_3:=aQ (show Kd.V k29 29 _ w.heap.size _ _ ((rd_T44 t467 x9_4).f1.f2) from Kd.V_mk ul494_3 ge494_3)
         clear hva_ hvn_ hvc_ ge494_3 ul494_3
         clear hcc494 hce494
         have HR494_3:=aQ hi494_3
         have HC494_3:=aQ hl494_3
         clear hi494_3 hl494_3
         replace p494:=eq_true p494
         replace q494:=eq_true q494
         refine start_ (n:=20) (S:=fun w'=>w'.cell? (ad492.add ((x8_3).toNat * 4)) = some (.int .i64 ((rd_T44 t463 x8_3).f0))∧w'.cell? ⟨(ad492.add ((x8_3).toNat * 4)).block,(ad492.add ((x8_3).toNat * 4)).off + 1,none⟩ = some (.int .i64 ((rd_T44 t463 x8_3).f1.f0))∧w'.cell? ⟨(ad492.add ((x8_3).toNat * 4)).block,(ad492.add ((x8_3).toNat * 4)).off + 2,none⟩ = some (.int .i64 ((rd_T44 t463 x8_3).f1.f1))∧w'.cell? ⟨(ad492.add ((x8_3).toNat * 4)).block,(ad492.add ((x8_3).toNat * 4)).off + 3,none⟩ = some (.slice A492_3 ((rd_T44 t463 x8_3).f1.f2).length c492_3)∧w'.cell? (ad492.add ((x8_3).toNat * 4)) = some (.int .i64 ((rd_T44 t463 x8_3).f0))∧w'.cell? ⟨(ad492.add ((x8_3).toNat * 4)).block,(ad492.add ((x8_3).toNat * 4)).off + 1,none⟩ = some (.int .i64 ((rd_T44 t463 x8_3).f1.f0))∧w'.cell? ⟨(ad492.add ((x8_3).toNat * 4)).block,(ad492.add ((x8_3).toNat * 4)).off + 2,none⟩ = some (.int .i64 ((rd_T44 t463 x8_3).f1.f1))∧w'.cell? ⟨(ad492.add ((x8_3).toNat * 4)).block,(ad492.add ((x8_3).toNat * 4)).off + 3,none⟩ = some (.slice A492_3 ((rd_T44 t463 x8_3).f1.f2).length c492_3)∧w'.cell? (ad494.add ((x9_4).toNat * 4)) = some (.int .i64 ((rd_T44 t467 x9_4).f0))∧w'.cell? ⟨(ad494.add ((x9_4).toNat * 4)).block,(ad494.add ((x9_4).toNat * 4)).off + 1,none⟩ = some (.int .i64 ((rd_T44 t467 x9_4).f1.f0))∧w'.cell? ⟨(ad494.add ((x9_4).toNat * 4)).block,(ad494.add ((x9_4).toNat * 4)).off + 2,none⟩ = some (.int .i64 ((rd_T44 t467 x9_4).f1.f1))∧w'.cell? ⟨(ad494.add ((x9_4).toNat * 4)).block,(ad494.add ((x9_4).toNat * 4)).off + 3,none⟩ = some (.slice A494_3 ((rd_T44 t467 x9_4).f1.f2).length c494_3)) (ds:=[]) (bn 20 0) (by kernel_rfl) rfl rfl ⟨hx492_0,hx492_1,hx492_2,hx492_3,hx493_0,hx493_1,hx493_2,hx493_3,hx494_0,hx494_1,hx494_2,hx494_3⟩ (fun hHeld=>?_);refine with_tabW spec_l17Steps.tab24 spec_l17Steps.bits24 (fun HT_ HW_=>?_)
         generalize wr.drew = w67 at HO_3 HO_4 HO_5 HO_444002 BK443 HB HL492_3 HL493_3 HL494_3 HR492_3 HR493_3 HR494_3 hx492_0 hx492_1 hx492_2 hx492_3 hx493_0 hx493_1 hx493_2 hx493_3 hx494_0 hx494_1 hx494_2 hx494_3 hHeld ⊢
         refine pur (i:=0) (N:=some 114) (bn 20 1) ?_
         refine pur (i:=1) (N:=some 115) (bn 20 3) ?_
         refine pur (i:=2) (N:=some 116) (bn 20 7) ?_
         refine pur (i:=3) (N:=some 117) (bn 20 15) ?_
         refine tak (i:=4) (N:=some 118) (bn 20 31) ?_
         refine pur (i:=5) (N:=some 119) (bn 20 63) ?_
         refine pur (i:=6) (N:=some 120) (bn 20 127) ?_
         refine pur (i:=7) (N:=some 121) (bn 20 255) ?_
         refine pur (i:=8) (N:=some 122) (bn 20 511) ?_
         refine pur (i:=9) (N:=some 123) (bn 20 1023) ?_
         refine pur (i:=10) (N:=some 124) (bn 20 2047) ?_
         refine pur (i:=12) (N:=some 126) (bn 20 6143) ?_
         refine pur (i:=13) (N:=some 127) (bn 20 14335) ?_
         refine pur (i:=14) (N:=some 128) (bn 20 30719) ?_
         refine pur (i:=15) (N:=some 129) (bn 20 63487) ?_
         refine tak (i:=11) (N:=some 125) (bn 20 65535) ?_
         refine tak (i:=16) (N:=some 130) (bn 20 131071) ?_
         refine pur (i:=17) (N:=some 131) (bn 20 262143) ?_
         refine pur (i:=18) (N:=some 132) (bn 20 524287) ?_
         refine pur (i:=19) (N:=some 133) (bn 20 1048575) ?_
         refine done_ (done_of HT_.out (by kernel_rfl)) ?_
         try go_wp2
         replace HO_3:=aQ (Kd.N_drew HO_3.out)
         replace HO_4:=aQ (Kd.N_drew HO_4.out)
         replace HO_5:=aQ (Kd.N_drew HO_5.out)
         replace HO_444002:=aQ (Kd.V_drew HO_444002.out)
         replace HL492_3:=aQ (Kd.V_drew HL492_3.out)
         replace HL493_3:=aQ (Kd.V_drew HL493_3.out)
         replace HL494_3:=aQ (Kd.V_drew HL494_3.out)
         replace BK443:=aQ (blk_drew BK443.out)
         replace HR492_3:=aQ (Kd.C_drew HR492_3.out)
         replace HR493_3:=aQ (Kd.C_drew HR493_3.out)
         replace HR494_3:=aQ (Kd.C_drew HR494_3.out)
         replace HB:=aQ (below_drew1 HB.out)
         have p495:0 ≤ (x8_3:Int):=of_decide_eq_true (by first | (with_reducible assumption) | assumption)
         have q495:x8_3 < (t463.length:Int):=of_decide_eq_true (by first | (with_reducible assumption) | assumption)
         obtain ⟨ad495,A495_3,c495_3,e495,hx495_0,hx495_1,hx495_2,hx495_3,hl495_3,hi495_3⟩:=at_T44 (Kd.N_reads' HO_4.out).2.2 x8_3 p495 q495
         obtain rfl:ad492 = ad495:=(by injection e495)
         obtain ⟨ce495,hce495,hMe495,hcc495⟩:=Kd.N_get HO_4.out z44 x8_3 p495 (by first | exact q495 | exact of_decide_eq_true (by first | (with_reducible assumption) | assumption) | (have e_:=(Kd.N_reads' HO_4.out).1;omega))
         obtain ⟨ua495_3,uc495_3,rfl,ul495_3,ge495_3⟩:=k44_openF hMe495
         have hv495_3:=hcc495 3 _ rfl
         rw [add_field _ _ 3 (by omega)] at hv495_3
         replace hv495_3:=Option.some.inj (hv495_3.symm.trans hx495_3)
         injection hv495_3 with hva_ hvn_ hvc_
         rw [hva_] at ge495_3
         rw [hvc_] at ul495_3
         have HL495_3:=aQ (show Kd.V k29 29 _ w.heap.size _ _ ((rd_T44 t463 x8_3).f1.f2) from Kd.V_mk ul495_3 ge495_3)
         clear hva_ hvn_ hvc_ ge495_3 ul495_3
         clear hcc495 hce495
         have HR495_3:=aQ hi495_3
         have HC495_3:=aQ hl495_3
         clear hi495_3 hl495_3
         replace p495:=eq_true p495
         replace q495:=eq_true q495
         have p496:0 ≤ (x9_4:Int):=of_decide_eq_true (by first | (with_reducible assumption) | assumption)
         have q496:x9_4 < (t467.length:Int):=of_decide_eq_true (by first | (with_reducible assumption) | assumption)
         obtain ⟨ad496,A496_3,c496_3,e496,hx496_0,hx496_1,hx496_2,hx496_3,hl496_3,hi496_3⟩:=at_T44 (Kd.N_reads' HO_5.out).2.2 x9_4 p496 q496
         obtain rfl:ad494 = ad496:=(by injection e496)
         obtain ⟨ce496,hce496,hMe496,hcc496⟩:=Kd.N_get HO_5.out z44 x9_4 p496 (by first | exact q496 | exact of_decide_eq_true (by first | (with_reducible assumption) | assumption) | (have e_:=(Kd.N_reads' HO_5.out).1;omega))
         obtain ⟨ua496_3,uc496_3,rfl,ul496_3,ge496_3⟩:=k44_openF hMe496
         have hv496_3:=hcc496 3 _ rfl
         rw [add_field _ _ 3 (by omega)] at hv496_3
         replace hv496_3:=Option.some.inj (hv496_3.symm.trans hx496_3)
         injection hv496_3 with hva_ hvn_ hvc_
         rw [hva_] at ge496_3
         rw [hvc_] at ul496_3
         have HL496_3:=aQ (show Kd.V k29 29 _ w.heap.size _ _ ((rd_T44 t467 x9_4).f1.f2) from Kd.V_mk ul496_3 ge496_3)
         clear hva_ hvn_ hvc_ ge496_3 ul496_3
         clear hcc496 hce496
         have HR496_3:=aQ hi496_3
         have HC496_3:=aQ hl496_3
         clear hi496_3 hl496_3
         replace p496:=eq_true p496
         replace q496:=eq_true q496
         refine start_ (n:=18) (S:=fun w'=>w'.cell? ⟨gb443,0,none⟩ = some (.int .i64 a0_0)∧w'.cell? ⟨gb443,1,none⟩ = some (.int .i64 a0_1)∧w'.cell? ⟨gb443,2,none⟩ = some (.slice (some ad462) l0_2.length c0_2)∧w'.cell? (ad492.add ((x8_3).toNat * 4)) = some (.int .i64 ((rd_T44 t463 x8_3).f0))∧w'.cell? ⟨(ad492.add ((x8_3).toNat * 4)).block,(ad492.add ((x8_3).toNat * 4)).off + 1,none⟩ = some (.int .i64 ((rd_T44 t463 x8_3).f1.f0))∧w'.cell? ⟨(ad492.add ((x8_3).toNat * 4)).block,(ad492.add ((x8_3).toNat * 4)).off + 2,none⟩ = some (.int .i64 ((rd_T44 t463 x8_3).f1.f1))∧w'.cell? ⟨(ad492.add ((x8_3).toNat * 4)).block,(ad492.add ((x8_3).toNat * 4)).off + 3,none⟩ = some (.slice A495_3 ((rd_T44 t463 x8_3).f1.f2).length c495_3)∧w'.cell? (ad494.add ((x9_4).toNat * 4)) = some (.int .i64 ((rd_T44 t467 x9_4).f0))∧w'.cell? ⟨(ad494.add ((x9_4).toNat * 4)).block,(ad494.add ((x9_4).toNat * 4)).off + 1,none⟩ = some (.int .i64 ((rd_T44 t467 x9_4).f1.f0))∧w'.cell? ⟨(ad494.add ((x9_4).toNat * 4)).block,(ad494.add ((x9_4).toNat * 4)).off + 2,none⟩ = some (.int .i64 ((rd_T44 t467 x9_4).f1.f1))∧w'.cell? ⟨(ad494.add ((x9_4).toNat * 4)).block,(ad494.add ((x9_4).toNat * 4)).off + 3,none⟩ = some (.slice A496_3 ((rd_T44 t467 x9_4).f1.f2).length c496_3)) (ds:=[15,16]) (bn 18 0) (by kernel_rfl) rfl rfl ⟨(blk_cell BK443.out 0).trans rfl,(blk_cell BK443.out 1).trans rfl,(blk_cell BK443.out 2).trans rfl,hx495_0,hx495_1,hx495_2,hx495_3,hx496_0,hx496_1,hx496_2,hx496_3⟩ (fun hHeld=>?_);refine with_tabW spec_l17Steps.tab25 spec_l17Steps.bits25 (fun HT_ HW_=>?_)
         generalize w67.drew = w68 at HO_3 HO_4 HO_5 HO_444002 HL492_3 HL493_3 HL494_3 BK443 HR492_3 HR493_3 HR494_3 HB HL495_3 HL496_3 HR495_3 HR496_3 hx495_0 hx495_1 hx495_2 hx495_3 hx496_0 hx496_1 hx496_2 hx496_3 hHeld ⊢
         refine pur (i:=0) (N:=some 134) (bn 18 1) ?_
         refine pur (i:=1) (N:=some 135) (bn 18 3) ?_
         refine pur (i:=3) (N:=some 137) (bn 18 11) ?_
         refine pur (i:=4) (N:=some 138) (bn 18 27) ?_
         refine pur (i:=5) (N:=some 139) (bn 18 59) ?_
         refine pur (i:=6) (N:=some 140) (bn 18 123) ?_
         refine pur (i:=8) (N:=some 142) (bn 18 379) ?_
         refine pur (i:=9) (N:=some 143) (bn 18 891) ?_
         refine pur (i:=10) (N:=some 144) (bn 18 1915) ?_
         refine pur (i:=11) (N:=some 145) (bn 18 3963) ?_
         refine tak (i:=2) (N:=some 136) (bn 18 3967) ?_
         refine tak (i:=7) (N:=some 141) (bn 18 4095) ?_
         refine tak (i:=12) (N:=some 146) (bn 18 8191) ?_
         refine one_ (i:=13) (N:=some 147) (bn 18 16383) rfl rfl (one_of HT_.out (by kernel_rfl)) (by decide) (fun K hK=>?_)
         refine goes1 Try.func66 #[.int .i64 a0_0,.agg #[.int .i64 ((rd_T44 t463 x8_3).f1.f0),.int .i64 ((rd_T44 t463 x8_3).f1.f1),.slice A495_3 ((rd_T44 t463 x8_3).f1.f2).length c495_3],.agg #[.int .i64 ((rd_T44 t467 x9_4).f1.f0),.int .i64 ((rd_T44 t467 x9_4).f1.f1),.slice A496_3 ((rd_T44 t467 x9_4).f1.f2).length c496_3]] ?_
         with_reducible refine (spec_l17Two.calls a0_0 ((rd_T44 t463 x8_3).f1.f0) ((rd_T44 t463 x8_3).f1.f1) (fun k_=>(((P0_2_ k_ ∨ w.heap.size ≤ k_)∧(some k_ ≠ (u3:Value).ownBlock∧(some k_ ≠ (.slice (some ad494) t467.length co56:Value).ownBlock∧k_ ≠ gb443)))∧some k_ ≠ (.slice (some ad492) t463.length co45:Value).ownBlock)) _ _ ((rd_T44 t463 x8_3).f1.f2) ((rd_T44 t467 x9_4).f1.f0) ((rd_T44 t467 x9_4).f1.f1) (fun k_=>(((P0_2_ k_ ∨ w.heap.size ≤ k_)∧(some k_ ≠ (u3:Value).ownBlock∧(some k_ ≠ (.slice (some ad492) t463.length co45:Value).ownBlock∧k_ ≠ gb443)))∧some k_ ≠ (.slice (some ad494) t467.length co56:Value).ownBlock)) _ _ ((rd_T44 t467 x9_4).f1.f2) t497 t498 t499 _ ?side1 ?side2 A65.out).mono ?_
         (case side1=>exact HL495_3.out)
         (case side2=>exact HL496_3.out)
         rintro e w69 ⟨v500,rfl,ho0,hb⟩
         have HS3_:=(hb.cell (World.block_lt_of_cell? _ _ (hHeld.2.2.2.1))).trans (hHeld.2.2.2.1)
         have HS4_:=(hb.cell (World.block_lt_of_cell? _ _ (hHeld.2.2.2.2.1))).trans (hHeld.2.2.2.2.1)
         have HS5_:=(hb.cell (World.block_lt_of_cell? _ _ (hHeld.2.2.2.2.2.1))).trans (hHeld.2.2.2.2.2.1)
         have HS6_:=(hb.cell (World.block_lt_of_cell? _ _ (hHeld.2.2.2.2.2.2.1))).trans (hHeld.2.2.2.2.2.2.1)
         have HS7_:=(hb.cell (World.block_lt_of_cell? _ _ (hHeld.2.2.2.2.2.2.2.1))).trans (hHeld.2.2.2.2.2.2.2.1)
         have HS8_:=(hb.cell (World.block_lt_of_cell? _ _ (hHeld.2.2.2.2.2.2.2.2.1))).trans (hHeld.2.2.2.2.2.2.2.2.1)
         have HS9_:=(hb.cell (World.block_lt_of_cell? _ _ (hHeld.2.2.2.2.2.2.2.2.2.1))).trans (hHeld.2.2.2.2.2.2.2.2.2.1)
         have HS10_:=(hb.cell (World.block_lt_of_cell? _ _ (hHeld.2.2.2.2.2.2.2.2.2.2))).trans (hHeld.2.2.2.2.2.2.2.2.2.2)
         refine ⟨_,rfl,?_⟩
         replace HO_444002:=aQ (Kd.V_elder' (nV HO_444002.out) (Kd.N_base ho0) hb)
         replace HL492_3:=aQ (Kd.V_elder' (nV HL492_3.out) (Kd.N_base ho0) hb)
         replace HL493_3:=aQ (Kd.V_elder' (nV HL493_3.out) (Kd.N_base ho0) hb)
         replace HL494_3:=aQ (Kd.V_elder' (nV HL494_3.out) (Kd.N_base ho0) hb)
         replace HL495_3:=aQ (Kd.V_elder' (nV HL495_3.out) (Kd.N_base ho0) hb)
         replace HL496_3:=aQ (Kd.V_elder' (nV HL496_3.out) (Kd.N_base ho0) hb)
         have HO501:=aQ (Kd.N_lower (Kd.N_mono (ok':=fun k_=>(P0_2_ k_ ∨ w.heap.size ≤ k_)∧some k_ ≠ (u3:Value).ownBlock∧some k_ ≠ (.slice (some ad492) t463.length co45:Value).ownBlock∧some k_ ≠ (.slice (some ad494) t467.length co56:Value).ownBlock∧k_ ≠ gb443) ho0 (fun k_ hk_=>⟨Or.elim hk_ (fun hs_=>Or.elim hs_ (fun hs_=>hs_.1.1) (fun hs_=>hs_.1.1)) (fun hn_=>(.inr (Nat.le_trans (below_size bB) hn_))),Or.elim hk_ (fun hs_=>Or.elim hs_ (fun hs_=>hs_.1.2.1) (fun hs_=>hs_.1.2.1)) (fun hn_=>(Kd.fresh' (Kd.N_lt (nN HO_3.out)) k_ hn_)),Or.elim hk_ (fun hs_=>Or.elim hs_ (fun hs_=>hs_.2) (fun hs_=>hs_.1.2.2.1)) (fun hn_=>(Kd.fresh' (Kd.N_lt (nN HO_4.out)) k_ hn_)),Or.elim hk_ (fun hs_=>Or.elim hs_ (fun hs_=>hs_.1.2.2.1) (fun hs_=>hs_.2)) (fun hn_=>(Kd.fresh' (Kd.N_lt (nN HO_5.out)) k_ hn_)),Or.elim hk_ (fun hs_=>Or.elim hs_ (fun hs_=>hs_.1.2.2.2) (fun hs_=>hs_.1.2.2.2)) (fun hn_=>(Kd.freshB (nB BK443.out) k_ hn_))⟩)) (below_size bB))
         replace HO_3:=aQ (Kd.N_elder' (nN HO_3.out) (Kd.N_base ho0) hb)
         replace HO_4:=aQ (Kd.N_elder' (nN HO_4.out) (Kd.N_base ho0) hb)
         replace HO_5:=aQ (Kd.N_elder' (nN HO_5.out) (Kd.N_base ho0) hb)
         replace BK443:=aQ (blk_below (nB BK443.out) hb)
         replace HR492_3:=aQ (Kd.C_below (nC HR492_3.out) hb)
         replace HR493_3:=aQ (Kd.C_below (nC HR493_3.out) hb)
         replace HR494_3:=aQ (Kd.C_below (nC HR494_3.out) hb)
         replace HR495_3:=aQ (Kd.C_below (nC HR495_3.out) hb)
         replace HR496_3:=aQ (Kd.C_below (nC HR496_3.out) hb)
         replace HB:=aQ (below_step bB hb)
         (try clear hb)
         (try clear ho0)
         obtain ⟨Ao70,co70,eo70⟩:=Kd.N_slice HO501.out
         (first | subst eo70 | (injection eo70 with f1_ f2_ f3_;have f4_:=f1_.symm;have f5_:=f3_.symm;clear f1_ f2_ f3_;subst f4_;subst f5_))
         refine hK.out _ _ ⟨(blk_cell BK443.out 0).trans rfl,(blk_cell BK443.out 1).trans rfl,(blk_cell BK443.out 2).trans rfl,HS3_,HS4_,HS5_,HS6_,HS7_,HS8_,HS9_,HS10_⟩ (fun hHeld=>?_)
         clear hK K
         refine nrm (N:=some 147) ?_
         refine pur (i:=14) (N:=some 148) (bn 18 32767) ?_
         refine last_ (i:=15) (N:=some 149) (bn 18 65535) rfl rfl (one_of HT_.out (by kernel_rfl)) (by decide) (fun K hK=>?_)
         refine value_ (w1:=?_) (v:=?_) (by rfl) rfl ?_ ?_
         rotate_left 2
         ·go_simp
          constructor
          ·rfl
          ·rfl
         refine hK.out _ _ ?_
         clear hK K
         refine nrm (N:=some 149) ?_
         refine last_ (i:=16) (N:=some 150) (bn 18 131071) rfl rfl (one_of HT_.out (by kernel_rfl)) (by decide) (fun K hK=>?_)
         refine Kd.N_append_step k44 (w0:=w) w.heap.size (by rfl) (.tmp 134) (.tmp 149) 35 44 (.agg #[(.int .i64 0),(.int .i64 0),(.int .i64 0),(.slice none 0 0)]) 48 rfl Try.underlying35 info44 rfl (by decide) (by omega) u3 x3_4 (⟨0,(⟨t497,t498,t499⟩:S29)⟩:S44) [.int .i64 0,.int .i64 t497,.int .i64 t498,.slice Ao70 t499.length co70] (fun k_=>(P0_2_ k_ ∨ w.heap.size ≤ k_)∧some k_ ≠ (.slice (some ad492) t463.length co45:Value).ownBlock∧some k_ ≠ (.slice (some ad494) t467.length co56:Value).ownBlock∧k_ ≠ gb443) (fun k_=>((fun k_=>(P0_2_ k_ ∨ w.heap.size ≤ k_)∧some k_ ≠ (.slice (some ad492) t463.length co45:Value).ownBlock∧some k_ ≠ (.slice (some ad494) t467.length co56:Value).ownBlock∧k_ ≠ gb443)) k_∧some k_ ≠ (u3:Value).ownBlock) rfl rfl ?aP (fun _ hk=>hk) ?aF ?aO ?aB ?aS ?aL ?_
         (case aP=>exact (k44_mkF _ _ (⟨0,(⟨t497,t498,t499⟩:S29)⟩:S44) (Kd.N_reads' (Kd.N_mono (ok':=(fun k_=>((fun k_=>(P0_2_ k_ ∨ w.heap.size ≤ k_)∧some k_ ≠ (.slice (some ad492) t463.length co45:Value).ownBlock∧some k_ ≠ (.slice (some ad494) t467.length co56:Value).ownBlock∧k_ ≠ gb443)) k_∧some k_ ≠ (u3:Value).ownBlock)) (HO501.out) (fun k_ hk=>⟨⟨hk.1,⟨hk.2.2.1,⟨hk.2.2.2.1,hk.2.2.2.2⟩⟩⟩,hk.2.1⟩))).2.1 (Kd.N_F (Kd.N_mono (ok':=(fun k_=>((fun k_=>(P0_2_ k_ ∨ w.heap.size ≤ k_)∧some k_ ≠ (.slice (some ad492) t463.length co45:Value).ownBlock∧some k_ ≠ (.slice (some ad494) t467.length co56:Value).ownBlock∧k_ ≠ gb443)) k_∧some k_ ≠ (u3:Value).ownBlock)) (HO501.out) (fun k_ hk=>⟨⟨hk.1,⟨hk.2.2.1,⟨hk.2.2.2.1,hk.2.2.2.2⟩⟩⟩,hk.2.1⟩)))))
         (case aB=>exact bB)
         (case aF=>exact (fun k_ hk=>⟨(.inr (Nat.le_trans (below_size bB) hk)),Kd.fresh' (Kd.N_lt (nN HO_4.out)) k_ hk,Kd.fresh' (Kd.N_lt (nN HO_5.out)) k_ hk,Kd.freshB (nB BK443.out) k_ hk⟩))
         (case aO=>exact (nN (Kd.N_mono HO_3.out (fun _ hk=>⟨hk.1.1,⟨hk.1.2.1,⟨hk.1.2.2.1,hk.1.2.2.2⟩⟩⟩))))
         (case aS=>exact (below_size bB))
         (case aL=>have:=LMc66.out;omega)
         intro v503 w71 ho hb hg hat
         rw [← Ny502.out] at ho
         have n0_:=aQ (Kd.N_afterv (ok:=(fun k_=>(P0_2_ k_ ∨ w.heap.size ≤ k_)∧some k_ ≠ (.slice (some ad494) t467.length co56:Value).ownBlock∧some k_ ≠ (.slice Ao70 t499.length co70:Value).ownBlock∧k_ ≠ gb443)) (nN (Kd.N_mono HO_4.out (fun _ hk=>⟨⟨hk.1.1,⟨hk.1.2.2.1,⟨hk.2,hk.1.2.2.2⟩⟩⟩,hk.1.2.1⟩))) hg hat)
         have n1_:=aQ (Kd.N_afterv (ok:=(fun k_=>(P0_2_ k_ ∨ w.heap.size ≤ k_)∧some k_ ≠ (.slice (some ad492) t463.length co45:Value).ownBlock∧some k_ ≠ (.slice Ao70 t499.length co70:Value).ownBlock∧k_ ≠ gb443)) (nN (Kd.N_mono HO_5.out (fun _ hk=>⟨⟨hk.1.1,⟨hk.1.2.2.1,⟨hk.2,hk.1.2.2.2⟩⟩⟩,hk.1.2.1⟩))) hg hat)
         have n2_:=aQ (Kd.V_afterv (ok:=(fun k_=>(P0_2_ k_ ∨ w.heap.size ≤ k_)∧some k_ ≠ (.slice (some ad492) t463.length co45:Value).ownBlock∧some k_ ≠ (.slice (some ad494) t467.length co56:Value).ownBlock∧some k_ ≠ (.slice Ao70 t499.length co70:Value).ownBlock∧k_ ≠ gb443)) (nV (Kd.V_mono HO_444002.out (fun _ hk=>⟨⟨hk.1.1,⟨hk.1.2.2.1,⟨hk.1.2.2.2.1,⟨hk.2,hk.1.2.2.2.2⟩⟩⟩⟩,hk.1.2.1⟩))) hg hat)
         have n3_:=aQ (blk_grown (nB BK443.out) hg (Kd.N_ne HO_3.out BK443.out (by decide)))
         have n4_:=aQ (Kd.V_afterv (ok:=(fun k_=>(P0_2_ k_ ∨ w.heap.size ≤ k_)∧some k_ ≠ (.slice (some ad492) t463.length co45:Value).ownBlock∧some k_ ≠ (.slice (some ad494) t467.length co56:Value).ownBlock∧some k_ ≠ (.slice Ao70 t499.length co70:Value).ownBlock∧k_ ≠ gb443)) (nV (Kd.V_mono HL492_3.out (fun _ hk=>⟨⟨hk.1.1.1,⟨hk.1.2,⟨hk.1.1.2.2.1,⟨hk.2,hk.1.1.2.2.2⟩⟩⟩⟩,hk.1.1.2.1⟩))) hg hat)
         have n5_:=aQ (Kd.V_afterv (ok:=(fun k_=>(P0_2_ k_ ∨ w.heap.size ≤ k_)∧some k_ ≠ (.slice (some ad492) t463.length co45:Value).ownBlock∧some k_ ≠ (.slice (some ad494) t467.length co56:Value).ownBlock∧some k_ ≠ (.slice Ao70 t499.length co70:Value).ownBlock∧k_ ≠ gb443)) (nV (Kd.V_mono HL493_3.out (fun _ hk=>⟨⟨hk.1.1.1,⟨hk.1.2,⟨hk.1.1.2.2.1,⟨hk.2,hk.1.1.2.2.2⟩⟩⟩⟩,hk.1.1.2.1⟩))) hg hat)
         have n6_:=aQ (Kd.V_afterv (ok:=(fun k_=>(P0_2_ k_ ∨ w.heap.size ≤ k_)∧some k_ ≠ (.slice (some ad492) t463.length co45:Value).ownBlock∧some k_ ≠ (.slice (some ad494) t467.length co56:Value).ownBlock∧some k_ ≠ (.slice Ao70 t499.length co70:Value).ownBlock∧k_ ≠ gb443)) (nV (Kd.V_mono HL494_3.out (fun _ hk=>⟨⟨hk.1.1.1,⟨hk.1.1.2.2.1,⟨hk.1.2,⟨hk.2,hk.1.1.2.2.2⟩⟩⟩⟩,hk.1.1.2.1⟩))) hg hat)
         have n7_:=aQ (Kd.V_afterv (ok:=(fun k_=>(P0_2_ k_ ∨ w.heap.size ≤ k_)∧some k_ ≠ (.slice (some ad492) t463.length co45:Value).ownBlock∧some k_ ≠ (.slice (some ad494) t467.length co56:Value).ownBlock∧some k_ ≠ (.slice Ao70 t499.length co70:Value).ownBlock∧k_ ≠ gb443)) (nV (Kd.V_mono HL495_3.out (fun _ hk=>⟨⟨hk.1.1.1,⟨hk.1.2,⟨hk.1.1.2.2.1,⟨hk.2,hk.1.1.2.2.2⟩⟩⟩⟩,hk.1.1.2.1⟩))) hg hat)
         have n8_:=aQ (Kd.V_afterv (ok:=(fun k_=>(P0_2_ k_ ∨ w.heap.size ≤ k_)∧some k_ ≠ (.slice (some ad492) t463.length co45:Value).ownBlock∧some k_ ≠ (.slice (some ad494) t467.length co56:Value).ownBlock∧some k_ ≠ (.slice Ao70 t499.length co70:Value).ownBlock∧k_ ≠ gb443)) (nV (Kd.V_mono HL496_3.out (fun _ hk=>⟨⟨hk.1.1.1,⟨hk.1.1.2.2.1,⟨hk.1.2,⟨hk.2,hk.1.1.2.2.2⟩⟩⟩⟩,hk.1.1.2.1⟩))) hg hat)
         have n9_:=aQ (hb)
         have n10_:=aQ (ho)
         clear HO_4 HO_5 HO_444002 BK443 HL492_3 HL493_3 HL494_3 HL495_3 HL496_3 HB HO_3 HO501
         have HO_4:=n0_
         have HO_5:=n1_
         have HO_444002:=n2_
         have BK443:=n3_
         have HL492_3:=n4_
         have HL493_3:=n5_
         have HL494_3:=n6_
         have HL495_3:=n7_
         have HL496_3:=n8_
         have HB:=n9_
         have HO504:=n10_
         clear n0_ n1_ n2_ n3_ n4_ n5_ n6_ n7_ n8_ n9_ n10_
         clear ho hb hg hat
         refine hK.out _ _ ?_
         clear hK K
         refine nrm (N:=some 150) ?_
         refine pur (i:=17) (N:=some 3) (bn 18 262143) ?_
         refine done_ (done_of HT_.out (by kernel_rfl)) ?_
         try go_wp2
         go_roundg k4
         case measure=>have:=HK1.out;have:=HK2.out;have:=HK3.out;have:=HK4.out;omega
         case rel=>exact ⟨(y502),(wrap64 (x9_4 + 1)),rfl,H',⟨by have:=HK1.out;have:=HK2.out;have:=HK3.out;have:=HK4.out;omega⟩,⟨nN HO504.out⟩,⟨nN (Kd.N_mono HO_4.out (fun _ hk=>⟨hk.1.1,⟨hk.2,⟨hk.1.2.1,hk.1.2.2.2⟩⟩⟩))⟩,⟨nN (Kd.N_mono HO_5.out (fun _ hk=>⟨hk.1.1,⟨hk.2,⟨hk.1.2.1,hk.1.2.2.2⟩⟩⟩))⟩,⟨nV (Kd.V_mono HO_444002.out (fun _ hk=>⟨hk.1.1,⟨hk.2,⟨hk.1.2.1,⟨hk.1.2.2.1,hk.1.2.2.2.2⟩⟩⟩⟩))⟩,⟨nB BK443.out⟩,⟨bB⟩⟩
def laws_szClock.body (g:List (S24) → Int → Option (Int)) (a0_0:Int) (a0_1:Int) (l0_2:List (S24)) (a1:Int):Option (Int):=(g l0_2 a1).bind fun t108=>(if t108 < 0 then (some (-1)) else (some t108))
theorem laws_szClock.body_mono {g g':List (S24) → Int → Option (Int)} (hg:∀ y0 y1,LeO (g y0 y1) (g' y0 y1)):∀ a0_0 a0_1 l0_2 a1,LeO (laws_szClock.body g a0_0 a0_1 l0_2 a1) (laws_szClock.body g' a0_0 a0_1 l0_2 a1):=by
 intro a0_0 a0_1 l0_2 a1
 unfold laws_szClock.body
 repeat' first
   | (with_reducible exact hg _ _)
   | (with_reducible exact LeO.refl _)
   | (with_reducible exact LeO.none _)
   | (with_reducible refine LeO.ite ?_ ?_)
   | (with_reducible refine LeO.bind ?_ (fun _=>?_))
   | exact hg _ _
   | exact LeO.none _
   | refine LeO.ite ?_ ?_
   | refine LeO.bind ?_ (fun _=>?_)
mutual
def laws_szClockS.l0:Nat → List (S24) → Int → Int → Option (Int)
 | 0,_,_,_=>none
 | k + 1,x0,x1,x5=>if x5 < (x0.length:Int) then (if 0 ≤ x5 then ((laws_szClock.body (fun y0 y1=>laws_szClockS.f k y0 y1) ((rd_T24 x0 x5).f0) ((rd_T24 x0 x5).f1) ((rd_T24 x0 x5).f2) x1).bind fun t106=>(if t106 < 0 then (some (-1)) else (laws_szClockS.l0 k x0 t106 (wrap64 (x5 + 1))))) else (none)) else (some x1)
def laws_szClockS.f:Nat → List (S24) → Int → Option (Int)
 | 0,_,_=>none
 | k + 1,l0,a1=>if (wrap64 (a1 - (l0.length:Int))) < 0 then (some (-1)) else (laws_szClockS.l0 k l0 (wrap64 (a1 - (l0.length:Int))) 0)
end
abbrev laws_szClock.f (k:Nat) (a0_0:Int) (a0_1:Int) (l0_2:List (S24)) (a1:Int):Option (Int):=laws_szClock.body (fun y0 y1=>laws_szClockS.f k y0 y1) a0_0 a0_1 l0_2 a1
theorem laws_szClockS.mono_l:∀ k,(∀ y0 y1,LeO (laws_szClockS.f k y0 y1) (laws_szClockS.f (k + 1) y0 y1))∧(∀ y0 y1 y2,LeO (laws_szClockS.l0 k y0 y1 y2) (laws_szClockS.l0 (k + 1) y0 y1 y2))
 | 0=>⟨fun _ _ r h=>by simp [laws_szClockS.f] at h,fun _ _ _ r h=>by simp [laws_szClockS.l0] at h⟩
 | k + 1=>by
  obtain ⟨ih0,ih1⟩:=laws_szClockS.mono_l k
  refine ⟨?_,?_⟩
  ·intro y0 y1
   unfold laws_szClockS.f
   repeat' first
   | (with_reducible exact ih0 _ _)
   | (with_reducible exact ih1 _ _ _)
   | (with_reducible exact laws_szClock.body_mono (fun y0 y1=>ih0 y0 y1) _ _ _ _)
   | (with_reducible exact LeO.refl _)
   | (with_reducible exact LeO.none _)
   | (with_reducible refine LeO.ite ?_ ?_)
   | (with_reducible refine LeO.bind ?_ (fun _=>?_))
   | exact ih0 _ _
   | exact ih1 _ _ _
   | exact LeO.none _
   | refine LeO.ite ?_ ?_
   | refine LeO.bind ?_ (fun _=>?_)
  ·intro y0 y1 y2
   unfold laws_szClockS.l0
   repeat' first
   | (with_reducible exact ih0 _ _)
   | (with_reducible exact ih1 _ _ _)
   | (with_reducible exact laws_szClock.body_mono (fun y0 y1=>ih0 y0 y1) _ _ _ _)
   | (with_reducible exact LeO.refl _)
   | (with_reducible exact LeO.none _)
   | (with_reducible refine LeO.ite ?_ ?_)
   | (with_reducible refine LeO.bind ?_ (fun _=>?_))
   | exact ih0 _ _
   | exact ih1 _ _ _
   | exact LeO.none _
   | refine LeO.ite ?_ ?_
   | refine LeO.bind ?_ (fun _=>?_)
theorem laws_szClockS.mono:∀ a0 a1 k,LeO (laws_szClockS.f k a0 a1) (laws_szClockS.f (k + 1) a0 a1):=by
 intro a0 a1 k
 obtain ⟨ih0,ih1⟩:=laws_szClockS.mono_l k
 exact ih0 a0 a1
theorem laws_szClock.mono:∀ a0_0 a0_1 l0_2 a1 k,LeO (laws_szClock.f k a0_0 a0_1 l0_2 a1) (laws_szClock.f (k + 1) a0_0 a0_1 l0_2 a1):=fun a0_0 a0_1 l0_2 a1 k=>laws_szClock.body_mono (fun y0 y1=>laws_szClockS.mono y0 y1 k) a0_0 a0_1 l0_2 a1
abbrev laws_szClockS.Con (k:Nat):Prop:=∀ (A0:Option Addr) (c0:Nat) (l0:List (S24)) (a1:Int) (r:Int) (w:World) (hr0:Kd.C k24 w A0 l0.length l0) (hc0:l0.length ≤ c0) (h:laws_szClockS.f k l0 a1 = some r),
  Calls Try.prog 38 #[.slice A0 l0.length c0,.int .i64 a1] w fun e w'=>e = .returned (.int .i64 r)∧Below w.heap.size w w'
set_option maxHeartbeats 8000000 in
set_option maxRecDepth 100000 in
theorem laws_szClock.calls_of (k:Nat) (ihS:∀ j_,j_ ≤ k → laws_szClockS.Con j_) (a0_0:Int) (a0_1:Int) (A0_2:Option Addr) (c0_2:Nat) (l0_2:List (S24)) (a1:Int) (r:Int) (w:World) (hr0_2:Kd.C k24 w A0_2 l0_2.length l0_2) (hc0_2:l0_2.length ≤ c0_2) (h:laws_szClock.f k a0_0 a0_1 l0_2 a1 = some r) :
  Calls Try.prog 13 #[.agg #[.int .i64 a0_0,.int .i64 a0_1,.slice A0_2 l0_2.length c0_2],.int .i64 a1] w fun e w'=>e = .returned (.int .i64 r)∧Below w.heap.size w w':=by
 have hu24:=Try.underlying24
 have HR0_2:=aQ hr0_2
 have HC0_2:=aQ hc0_2
 clear hr0_2 hc0_2
 have HB:=aQ (Below.refl w.heap.size w)
 have H:=h
 clear h
 obtain ⟨t108,A3,H⟩:=bQ H
 (try dsimp only at H)
 by_cases c4:t108 < 0
 ·rw [if_pos c4] at H
  have c4b0:decide (t108 < 0) = true:=decide_eq_true c4
  clear c4
  obtain rfl:=Option.some.inj H
  go_enter Try.func13,Try.ntmps13
  go_wp2_with (first | ((with_reducible refine gate_dst (N:=2) rfl ?_);refine box1 (N:=2) (cs:=#[.int .i64 a0_0,.int .i64 a0_1,.slice A0_2 l0_2.length c0_2]) (t:=24) ?_;intro gb107 hg w5 hbox hb;have BK107:=aQ (hbox);have GW107:=aQ ((by rw [hg];exact (below_size bB):w.heap.size ≤ gb107));have GE107:=aQ ((by rw [hg];exact (below_size bB):w.heap.size ≤ gb107));replace HB:=aQ (below_step bB hb);clear hb hbox hg;have hcz6_0:w5.cell? ⟨gb107,0,none⟩ = some (.int .i64 a0_0):=(blk_cell BK107.out 0).trans rfl;have hcz6_1:w5.cell? ⟨gb107,1,none⟩ = some (.int .i64 a0_1):=(blk_cell BK107.out 1).trans rfl;have hcz6_2:w5.cell? ⟨gb107,2,none⟩ = some (.slice A0_2 l0_2.length c0_2):=(blk_cell BK107.out 2).trans rfl;have hfz6_0:=blk_frozen BK107.out 0;have hfz6_1:=blk_frozen BK107.out 1;have hfz6_2:=blk_frozen BK107.out 2) | ((with_reducible refine gate_callee (f:=38) rfl ?_);refine goesL_ (some 8) rfl rfl Try.func38 (by kernel_rfl) rfl #[.slice A0_2 l0_2.length c0_2,.int .i64 a1] rfl mP ?_;(with_reducible refine (ihS k (Nat.le_refl _) _ _ l0_2 a1 t108 _ ?side1 ?side2 A3.out).mono ?_);(case side1=>repeat (first | exact (Kd.C_below HR0_2.out HB.out) | (with_reducible refine Kd.C_alloc ?_ _) | (with_reducible refine Kd.C_drewN ?_ _) | (with_reducible refine Kd.C_drew ?_)));(case side2=>exact HC0_2.out);rintro e w7 ⟨rfl,hb⟩;refine ⟨_,rfl,?_⟩;replace BK107:=aQ (blk_below (g:=gb107) (o:=.cells #[.int .i64 a0_0,.int .i64 a0_1,.slice A0_2 l0_2.length c0_2] 24 (0,0)) (nB BK107.out) hb);replace HB:=aQ (below_step bB hb);(try clear hb)))
  go_ret
  exact ⟨rfl,bB⟩
 rw [if_neg c4] at H
 have c4b0:decide (t108 < 0) = false:=decide_eq_false c4
 clear c4
 obtain rfl:=Option.some.inj H
 go_enter Try.func13,Try.ntmps13
 go_wp2_with (first | ((with_reducible refine gate_dst (N:=2) rfl ?_);refine box1 (N:=2) (cs:=#[.int .i64 a0_0,.int .i64 a0_1,.slice A0_2 l0_2.length c0_2]) (t:=24) ?_;intro gb107 hg w8 hbox hb;have BK107:=aQ (hbox);have GW107:=aQ ((by rw [hg];exact (below_size bB):w.heap.size ≤ gb107));have GE107:=aQ ((by rw [hg];exact (below_size bB):w.heap.size ≤ gb107));replace HB:=aQ (below_step bB hb);clear hb hbox hg;have hcz9_0:w8.cell? ⟨gb107,0,none⟩ = some (.int .i64 a0_0):=(blk_cell BK107.out 0).trans rfl;have hcz9_1:w8.cell? ⟨gb107,1,none⟩ = some (.int .i64 a0_1):=(blk_cell BK107.out 1).trans rfl;have hcz9_2:w8.cell? ⟨gb107,2,none⟩ = some (.slice A0_2 l0_2.length c0_2):=(blk_cell BK107.out 2).trans rfl;have hfz9_0:=blk_frozen BK107.out 0;have hfz9_1:=blk_frozen BK107.out 1;have hfz9_2:=blk_frozen BK107.out 2) | ((with_reducible refine gate_callee (f:=38) rfl ?_);refine goesL_ (some 8) rfl rfl Try.func38 (by kernel_rfl) rfl #[.slice A0_2 l0_2.length c0_2,.int .i64 a1] rfl mP ?_;(with_reducible refine (ihS k (Nat.le_refl _) _ _ l0_2 a1 t108 _ ?side1 ?side2 A3.out).mono ?_);(case side1=>repeat (first | exact (Kd.C_below HR0_2.out HB.out) | (with_reducible refine Kd.C_alloc ?_ _) | (with_reducible refine Kd.C_drewN ?_ _) | (with_reducible refine Kd.C_drew ?_)));(case side2=>exact HC0_2.out);rintro e w10 ⟨rfl,hb⟩;refine ⟨_,rfl,?_⟩;replace BK107:=aQ (blk_below (g:=gb107) (o:=.cells #[.int .i64 a0_0,.int .i64 a0_1,.slice A0_2 l0_2.length c0_2] 24 (0,0)) (nB BK107.out) hb);replace HB:=aQ (below_step bB hb);(try clear hb)))
 go_ret
 exact ⟨rfl,bB⟩
set_option maxHeartbeats 8000000 in
set_option maxRecDepth 100000 in
theorem laws_szClockS.calls (k:Nat):∀ (A0:Option Addr) (c0:Nat) (l0:List (S24)) (a1:Int) (r:Int) (w:World) (hr0:Kd.C k24 w A0 l0.length l0) (hc0:l0.length ≤ c0) (h:laws_szClockS.f k l0 a1 = some r),
  Calls Try.prog 38 #[.slice A0 l0.length c0,.int .i64 a1] w fun e w'=>e = .returned (.int .i64 r)∧Below w.heap.size w w':=by
 induction k using Nat.strongRecOn with
 | _ k ih =>
 intro A0 c0 l0 a1 r w hr0 hc0 h
 cases k with
 | zero=>exact absurd h (by simp [laws_szClockS.f])
 | succ k =>
 simp only [laws_szClockS.f] at h
 have hu24:=Try.underlying24
 have HR0:=aQ hr0
 have HC0:=aQ hc0
 clear hr0 hc0
 have HB:=aQ (Below.refl w.heap.size w)
 have H:=h
 clear h
 by_cases c3:(wrap64 (a1 - (l0.length:Int))) < 0
 ·rw [if_pos c3] at H
  have c3b0:decide ((wrap64 (a1 - (l0.length:Int))) < 0) = true:=decide_eq_true c3
  clear c3
  obtain rfl:=Option.some.inj H
  go_enter Try.func38,Try.ntmps38
  go_wp2
  go_ret
  exact ⟨rfl,bB⟩
 rw [if_neg c3] at H
 have c3b0:decide ((wrap64 (a1 - (l0.length:Int))) < 0) = false:=decide_eq_false c3
 clear c3
 have H':=aQ H
 clear H
 go_enter Try.func38,Try.ntmps38
 go_wp2
 go_loopg [1,5] k (fun kq v1 v5 w'=>∃ (x1_1:Int) (x5_1:Int),v1 = .int .i64 x1_1∧v5 = .int .i64 x5_1∧Aside0 (laws_szClockS.l0 kq l0 x1_1 x5_1 = some r)∧Aside0 (kq ≤ k)∧Aside0 (Below w.heap.size w w'))
 case atStart=>exact ⟨(wrap64 (a1 - (l0.length:Int))),(0),rfl,rfl,H',⟨Nat.le_refl _⟩,⟨bB⟩⟩
 case round =>
  clear H'
  try clear c3b0
  repeat (first | clear HB)
  obtain ⟨x1_1,x5_1,rfl,rfl,HA,HK1,HB⟩:=hrel
  cases gk with
  | zero=>exact absurd HA.out (by simp [laws_szClockS.l0])
  | succ k1 =>
   have H:=HA.out
   clear HA
   simp only [laws_szClockS.l0] at H
   by_cases c4:x5_1 < (l0.length:Int);rotate_left
   ·rw [if_neg c4] at H
    have c4b0:decide (x5_1 < (l0.length:Int)) = false:=decide_eq_false c4
    clear c4
    obtain rfl:=Option.some.inj H
    go_wp2
    go_ret
    exact ⟨rfl,bB⟩
   rw [if_pos c4] at H
   have c4b0:decide (x5_1 < (l0.length:Int)) = true:=decide_eq_true c4
   clear c4
   by_cases c5:0 ≤ x5_1;rotate_left
   ·rw [if_neg c5] at H
    exact absurd H (by simp)
   rw [if_pos c5] at H
   have c5b0:decide (0 ≤ x5_1) = true:=decide_eq_true c5
   clear c5
   obtain ⟨t106,A6,H⟩:=bQ H
   (try dsimp only at H)
   by_cases c7:t106 < 0
   ·rw [if_pos c7] at H
    have c7b0:decide (t106 < 0) = true:=decide_eq_true c7
    clear c7
    obtain rfl:=Option.some.inj H
    have p105:0 ≤ (x5_1:Int):=of_decide_eq_true (by first | (with_reducible assumption) | assumption)
    have q105:x5_1 < (l0.length:Int):=of_decide_eq_true (by first | (with_reducible assumption) | assumption)
    obtain ⟨ad105,A105_2,c105_2,e105,hx105_0,hx105_1,hx105_2,hl105_2,hi105_2⟩:=at_T24 HR0.out x5_1 p105 q105
    cases e105
    replace hx105_0:=(HB.out.cell (World.block_lt_of_cell? w _ hx105_0)).trans hx105_0
    replace hx105_1:=(HB.out.cell (World.block_lt_of_cell? w _ hx105_1)).trans hx105_1
    replace hx105_2:=(HB.out.cell (World.block_lt_of_cell? w _ hx105_2)).trans hx105_2
    have HR105_2:=aQ hi105_2
    have HC105_2:=aQ hl105_2
    clear hi105_2 hl105_2
    replace p105:=eq_true p105
    replace q105:=eq_true q105
    go_wp2_with (first | ((with_reducible refine gate_callee (f:=13) rfl ?_);refine goesL_ (some 23) rfl rfl Try.func13 (by kernel_rfl) rfl #[.agg #[.int .i64 ((rd_T24 l0 x5_1).f0),.int .i64 ((rd_T24 l0 x5_1).f1),.slice A105_2 ((rd_T24 l0 x5_1).f2).length c105_2],.int .i64 x1_1] rfl mP ?_;(with_reducible refine (laws_szClock.calls_of k1 (fun j_ hj_=>ih j_ (by first | omega | (have:=HK1.out;omega) | (have:=HK1.out;have:=HK2.out;omega))) ((rd_T24 l0 x5_1).f0) ((rd_T24 l0 x5_1).f1) _ _ ((rd_T24 l0 x5_1).f2) x1_1 t106 _ ?side1 ?side2 A6.out).mono ?_);(case side1=>repeat (first | exact (Kd.C_below HR105_2.out HB.out) | (with_reducible refine Kd.C_alloc ?_ _) | (with_reducible refine Kd.C_drewN ?_ _) | (with_reducible refine Kd.C_drew ?_)));(case side2=>exact HC105_2.out);rintro e w8 ⟨rfl,hb⟩;refine ⟨_,rfl,?_⟩;replace HB:=aQ (below_step bB hb);(try clear hb)))
    go_ret
    exact ⟨rfl,bB⟩
   rw [if_neg c7] at H
   have c7b0:decide (t106 < 0) = false:=decide_eq_false c7
   clear c7
   have H':=aQ H
   clear H
   have p105:0 ≤ (x5_1:Int):=of_decide_eq_true (by first | (with_reducible assumption) | assumption)
   have q105:x5_1 < (l0.length:Int):=of_decide_eq_true (by first | (with_reducible assumption) | assumption)
   obtain ⟨ad105,A105_2,c105_2,e105,hx105_0,hx105_1,hx105_2,hl105_2,hi105_2⟩:=at_T24 HR0.out x5_1 p105 q105
   cases e105
   replace hx105_0:=(HB.out.cell (World.block_lt_of_cell? w _ hx105_0)).trans hx105_0
   replace hx105_1:=(HB.out.cell (World.block_lt_of_cell? w _ hx105_1)).trans hx105_1
   replace hx105_2:=(HB.out.cell (World.block_lt_of_cell? w _ hx105_2)).trans hx105_2
   have HR105_2:=aQ hi105_2
   have HC105_2:=aQ hl105_2
   clear hi105_2 hl105_2
   replace p105:=eq_true p105
   replace q105:=eq_true q105
   go_wp2_with (first | ((with_reducible refine gate_callee (f:=13) rfl ?_);refine goesL_ (some 23) rfl rfl Try.func13 (by kernel_rfl) rfl #[.agg #[.int .i64 ((rd_T24 l0 x5_1).f0),.int .i64 ((rd_T24 l0 x5_1).f1),.slice A105_2 ((rd_T24 l0 x5_1).f2).length c105_2],.int .i64 x1_1] rfl mP ?_;(with_reducible refine (laws_szClock.calls_of k1 (fun j_ hj_=>ih j_ (by first | omega | (have:=HK1.out;omega) | (have:=HK1.out;have:=HK2.out;omega))) ((rd_T24 l0 x5_1).f0) ((rd_T24 l0 x5_1).f1) _ _ ((rd_T24 l0 x5_1).f2) x1_1 t106 _ ?side1 ?side2 A6.out).mono ?_);(case side1=>repeat (first | exact (Kd.C_below HR105_2.out HB.out) | (with_reducible refine Kd.C_alloc ?_ _) | (with_reducible refine Kd.C_drewN ?_ _) | (with_reducible refine Kd.C_drew ?_)));(case side2=>exact HC105_2.out);rintro e w9 ⟨rfl,hb⟩;refine ⟨_,rfl,?_⟩;replace HB:=aQ (below_step bB hb);(try clear hb)))
   go_roundg k1
   case measure=>have:=HK1.out;omega
   case rel=>exact ⟨(t106),(wrap64 (x5_1 + 1)),rfl,rfl,H',⟨by have:=HK1.out;omega⟩,⟨bB⟩⟩
theorem laws_szClock.calls (k:Nat) (a0_0:Int) (a0_1:Int) (A0_2:Option Addr) (c0_2:Nat) (l0_2:List (S24)) (a1:Int) (r:Int) (w:World) (hr0_2:Kd.C k24 w A0_2 l0_2.length l0_2) (hc0_2:l0_2.length ≤ c0_2) (h:laws_szClock.f k a0_0 a0_1 l0_2 a1 = some r) :
  Calls Try.prog 13 #[.agg #[.int .i64 a0_0,.int .i64 a0_1,.slice A0_2 l0_2.length c0_2],.int .i64 a1] w fun e w'=>e = .returned (.int .i64 r)∧Below w.heap.size w w':=laws_szClock.calls_of k (fun j_ _=>laws_szClockS.calls j_) a0_0 a0_1 A0_2 c0_2 l0_2 a1 r w hr0_2 hc0_2 h
def laws_toClock.body (g:List (S24) → Option ((List (S29)))) (a0_0:Int) (a0_1:Int) (l0_2:List (S24)):Option (Int × Int × (List (S29))):=(g l0_2).bind fun t147=>(some (a0_0,a0_1,t147))
theorem laws_toClock.body_mono {g g':List (S24) → Option ((List (S29)))} (hg:∀ y0,LeO (g y0) (g' y0)):∀ a0_0 a0_1 l0_2,LeO (laws_toClock.body g a0_0 a0_1 l0_2) (laws_toClock.body g' a0_0 a0_1 l0_2):=by
 intro a0_0 a0_1 l0_2
 unfold laws_toClock.body
 repeat' first
   | (with_reducible exact hg _)
   | (with_reducible exact LeO.refl _)
   | (with_reducible exact LeO.none _)
   | (with_reducible refine LeO.ite ?_ ?_)
   | (with_reducible refine LeO.bind ?_ (fun _=>?_))
   | exact hg _
   | exact LeO.none _
   | refine LeO.ite ?_ ?_
   | refine LeO.bind ?_ (fun _=>?_)
mutual
def laws_toClockS.l0:Nat → List (S24) → List (S29) → Int → Option ((List (S29)))
 | 0,_,_,_=>none
 | k + 1,x0,x3,x4=>if x4 < (x0.length:Int) then (if 0 ≤ x4 then ((laws_toClock.body (fun y0=>laws_toClockS.f k y0) ((rd_T24 x0 x4).f0) ((rd_T24 x0 x4).f1) ((rd_T24 x0 x4).f2)).bind fun bt138=>(if x4 < (x3.length:Int) then (laws_toClockS.l0 k x0 (x3.set (x4:Int).toNat (⟨bt138.1,bt138.2.1,bt138.2.2⟩:S29)) (wrap64 (x4 + 1))) else (none))) else (none)) else (some x3)
def laws_toClockS.f:Nat → List (S24) → Option ((List (S29)))
 | 0,_=>none
 | k + 1,l0=>if 0 ≤ (l0.length:Int) then (if ((l0.length:Int):Int).toNat ≤ 7036874417766 then (laws_toClockS.l0 k l0 (List.replicate ((l0.length:Int):Int).toNat z29) 0) else (none)) else (none)
end
abbrev laws_toClock.f (k:Nat) (a0_0:Int) (a0_1:Int) (l0_2:List (S24)):Option (Int × Int × (List (S29))):=laws_toClock.body (fun y0=>laws_toClockS.f k y0) a0_0 a0_1 l0_2
theorem laws_toClockS.mono_l:∀ k,(∀ y0,LeO (laws_toClockS.f k y0) (laws_toClockS.f (k + 1) y0))∧(∀ y0 y1 y2,LeO (laws_toClockS.l0 k y0 y1 y2) (laws_toClockS.l0 (k + 1) y0 y1 y2))
 | 0=>⟨fun _ r h=>by simp [laws_toClockS.f] at h,fun _ _ _ r h=>by simp [laws_toClockS.l0] at h⟩
 | k + 1=>by
  obtain ⟨ih0,ih1⟩:=laws_toClockS.mono_l k
  refine ⟨?_,?_⟩
  ·intro y0
   unfold laws_toClockS.f
   repeat' first
   | (with_reducible exact ih0 _)
   | (with_reducible exact ih1 _ _ _)
   | (with_reducible exact laws_toClock.body_mono (fun y0=>ih0 y0) _ _ _)
   | (with_reducible exact LeO.refl _)
   | (with_reducible exact LeO.none _)
   | (with_reducible refine LeO.ite ?_ ?_)
   | (with_reducible refine LeO.bind ?_ (fun _=>?_))
   | exact ih0 _
   | exact ih1 _ _ _
   | exact LeO.none _
   | refine LeO.ite ?_ ?_
   | refine LeO.bind ?_ (fun _=>?_)
  ·intro y0 y1 y2
   unfold laws_toClockS.l0
   repeat' first
   | (with_reducible exact ih0 _)
   | (with_reducible exact ih1 _ _ _)
   | (with_reducible exact laws_toClock.body_mono (fun y0=>ih0 y0) _ _ _)
   | (with_reducible exact LeO.refl _)
   | (with_reducible exact LeO.none _)
   | (with_reducible refine LeO.ite ?_ ?_)
   | (with_reducible refine LeO.bind ?_ (fun _=>?_))
   | exact ih0 _
   | exact ih1 _ _ _
   | exact LeO.none _
   | refine LeO.ite ?_ ?_
   | refine LeO.bind ?_ (fun _=>?_)
theorem laws_toClockS.mono:∀ a0 k,LeO (laws_toClockS.f k a0) (laws_toClockS.f (k + 1) a0):=by
 intro a0 k
 obtain ⟨ih0,ih1⟩:=laws_toClockS.mono_l k
 exact ih0 a0
theorem laws_toClock.mono:∀ a0_0 a0_1 l0_2 k,LeO (laws_toClock.f k a0_0 a0_1 l0_2) (laws_toClock.f (k + 1) a0_0 a0_1 l0_2):=fun a0_0 a0_1 l0_2 k=>laws_toClock.body_mono (fun y0=>laws_toClockS.mono y0 k) a0_0 a0_1 l0_2
abbrev laws_toClockS.Con (k:Nat):Prop:=∀ (A0:Option Addr) (c0:Nat) (l0:List (S24)) (r:List (S29)) (w:World) (hr0:Kd.C k24 w A0 l0.length l0) (hc0:l0.length ≤ c0) (h:laws_toClockS.f k l0 = some r),
  Calls Try.prog 41 #[.slice A0 l0.length c0] w fun e w'=>∃ v0_:Value,e = .returned (v0_)∧Kd.R k29 29 w' w.heap.size (fun _=>True) v0_ r∧Below w.heap.size w w'
set_option maxHeartbeats 8000000 in
set_option maxRecDepth 100000 in
theorem laws_toClock.calls_of (k:Nat) (ihS:∀ j_,j_ ≤ k → laws_toClockS.Con j_) (a0_0:Int) (a0_1:Int) (A0_2:Option Addr) (c0_2:Nat) (l0_2:List (S24)) (r1:Int) (r2:Int) (r3:List (S29)) (w:World) (hr0_2:Kd.C k24 w A0_2 l0_2.length l0_2) (hc0_2:l0_2.length ≤ c0_2) (h:laws_toClock.f k a0_0 a0_1 l0_2 = some (r1,r2,r3)) :
  Calls Try.prog 15 #[.agg #[.int .i64 a0_0,.int .i64 a0_1,.slice A0_2 l0_2.length c0_2]] w fun e w'=>∃ v2_:Value,e = .returned (.agg #[.int .i64 r1,.int .i64 r2,v2_])∧Kd.R k29 29 w' w.heap.size (fun _=>True) v2_ r3∧Below w.heap.size w w':=by
 have hu24:=Try.underlying24
 have hu29:=Try.underlying29
 have HR0_2:=aQ hr0_2
 have HC0_2:=aQ hc0_2
 clear hr0_2 hc0_2
 have HB:=aQ (Below.refl w.heap.size w)
 have H:=h
 clear h
 obtain ⟨t147,A2,H⟩:=bQ H
 (try dsimp only at H)
 simp only [Option.some.injEq,Prod.mk.injEq] at H
 obtain ⟨rfl,rfl,rfl⟩:=H
 go_enter Try.func15,Try.ntmps15
 go_wp2_with (first | ((with_reducible refine gate_dst (N:=1) rfl ?_);refine box1 (N:=1) (cs:=#[.int .i64 a0_0,.int .i64 a0_1,.slice A0_2 l0_2.length c0_2]) (t:=24) ?_;intro gb144 hg w3 hbox hb;have BK144:=aQ (hbox);have GW144:=aQ ((by rw [hg];exact (below_size bB):w.heap.size ≤ gb144));have GE144:=aQ ((by rw [hg];exact (below_size bB):w.heap.size ≤ gb144));replace HB:=aQ (below_step bB hb);clear hb hbox hg) | ((with_reducible refine gate_dst (N:=2) rfl ?_);refine box1 (N:=2) (cs:=#[.int .i64 0,.int .i64 0,.slice none 0 0]) (t:=29) ?_;intro gb145 hg w4 hbox hb;have BK145:=aQ (hbox);have GW145:=aQ ((by rw [hg];exact (below_size bB):w.heap.size ≤ gb145));have GE145:=aQ ((by rw [hg];exact (below_size bB):w.heap.size ≤ gb145));replace HB:=aQ (below_step bB hb);have NB144_145:=aQ ((by rw [hg];exact Nat.ne_of_lt (blk_lt (g:=gb144) (o:=.cells #[.int .i64 a0_0,.int .i64 a0_1,.slice A0_2 l0_2.length c0_2] 24 (0,0)) (nB BK144.out)):gb144 ≠ gb145));have NB145_144:=aQ ((by rw [hg];exact Nat.ne_of_gt (blk_lt (g:=gb144) (o:=.cells #[.int .i64 a0_0,.int .i64 a0_1,.slice A0_2 l0_2.length c0_2] 24 (0,0)) (nB BK144.out)):gb145 ≠ gb144));replace BK144:=aQ (blk_below (g:=gb144) (o:=.cells #[.int .i64 a0_0,.int .i64 a0_1,.slice A0_2 l0_2.length c0_2] 24 (0,0)) (nB BK144.out) hb);clear hb hbox hg) | ((with_reducible refine gate_dst (N:=3) rfl ?_);refine box1 (N:=3) (cs:=#[.int .i64 0,.int .i64 0,.slice none 0 0]) (t:=29) ?_;intro gb146 hg w5 hbox hb;have BK146:=aQ (hbox);have GW146:=aQ ((by rw [hg];exact (below_size bB):w.heap.size ≤ gb146));have GE146:=aQ ((by rw [hg];exact (below_size bB):w.heap.size ≤ gb146));replace HB:=aQ (below_step bB hb);have NB144_146:=aQ ((by rw [hg];exact Nat.ne_of_lt (blk_lt (g:=gb144) (o:=.cells #[.int .i64 a0_0,.int .i64 a0_1,.slice A0_2 l0_2.length c0_2] 24 (0,0)) (nB BK144.out)):gb144 ≠ gb146));have NB146_144:=aQ ((by rw [hg];exact Nat.ne_of_gt (blk_lt (g:=gb144) (o:=.cells #[.int .i64 a0_0,.int .i64 a0_1,.slice A0_2 l0_2.length c0_2] 24 (0,0)) (nB BK144.out)):gb146 ≠ gb144));replace BK144:=aQ (blk_below (g:=gb144) (o:=.cells #[.int .i64 a0_0,.int .i64 a0_1,.slice A0_2 l0_2.length c0_2] 24 (0,0)) (nB BK144.out) hb);have NB145_146:=aQ ((by rw [hg];exact Nat.ne_of_lt (blk_lt (g:=gb145) (o:=.cells #[.int .i64 0,.int .i64 0,.slice none 0 0] 29 (0,0)) (nB BK145.out)):gb145 ≠ gb146));have NB146_145:=aQ ((by rw [hg];exact Nat.ne_of_gt (blk_lt (g:=gb145) (o:=.cells #[.int .i64 0,.int .i64 0,.slice none 0 0] 29 (0,0)) (nB BK145.out)):gb146 ≠ gb145));replace BK145:=aQ (blk_below (g:=gb145) (o:=.cells #[.int .i64 0,.int .i64 0,.slice none 0 0] 29 (0,0)) (nB BK145.out) hb);clear hb hbox hg;have hnb6:=NB144_145.out;have hnc6:=NB145_144.out;have hnb7:=NB144_146.out;have hnc7:=NB146_144.out;have hcz8_0:w5.cell? ⟨gb144,0,none⟩ = some (.int .i64 a0_0):=(blk_cell BK144.out 0).trans rfl;have hcz8_1:w5.cell? ⟨gb144,1,none⟩ = some (.int .i64 a0_1):=(blk_cell BK144.out 1).trans rfl;have hcz8_2:w5.cell? ⟨gb144,2,none⟩ = some (.slice A0_2 l0_2.length c0_2):=(blk_cell BK144.out 2).trans rfl;have hfz8_0:=blk_frozen BK144.out 0;have hfz8_1:=blk_frozen BK144.out 1;have hfz8_2:=blk_frozen BK144.out 2;have hnb9:=NB146_145.out;have hnc9:=NB145_146.out;have hcz10_0:w5.cell? ⟨gb146,0,none⟩ = some (.int .i64 0):=(blk_cell BK146.out 0).trans rfl;have hcz10_1:w5.cell? ⟨gb146,1,none⟩ = some (.int .i64 0):=(blk_cell BK146.out 1).trans rfl;have hcz10_2:w5.cell? ⟨gb146,2,none⟩ = some (.slice none 0 0):=(blk_cell BK146.out 2).trans rfl;have hfz10_0:=blk_frozen BK146.out 0;have hfz10_1:=blk_frozen BK146.out 1;have hfz10_2:=blk_frozen BK146.out 2) | ((with_reducible refine gate_callee (f:=41) rfl ?_);refine goesL_ (some 12) rfl rfl Try.func41 (by kernel_rfl) rfl #[.slice A0_2 l0_2.length c0_2] rfl mP ?_;(with_reducible refine (ihS k (Nat.le_refl _) _ _ l0_2 t147 _ ?side1 ?side2 A2.out).mono ?_);(case side1=>exact Kd.C_below HR0_2.out bB);(case side2=>exact HC0_2.out);rintro e w11 ⟨v148,rfl,ho0,hb⟩;refine ⟨_,rfl,?_⟩;have HO149:=aQ (Kd.R_lower (Kd.R_newB (Kd.R_newB ho0 (g:=gb145) (o:=.cells #[.int .i64 0,.int .i64 0,.slice none 0 0] 29 (0,0)) bF) (g:=gb146) (o:=.cells #[.int .i64 a0_0,.int .i64 a0_1,.slice none 0 0] 29 (0,0)) bP) (below_size bB));replace BK144:=aQ (blk_below (g:=gb144) (o:=.cells #[.int .i64 a0_0,.int .i64 a0_1,.slice A0_2 l0_2.length c0_2] 24 (0,0)) bF hb);replace BK145:=aQ (blk_below (g:=gb145) (o:=.cells #[.int .i64 0,.int .i64 0,.slice none 0 0] 29 (0,0)) bF hb);replace BK146:=aQ (blk_below (g:=gb146) (o:=.cells #[.int .i64 a0_0,.int .i64 a0_1,.slice none 0 0] 29 (0,0)) bP hb);replace HB:=aQ (below_step bB hb);(try clear hb);(try clear ho0);obtain ⟨Ao12,co12,eo12⟩:=Kd.R_slice HO149.out;subst eo12;have hcz13_0:w11.cell? ⟨gb146,0,none⟩ = some (.int .i64 a0_0):=(blk_cell BK146.out 0).trans rfl;have hcz13_1:w11.cell? ⟨gb146,1,none⟩ = some (.int .i64 a0_1):=(blk_cell BK146.out 1).trans rfl;have hcz13_2:w11.cell? ⟨gb146,2,none⟩ = some (.slice none 0 0):=(blk_cell BK146.out 2).trans rfl;have hfz13_0:=blk_frozen BK146.out 0;have hfz13_1:=blk_frozen BK146.out 1;have hfz13_2:=blk_frozen BK146.out 2;have hcz14_0:w11.cell? ⟨gb145,0,none⟩ = some (.int .i64 0):=(blk_cell BK145.out 0).trans rfl;have hcz14_1:w11.cell? ⟨gb145,1,none⟩ = some (.int .i64 0):=(blk_cell BK145.out 1).trans rfl;have hcz14_2:w11.cell? ⟨gb145,2,none⟩ = some (.slice none 0 0):=(blk_cell BK145.out 2).trans rfl;have hfz14_0:=blk_frozen BK145.out 0;have hfz14_1:=blk_frozen BK145.out 1;have hfz14_2:=blk_frozen BK145.out 2))
 refine bodyPost_ret (results_cell_row rfl _ _ gb145 29 #[.int .i64 a0_0,.int .i64 a0_1,.slice Ao12 t147.length co12] (0,0) _ rfl (by (with_reducible repeat (first | refine blk_drewN ?_ _ | refine blk_drew ?_ | refine blk_alloc ?_ _));refine blk_put (cs:=#[.int .i64 a0_0,.int .i64 a0_1,.slice none 0 0]) ?_ 2 _ rfl;(with_reducible repeat (first | refine blk_drewN ?_ _ | refine blk_drew ?_ | refine blk_alloc ?_ _));refine blk_put (cs:=#[.int .i64 a0_0,.int .i64 0,.slice none 0 0]) ?_ 1 _ rfl;(with_reducible repeat (first | refine blk_drewN ?_ _ | refine blk_drew ?_ | refine blk_alloc ?_ _));refine blk_put (cs:=#[.int .i64 0,.int .i64 0,.slice none 0 0]) ?_ 0 _ rfl;(with_reducible repeat (first | refine blk_drewN ?_ _ | refine blk_drew ?_ | refine blk_alloc ?_ _));refine blk_far ?_ NB145_146.out _;(with_reducible repeat (first | refine blk_drewN ?_ _ | refine blk_drew ?_ | refine blk_alloc ?_ _));exact BK145.out) Try.underlying29 rfl (by kernel_rfl)) rfl ?_
 exact ⟨_,rfl,by (with_reducible repeat (first | apply Kd.R_alloc | apply Kd.R_drewN | apply Kd.R_drew));exact Kd.R_mono (Kd.R_far (p:=⟨gb145,2,none⟩) (Kd.R_far (p:=⟨gb145,1,none⟩) (Kd.R_far (p:=⟨gb145,0,none⟩) (Kd.R_far (p:=⟨gb146,2,none⟩) (Kd.R_mono (Kd.R_mono HO149.out (fun k_ hk=>(⟨hk,hk.2⟩:_∧k_ ≠ gb146))) (fun k_ hk=>(⟨hk,hk.1.1.2⟩:_∧k_ ≠ gb145))) (fun _ hk=>hk.1.2) (.slice Ao12 t147.length co12)) (fun _ hk=>hk.2) (.int .i64 a0_0)) (fun _ hk=>hk.2) (.int .i64 a0_1)) (fun _ hk=>hk.2) (.slice Ao12 t147.length co12)) (fun _ hk=>trivial),bB⟩
set_option maxHeartbeats 8000000 in
set_option maxRecDepth 100000 in
theorem laws_toClockS.calls (k:Nat):∀ (A0:Option Addr) (c0:Nat) (l0:List (S24)) (r:List (S29)) (w:World) (hr0:Kd.C k24 w A0 l0.length l0) (hc0:l0.length ≤ c0) (h:laws_toClockS.f k l0 = some r),
  Calls Try.prog 41 #[.slice A0 l0.length c0] w fun e w'=>∃ v0_:Value,e = .returned (v0_)∧Kd.R k29 29 w' w.heap.size (fun _=>True) v0_ r∧Below w.heap.size w w':=by
 induction k using Nat.strongRecOn with
 | _ k ih =>
 intro A0 c0 l0 r w hr0 hc0 h
 cases k with
 | zero=>exact absurd h (by simp [laws_toClockS.f])
 | succ k =>
 simp only [laws_toClockS.f] at h
 have hu24:=Try.underlying24
 have hu29:=Try.underlying29
 have HR0:=aQ hr0
 have HC0:=aQ hc0
 clear hr0 hc0
 have HB:=aQ (Below.refl w.heap.size w)
 have H:=h
 clear h
 by_cases c2:0 ≤ (l0.length:Int);rotate_left
 ·rw [if_neg c2] at H
  exact absurd H (by simp)
 rw [if_pos c2] at H
 have c2b0:=eq_true c2
 have c2b1:decide (0 ≤ (l0.length:Int)) = true:=decide_eq_true c2
 clear c2
 by_cases c3:((l0.length:Int):Int).toNat ≤ 7036874417766;rotate_left
 ·rw [if_neg c3] at H
  exact absurd H (by simp)
 rw [if_pos c3] at H
 have c3b0:=eq_true c3
 have c3b1:decide (((l0.length:Int):Int).toNat ≤ 7036874417766) = true:=decide_eq_true c3
 clear c3
 obtain ⟨y134,hy134⟩:∃ y_:List (S29),y_ = (List.replicate ((l0.length:Int):Int).toNat z29):=⟨_,rfl⟩
 replace H:(laws_toClockS.l0 k l0 y134 0) = some r:=by rw [hy134];exact H
 have Ny134:=aQ hy134
 clear hy134
 have H':=aQ H
 clear H
 go_enter Try.func41,Try.ntmps41
 go_wp2_with (first | ((with_reducible refine gate_dst (N:=7) rfl ?_);refine Kd.R_make k29 _ 29 rfl (N:=7) rfl 27 _ _ rfl (l0.length:Int) rfl rfl Try.underlying27 (.agg #[(.int .i64 0),(.int .i64 0),(.slice none 0 0)]) 40 info29 rfl (by decide) (by omega) z29 (ok:=fun _=>True) (okp:=fun _=>True) (k29_mkM _ _ _ z29 (Kd.R_nil _ _ _ _ _)) (fun _ hk=>hk) trivial (of_decide_eq_true (by first | (with_reducible assumption) | assumption)) (Nat.le_trans (Nat.mul_le_mul_right _ (of_decide_eq_true (by first | (with_reducible assumption) | assumption):(l0.length:Int).toNat ≤ 7036874417766)) (by omega)) (Below.refl _ _) (Nat.le_refl _) ?_;intro v135 w4 ho5 hb hg_ hnew_;clear hg_ hnew_;(first | rw [← Ny134.out] at ho5 | (simp only [Int.reduceToNat] at ho5;rw [← Ny134.out] at ho5));have HO136:=aQ (Kd.R_lower ho5 (below_size bB));replace HB:=aQ (below_step bB hb);clear hb ho5))
 go_loopg [4] k (fun kq v4 w'=>∃ (x3_1:List (S29)) (x4_1:Int),v4 = .int .i64 x4_1∧Aside0 (laws_toClockS.l0 kq l0 x3_1 x4_1 = some r)∧Aside0 (kq ≤ k)∧Aside0 (Kd.R k29 29 w' w.heap.size (fun _=>True) v135 x3_1)∧Aside0 (Below w.heap.size w w'))
 case atStart=>exact ⟨(y134),(0),rfl,H',⟨Nat.le_refl _⟩,⟨nR HO136.out⟩,⟨bB⟩⟩
 case round =>
  clear H'
  try clear c2b0
  try clear c2b1
  try clear c3b0
  try clear c3b1
  repeat (first | clear HO_3 | clear HB)
  obtain ⟨x3_1,x4_1,rfl,HA,HK1,HO_3,HB⟩:=hrel
  cases gk with
  | zero=>exact absurd HA.out (by simp [laws_toClockS.l0])
  | succ k1 =>
   have H:=HA.out
   clear HA
   simp only [laws_toClockS.l0] at H
   by_cases c6:x4_1 < (l0.length:Int);rotate_left
   ·rw [if_neg c6] at H
    have c6b0:decide (x4_1 < (l0.length:Int)) = false:=decide_eq_false c6
    clear c6
    obtain rfl:=Option.some.inj H
    go_wp2
    go_ret
    exact ⟨_,rfl,by (with_reducible repeat (first | apply Kd.R_alloc | apply Kd.R_drewN | apply Kd.R_drew));exact HO_3.out,bB⟩
   rw [if_pos c6] at H
   have c6b0:decide (x4_1 < (l0.length:Int)) = true:=decide_eq_true c6
   clear c6
   by_cases c7:0 ≤ x4_1;rotate_left
   ·rw [if_neg c7] at H
    exact absurd H (by simp)
   rw [if_pos c7] at H
   have c7b0:decide (0 ≤ x4_1) = true:=decide_eq_true c7
   clear c7
   obtain ⟨⟨t138,t139,t140⟩,A8,H⟩:=bQ H
   dsimp only at H
   by_cases c9:x4_1 < (x3_1.length:Int);rotate_left
   ·rw [if_neg c9] at H
    exact absurd H (by simp)
   rw [if_pos c9] at H
   have c9b0:decide (x4_1 < (x3_1.length:Int)) = true:=decide_eq_true c9
   clear c9
   obtain ⟨y143,hy143⟩:∃ y_:List (S29),y_ = (x3_1.set (x4_1:Int).toNat (⟨t138,t139,t140⟩:S29)):=⟨_,rfl⟩
   replace H:(laws_toClockS.l0 k1 l0 y143 (wrap64 (x4_1 + 1))) = some r:=by rw [hy143];exact H
   have Ny143:=aQ hy143
   clear hy143
   have H':=aQ H
   clear H
   have p137:0 ≤ (x4_1:Int):=of_decide_eq_true (by first | (with_reducible assumption) | assumption)
   have q137:x4_1 < (l0.length:Int):=of_decide_eq_true (by first | (with_reducible assumption) | assumption)
   obtain ⟨ad137,A137_2,c137_2,e137,hx137_0,hx137_1,hx137_2,hl137_2,hi137_2⟩:=at_T24 HR0.out x4_1 p137 q137
   cases e137
   replace hx137_0:=(HB.out.cell (World.block_lt_of_cell? w _ hx137_0)).trans hx137_0
   replace hx137_1:=(HB.out.cell (World.block_lt_of_cell? w _ hx137_1)).trans hx137_1
   replace hx137_2:=(HB.out.cell (World.block_lt_of_cell? w _ hx137_2)).trans hx137_2
   have HR137_2:=aQ hi137_2
   have HC137_2:=aQ hl137_2
   clear hi137_2 hl137_2
   replace p137:=eq_true p137
   replace q137:=eq_true q137
   go_wp2_with (first | ((with_reducible refine gate_callee (f:=15) rfl ?_);refine goesL_ (some 20) rfl rfl Try.func15 (by kernel_rfl) rfl #[.agg #[.int .i64 ((rd_T24 l0 x4_1).f0),.int .i64 ((rd_T24 l0 x4_1).f1),.slice A137_2 ((rd_T24 l0 x4_1).f2).length c137_2]] rfl mP ?_;(with_reducible refine (laws_toClock.calls_of k1 (fun j_ hj_=>ih j_ (by first | omega | (have:=HK1.out;omega) | (have:=HK1.out;have:=HK2.out;omega))) ((rd_T24 l0 x4_1).f0) ((rd_T24 l0 x4_1).f1) _ _ ((rd_T24 l0 x4_1).f2) t138 t139 t140 _ ?side1 ?side2 A8.out).mono ?_);(case side1=>repeat (first | exact (Kd.C_below HR137_2.out HB.out) | (with_reducible refine Kd.C_alloc ?_ _) | (with_reducible refine Kd.C_drewN ?_ _) | (with_reducible refine Kd.C_drew ?_)));(case side2=>exact HC137_2.out);rintro e w11 ⟨v141,rfl,ho0,hb⟩;refine ⟨_,rfl,?_⟩;have HO142:=aQ (Kd.R_lower (Kd.R_new' ho0 (Kd.R_lt (nR HO_3.out))) (below_size bB));replace HO_3:=aQ (Kd.R_elder' (nR HO_3.out) (Kd.R_base ho0) hb);replace HB:=aQ (below_step bB hb);(try clear hb);(try clear ho0);have p10:0 ≤ (x4_1:Int):=of_decide_eq_true (by first | (with_reducible assumption) | assumption);have q10:(x4_1:Int) < ((x3_1.length:Int):Int):=of_decide_eq_true (by first | (with_reducible assumption) | assumption);obtain ⟨go10,co10,eo10,gb10,gl10,cl10,HG10⟩:=Kd.R_form HO_3.out (by omega);(first | cases eo10 | (injection eo10 with ea_ en_ ec_;(first | subst ea_ | (injection ea_ with ea_;subst ea_));subst ec_;clear en_));have GB10:=aQ gb10;have GG10:=aQ HG10;clear gb10 gl10 HG10;obtain ⟨ce10,hcl10,hM10,hcc10,hfr10⟩:=Kd.R_elem HO_3.out z29 (x4_1:Int) p10 q10;obtain ⟨ve10_2,rfl,ge10_2⟩:=k29_openM hM10;have hx10_0:w11.cell? ⟨go10,(x4_1:Int).toNat * 3,none⟩ = some (.int .i64 ((rd_T29 x3_1 x4_1).f0)):=hcc10 0 _ rfl;have hx10_1:w11.cell? ⟨go10,(x4_1:Int).toNat * 3 + 1,none⟩ = some (.int .i64 ((rd_T29 x3_1 x4_1).f1)):=hcc10 1 _ rfl;have hx10_2:w11.cell? ⟨go10,(x4_1:Int).toNat * 3 + 2,none⟩ = some (ve10_2):=hcc10 2 _ rfl;have hf10_0:w11.frozen? ⟨go10,(x4_1:Int).toNat * 3,none⟩ = false:=hfr10 0;have hf10_1:w11.frozen? ⟨go10,(x4_1:Int).toNat * 3 + 1,none⟩ = false:=hfr10 1;have hf10_2:w11.frozen? ⟨go10,(x4_1:Int).toNat * 3 + 2,none⟩ = false:=hfr10 2;clear hcl10 hcc10 hfr10;(try clear hM10);replace p10:=eq_true p10;replace q10:=eq_true q10;have n_:=aQ (Kd.R_mono (ok':=(fun k_=>some k_ ≠ (v141:Value).ownBlock)) HO_3.out (fun k_ hk=>hk.2));clear HO_3;have HO_3:=n_;clear n_;have HX12:=aQ (show Kd.R k29 29 w11 w.heap.size (fun _=>True) (.slice (some ⟨go10,0,none⟩) x3_1.length co10) x3_1 from (nR (Kd.R_mono HO_3.out (fun _ hk=>trivial))));obtain ⟨ce12,hcl12,hM12,hcc12,hfr12⟩:=Kd.R_elem HX12.out z29 (x4_1:Int) (of_decide_eq_true (by first | (with_reducible assumption) | assumption)) (by have h_:(x4_1:Int) < ((x3_1.length:Int):Int):=of_decide_eq_true (by first | (with_reducible assumption) | assumption);first | exact h_ | (have e_:=(Kd.R_reads' HO_3.out).1;omega) | simpa using h_);obtain ⟨ve12_2,rfl,ge12_2⟩:=k29_openM hM12;have HP12:=Kd.R_seg HX12.out (x4_1:Int) (of_decide_eq_true (by first | (with_reducible assumption) | assumption)) (by have h_:(x4_1:Int) < ((x3_1.length:Int):Int):=of_decide_eq_true (by first | (with_reducible assumption) | assumption);first | exact h_ | (have e_:=(Kd.R_reads' HO_3.out).1;omega) | simpa using h_) (seg:=[.int .i64 t138,.int .i64 t139,v141]) (j:=0) hcl12 hcc12 (show 3 ≤ 3 from by decide) (x':=(⟨t138,t139,t140⟩:S29)) (k29_mkM _ _ _ (⟨t138,t139,t140⟩:S29) (Kd.R_mono (HO142.out) (fun k_ hk=>⟨trivial,fun e_=>(hk.2) (by rw [e_];rfl)⟩))) (fun _ hk=>hk);have hx12_0:=hcc12 0 _ rfl;(try simp only [show (k29).sz = 3 from rfl,Nat.mul_one,Nat.add_zero] at hx12_0);have hf12_0:=hfr12 0;(try simp only [show (k29).sz = 3 from rfl,Nat.mul_one,Nat.add_zero] at hf12_0);have hx12_1:=hcc12 1 _ rfl;(try simp only [show (k29).sz = 3 from rfl,Nat.mul_one,Nat.add_zero] at hx12_1);have hf12_1:=hfr12 1;(try simp only [show (k29).sz = 3 from rfl,Nat.mul_one,Nat.add_zero] at hf12_1);have hx12_2:=hcc12 2 _ rfl;(try simp only [show (k29).sz = 3 from rfl,Nat.mul_one,Nat.add_zero] at hx12_2);have hf12_2:=hfr12 2;(try simp only [show (k29).sz = 3 from rfl,Nat.mul_one,Nat.add_zero] at hf12_2);clear hcl12 hcc12 hfr12;(try clear hM12)) | ((with_reducible refine gate_store (t:=29) (p:=21) rfl ?_);refine store_event (t:=29) (p:=21) (v:=?vo_w13) (w1:=(((w11.setCell ⟨go10,(x4_1:Int).toNat * 3,none⟩ (.int .i64 t138)).setCell ⟨go10,(x4_1:Int).toNat * 3 + 1,none⟩ (.int .i64 t139)).setCell ⟨go10,(x4_1:Int).toNat * 3 + 2,none⟩ (v141))) ?hg ?ho ?hn ?hr ?_;(case ho=>rfl);(case hg=>rfl);(case hn=>rfl);(case hr=>first | (go_simp;done) | (go_simp;rfl) | (obtain ⟨Ax_,cx_,ex_⟩:=Kd.R_slice (v:=v141) (Aside0.out (by assumption));subst ex_;first | (go_simp;done) | (go_simp;rfl)) | (obtain ⟨Ax_,cx_,ex_⟩:=Kd.S_slice (v:=v141) (Aside0.out (by assumption));subst ex_;first | (go_simp;done) | (go_simp;rfl)));intro w13 hw;have hg:w11.grownBy w13 (some go10):=(by rw [hw];exact HP12.2);have hp_:Kd.R k29 29 w13 w.heap.size (fun _=>True) (.slice (some ⟨go10,0,none⟩) x3_1.length co10) y143:=(by rw [hw,Ny143.out];exact HP12.1);clear HP12;have n0_:=aQ (hp_);have n1_:=aQ ((by rw [hw];exact below_set (below_set (below_set (HB.out) GB10.out) GB10.out) GB10.out:Below w.heap.size w w13));clear HO_3;clear HB;clear HO142;have HO_3:=n0_;have HB:=n1_;clear n0_ n1_;clear hg hw hp_))
   go_roundg k1
   case measure=>have:=HK1.out;omega
   case rel=>exact ⟨(y143),(wrap64 (x4_1 + 1)),rfl,H',⟨by have:=HK1.out;omega⟩,⟨nR HO_3.out⟩,⟨bB⟩⟩
theorem laws_toClock.calls (k:Nat) (a0_0:Int) (a0_1:Int) (A0_2:Option Addr) (c0_2:Nat) (l0_2:List (S24)) (r1:Int) (r2:Int) (r3:List (S29)) (w:World) (hr0_2:Kd.C k24 w A0_2 l0_2.length l0_2) (hc0_2:l0_2.length ≤ c0_2) (h:laws_toClock.f k a0_0 a0_1 l0_2 = some (r1,r2,r3)) :
  Calls Try.prog 15 #[.agg #[.int .i64 a0_0,.int .i64 a0_1,.slice A0_2 l0_2.length c0_2]] w fun e w'=>∃ v2_:Value,e = .returned (.agg #[.int .i64 r1,.int .i64 r2,v2_])∧Kd.R k29 29 w' w.heap.size (fun _=>True) v2_ r3∧Below w.heap.size w w':=laws_toClock.calls_of k (fun j_ _=>laws_toClockS.calls j_) a0_0 a0_1 A0_2 c0_2 l0_2 r1 r2 r3 w hr0_2 hc0_2 h
def laws_eqClock.body (g:List (S29) → List (S29) → Option (Bool)) (a0_0:Int) (a0_1:Int) (l0_2:List (S29)) (a1_0:Int) (a1_1:Int) (l1_2:List (S29)):Option (Bool):=if a0_0 = a1_0 then (if a0_1 = a1_1 then ((g l0_2 l1_2).bind fun t168=>(if t168 = true then (some true) else (some false))) else (some false)) else (some false)
theorem laws_eqClock.body_mono {g g':List (S29) → List (S29) → Option (Bool)} (hg:∀ y0 y1,LeO (g y0 y1) (g' y0 y1)):∀ a0_0 a0_1 l0_2 a1_0 a1_1 l1_2,LeO (laws_eqClock.body g a0_0 a0_1 l0_2 a1_0 a1_1 l1_2) (laws_eqClock.body g' a0_0 a0_1 l0_2 a1_0 a1_1 l1_2):=by
 intro a0_0 a0_1 l0_2 a1_0 a1_1 l1_2
 unfold laws_eqClock.body
 repeat' first
   | (with_reducible exact hg _ _)
   | (with_reducible exact LeO.refl _)
   | (with_reducible exact LeO.none _)
   | (with_reducible refine LeO.ite ?_ ?_)
   | (with_reducible refine LeO.bind ?_ (fun _=>?_))
   | exact hg _ _
   | exact LeO.none _
   | refine LeO.ite ?_ ?_
   | refine LeO.bind ?_ (fun _=>?_)
mutual
def laws_eqClockS.l0:Nat → List (S29) → List (S29) → Int → Option (Bool)
 | 0,_,_,_=>none
 | k + 1,x0,x1,x5=>if x5 < (x0.length:Int) then (if 0 ≤ x5 then (if x5 < (x1.length:Int) then ((laws_eqClock.body (fun y0 y1=>laws_eqClockS.f k y0 y1) ((rd_T29 x0 x5).f0) ((rd_T29 x0 x5).f1) ((rd_T29 x0 x5).f2) ((rd_T29 x1 x5).f0) ((rd_T29 x1 x5).f1) ((rd_T29 x1 x5).f2)).bind fun t165=>(if t165 = true then (laws_eqClockS.l0 k x0 x1 (wrap64 (x5 + 1))) else (some false))) else (none)) else (none)) else (some true)
def laws_eqClockS.f:Nat → List (S29) → List (S29) → Option (Bool)
 | 0,_,_=>none
 | k + 1,l0,l1=>if (l0.length:Int) = (l1.length:Int) then (laws_eqClockS.l0 k l0 l1 0) else (some false)
end
abbrev laws_eqClock.f (k:Nat) (a0_0:Int) (a0_1:Int) (l0_2:List (S29)) (a1_0:Int) (a1_1:Int) (l1_2:List (S29)):Option (Bool):=laws_eqClock.body (fun y0 y1=>laws_eqClockS.f k y0 y1) a0_0 a0_1 l0_2 a1_0 a1_1 l1_2
theorem laws_eqClockS.mono_l:∀ k,(∀ y0 y1,LeO (laws_eqClockS.f k y0 y1) (laws_eqClockS.f (k + 1) y0 y1))∧(∀ y0 y1 y2,LeO (laws_eqClockS.l0 k y0 y1 y2) (laws_eqClockS.l0 (k + 1) y0 y1 y2))
 | 0=>⟨fun _ _ r h=>by simp [laws_eqClockS.f] at h,fun _ _ _ r h=>by simp [laws_eqClockS.l0] at h⟩
 | k + 1=>by
  obtain ⟨ih0,ih1⟩:=laws_eqClockS.mono_l k
  refine ⟨?_,?_⟩
  ·intro y0 y1
   unfold laws_eqClockS.f
   repeat' first
   | (with_reducible exact ih0 _ _)
   | (with_reducible exact ih1 _ _ _)
   | (with_reducible exact laws_eqClock.body_mono (fun y0 y1=>ih0 y0 y1) _ _ _ _ _ _)
   | (with_reducible exact LeO.refl _)
   | (with_reducible exact LeO.none _)
   | (with_reducible refine LeO.ite ?_ ?_)
   | (with_reducible refine LeO.bind ?_ (fun _=>?_))
   | exact ih0 _ _
   | exact ih1 _ _ _
   | exact LeO.none _
   | refine LeO.ite ?_ ?_
   | refine LeO.bind ?_ (fun _=>?_)
  ·intro y0 y1 y2
   unfold laws_eqClockS.l0
   repeat' first
   | (with_reducible exact ih0 _ _)
   | (with_reducible exact ih1 _ _ _)
   | (with_reducible exact laws_eqClock.body_mono (fun y0 y1=>ih0 y0 y1) _ _ _ _ _ _)
   | (with_reducible exact LeO.refl _)
   | (with_reducible exact LeO.none _)
   | (with_reducible refine LeO.ite ?_ ?_)
   | (with_reducible refine LeO.bind ?_ (fun _=>?_))
   | exact ih0 _ _
   | exact ih1 _ _ _
   | exact LeO.none _
   | refine LeO.ite ?_ ?_
   | refine LeO.bind ?_ (fun _=>?_)
theorem laws_eqClockS.mono:∀ a0 a1 k,LeO (laws_eqClockS.f k a0 a1) (laws_eqClockS.f (k + 1) a0 a1):=by
 intro a0 a1 k
 obtain ⟨ih0,ih1⟩:=laws_eqClockS.mono_l k
 exact ih0 a0 a1
def laws_eqClockS.T6:Bool × List (List Nat × List Nat):=(true,[([],[]),([],[]),([0,1],[0,1]),([2],[2]),([],[]),([],[]),([4,5],[4,5]),([6],[6]),([3,7],[3,7]),([8],[8])])
def laws_eqClockS.B6:List Nat:=[0,0,3,7,0,0,48,112,255,511]
theorem laws_eqClockS.tab6:rtab .any (opsOf Try.f44 6) = laws_eqClockS.T6:=by kernel_rfl
theorem laws_eqClockS.bits6:waitsOk laws_eqClockS.T6.2 laws_eqClockS.B6 = true:=by kernel_rfl
theorem laws_eqClock.mono:∀ a0_0 a0_1 l0_2 a1_0 a1_1 l1_2 k,LeO (laws_eqClock.f k a0_0 a0_1 l0_2 a1_0 a1_1 l1_2) (laws_eqClock.f (k + 1) a0_0 a0_1 l0_2 a1_0 a1_1 l1_2):=fun a0_0 a0_1 l0_2 a1_0 a1_1 l1_2 k=>laws_eqClock.body_mono (fun y0 y1=>laws_eqClockS.mono y0 y1 k) a0_0 a0_1 l0_2 a1_0 a1_1 l1_2
abbrev laws_eqClockS.Con (k:Nat):Prop:=∀ (A0:Option Addr) (c0:Nat) (l0:List (S29)) (A1:Option Addr) (c1:Nat) (l1:List (S29)) (r:Bool) (w:World) (hr0:Kd.C k29 w A0 l0.length l0) (hc0:l0.length ≤ c0) (hr1:Kd.C k29 w A1 l1.length l1) (hc1:l1.length ≤ c1) (h:laws_eqClockS.f k l0 l1 = some r),
  Calls Try.prog 44 #[.slice A0 l0.length c0,.slice A1 l1.length c1] w fun e w'=>e = .returned (.bool r)∧Below w.heap.size w w'
set_option maxHeartbeats 8000000 in
set_option maxRecDepth 100000 in
theorem laws_eqClock.calls_of (k:Nat) (ihS:∀ j_,j_ ≤ k → laws_eqClockS.Con j_) (a0_0:Int) (a0_1:Int) (A0_2:Option Addr) (c0_2:Nat) (l0_2:List (S29)) (a1_0:Int) (a1_1:Int) (A1_2:Option Addr) (c1_2:Nat) (l1_2:List (S29)) (r:Bool) (w:World) (hr0_2:Kd.C k29 w A0_2 l0_2.length l0_2) (hc0_2:l0_2.length ≤ c0_2) (hr1_2:Kd.C k29 w A1_2 l1_2.length l1_2) (hc1_2:l1_2.length ≤ c1_2) (h:laws_eqClock.f k a0_0 a0_1 l0_2 a1_0 a1_1 l1_2 = some r) :
  Calls Try.prog 17 #[.agg #[.int .i64 a0_0,.int .i64 a0_1,.slice A0_2 l0_2.length c0_2],.agg #[.int .i64 a1_0,.int .i64 a1_1,.slice A1_2 l1_2.length c1_2]] w fun e w'=>e = .returned (.bool r)∧Below w.heap.size w w':=by
 have hu29:=Try.underlying29
 have HR0_2:=aQ hr0_2
 have HC0_2:=aQ hc0_2
 clear hr0_2 hc0_2
 have HR1_2:=aQ hr1_2
 have HC1_2:=aQ hc1_2
 clear hr1_2 hc1_2
 have HB:=aQ (Below.refl w.heap.size w)
 have H:(if a0_0 = a1_0 then (if a0_1 = a1_1 then ((laws_eqClockS.f k l0_2 l1_2).bind fun t168=>(if t168 = true then (some true) else (some false))) else (some false)) else (some false)) = some r:=h
 clear h
 by_cases c3:a0_0 = a1_0;rotate_left
 ·rw [if_neg c3] at H
  have c3b0:(a0_0 == a1_0) = false:=beq_eq_false_iff_ne.mpr c3
  have c3b1:(a0_0 != a1_0) = true:=bne_iff_ne.mpr c3
  obtain rfl:=Option.some.inj H
  go_enter Try.func17,Try.ntmps17
  go_wp2_with (first | ((with_reducible refine gate_dst (N:=2) rfl ?_);refine box1 (N:=2) (cs:=#[.int .i64 a0_0,.int .i64 a0_1,.slice A0_2 l0_2.length c0_2]) (t:=29) ?_;intro gb166 hg w24 hbox hb;have BK166:=aQ (hbox);have GW166:=aQ ((by rw [hg];exact (below_size bB):w.heap.size ≤ gb166));have GE166:=aQ ((by rw [hg];exact (below_size bB):w.heap.size ≤ gb166));replace HB:=aQ (below_step bB hb);clear hb hbox hg) | ((with_reducible refine gate_dst (N:=3) rfl ?_);refine box1 (N:=3) (cs:=#[.int .i64 a1_0,.int .i64 a1_1,.slice A1_2 l1_2.length c1_2]) (t:=29) ?_;intro gb167 hg w25 hbox hb;have BK167:=aQ (hbox);have GW167:=aQ ((by rw [hg];exact (below_size bB):w.heap.size ≤ gb167));have GE167:=aQ ((by rw [hg];exact (below_size bB):w.heap.size ≤ gb167));replace HB:=aQ (below_step bB hb);have NB166_167:=aQ ((by rw [hg];exact Nat.ne_of_lt (blk_lt (g:=gb166) (o:=.cells #[.int .i64 a0_0,.int .i64 a0_1,.slice A0_2 l0_2.length c0_2] 29 (0,0)) (nB BK166.out)):gb166 ≠ gb167));have NB167_166:=aQ ((by rw [hg];exact Nat.ne_of_gt (blk_lt (g:=gb166) (o:=.cells #[.int .i64 a0_0,.int .i64 a0_1,.slice A0_2 l0_2.length c0_2] 29 (0,0)) (nB BK166.out)):gb167 ≠ gb166));replace BK166:=aQ (blk_below (g:=gb166) (o:=.cells #[.int .i64 a0_0,.int .i64 a0_1,.slice A0_2 l0_2.length c0_2] 29 (0,0)) (nB BK166.out) hb);clear hb hbox hg;have hnb26:=NB166_167.out;have hnc26:=NB167_166.out;have hcz27_0:w25.cell? ⟨gb166,0,none⟩ = some (.int .i64 a0_0):=(blk_cell BK166.out 0).trans rfl;have hcz27_1:w25.cell? ⟨gb166,1,none⟩ = some (.int .i64 a0_1):=(blk_cell BK166.out 1).trans rfl;have hcz27_2:w25.cell? ⟨gb166,2,none⟩ = some (.slice A0_2 l0_2.length c0_2):=(blk_cell BK166.out 2).trans rfl;have hfz27_0:=blk_frozen BK166.out 0;have hfz27_1:=blk_frozen BK166.out 1;have hfz27_2:=blk_frozen BK166.out 2;have hcz28_0:w25.cell? ⟨gb167,0,none⟩ = some (.int .i64 a1_0):=(blk_cell BK167.out 0).trans rfl;have hcz28_1:w25.cell? ⟨gb167,1,none⟩ = some (.int .i64 a1_1):=(blk_cell BK167.out 1).trans rfl;have hcz28_2:w25.cell? ⟨gb167,2,none⟩ = some (.slice A1_2 l1_2.length c1_2):=(blk_cell BK167.out 2).trans rfl;have hfz28_0:=blk_frozen BK167.out 0;have hfz28_1:=blk_frozen BK167.out 1;have hfz28_2:=blk_frozen BK167.out 2))
  go_ret
  exact ⟨rfl,bB⟩
 rw [if_pos c3] at H
 have c3b0:(a0_0 == a1_0) = true:=beq_iff_eq.mpr c3
 have c3b1:(a0_0 != a1_0) = false:=bne_eq_false_iff_eq.mpr c3
 clear c3
 by_cases c4:a0_1 = a1_1;rotate_left
 ·rw [if_neg c4] at H
  have c4b0:(a0_1 == a1_1) = false:=beq_eq_false_iff_ne.mpr c4
  have c4b1:(a0_1 != a1_1) = true:=bne_iff_ne.mpr c4
  obtain rfl:=Option.some.inj H
  go_enter Try.func17,Try.ntmps17
  go_wp2_with (first | ((with_reducible refine gate_dst (N:=2) rfl ?_);refine box1 (N:=2) (cs:=#[.int .i64 a0_0,.int .i64 a0_1,.slice A0_2 l0_2.length c0_2]) (t:=29) ?_;intro gb166 hg w19 hbox hb;have BK166:=aQ (hbox);have GW166:=aQ ((by rw [hg];exact (below_size bB):w.heap.size ≤ gb166));have GE166:=aQ ((by rw [hg];exact (below_size bB):w.heap.size ≤ gb166));replace HB:=aQ (below_step bB hb);clear hb hbox hg) | ((with_reducible refine gate_dst (N:=3) rfl ?_);refine box1 (N:=3) (cs:=#[.int .i64 a1_0,.int .i64 a1_1,.slice A1_2 l1_2.length c1_2]) (t:=29) ?_;intro gb167 hg w20 hbox hb;have BK167:=aQ (hbox);have GW167:=aQ ((by rw [hg];exact (below_size bB):w.heap.size ≤ gb167));have GE167:=aQ ((by rw [hg];exact (below_size bB):w.heap.size ≤ gb167));replace HB:=aQ (below_step bB hb);have NB166_167:=aQ ((by rw [hg];exact Nat.ne_of_lt (blk_lt (g:=gb166) (o:=.cells #[.int .i64 a0_0,.int .i64 a0_1,.slice A0_2 l0_2.length c0_2] 29 (0,0)) (nB BK166.out)):gb166 ≠ gb167));have NB167_166:=aQ ((by rw [hg];exact Nat.ne_of_gt (blk_lt (g:=gb166) (o:=.cells #[.int .i64 a0_0,.int .i64 a0_1,.slice A0_2 l0_2.length c0_2] 29 (0,0)) (nB BK166.out)):gb167 ≠ gb166));replace BK166:=aQ (blk_below (g:=gb166) (o:=.cells #[.int .i64 a0_0,.int .i64 a0_1,.slice A0_2 l0_2.length c0_2] 29 (0,0)) (nB BK166.out) hb);clear hb hbox hg;have hnb21:=NB166_167.out;have hnc21:=NB167_166.out;have hcz22_0:w20.cell? ⟨gb166,0,none⟩ = some (.int .i64 a0_0):=(blk_cell BK166.out 0).trans rfl;have hcz22_1:w20.cell? ⟨gb166,1,none⟩ = some (.int .i64 a0_1):=(blk_cell BK166.out 1).trans rfl;have hcz22_2:w20.cell? ⟨gb166,2,none⟩ = some (.slice A0_2 l0_2.length c0_2):=(blk_cell BK166.out 2).trans rfl;have hfz22_0:=blk_frozen BK166.out 0;have hfz22_1:=blk_frozen BK166.out 1;have hfz22_2:=blk_frozen BK166.out 2;have hcz23_0:w20.cell? ⟨gb167,0,none⟩ = some (.int .i64 a1_0):=(blk_cell BK167.out 0).trans rfl;have hcz23_1:w20.cell? ⟨gb167,1,none⟩ = some (.int .i64 a1_1):=(blk_cell BK167.out 1).trans rfl;have hcz23_2:w20.cell? ⟨gb167,2,none⟩ = some (.slice A1_2 l1_2.length c1_2):=(blk_cell BK167.out 2).trans rfl;have hfz23_0:=blk_frozen BK167.out 0;have hfz23_1:=blk_frozen BK167.out 1;have hfz23_2:=blk_frozen BK167.out 2))
  go_ret
  exact ⟨eW,bB⟩
 rw [if_pos c4] at H
 have c4b0:(a0_1 == a1_1) = true:=beq_iff_eq.mpr c4
 have c4b1:(a0_1 != a1_1) = false:=bne_eq_false_iff_eq.mpr c4
 clear c4
 obtain ⟨t168,A5,H⟩:=bQ H
 (try dsimp only at H)
 by_cases c6:t168 = true
 ·subst c6
  have H1:(some true) = some r:=by rw [if_pos rfl] at H;exact H
  clear H
  have H:=H1
  clear H1
  obtain rfl:=Option.some.inj H
  go_enter Try.func17,Try.ntmps17
  go_wp2_with (first | ((with_reducible refine gate_dst (N:=2) rfl ?_);refine box1 (N:=2) (cs:=#[.int .i64 a0_0,.int .i64 a0_1,.slice A0_2 l0_2.length c0_2]) (t:=29) ?_;intro gb166 hg w7 hbox hb;have BK166:=aQ (hbox);have GW166:=aQ ((by rw [hg];exact (below_size bB):w.heap.size ≤ gb166));have GE166:=aQ ((by rw [hg];exact (below_size bB):w.heap.size ≤ gb166));replace HB:=aQ (below_step bB hb);clear hb hbox hg) | ((with_reducible refine gate_dst (N:=3) rfl ?_);refine box1 (N:=3) (cs:=#[.int .i64 a1_0,.int .i64 a1_1,.slice A1_2 l1_2.length c1_2]) (t:=29) ?_;intro gb167 hg w8 hbox hb;have BK167:=aQ (hbox);have GW167:=aQ ((by rw [hg];exact (below_size bB):w.heap.size ≤ gb167));have GE167:=aQ ((by rw [hg];exact (below_size bB):w.heap.size ≤ gb167));replace HB:=aQ (below_step bB hb);have NB166_167:=aQ ((by rw [hg];exact Nat.ne_of_lt (blk_lt (g:=gb166) (o:=.cells #[.int .i64 a0_0,.int .i64 a0_1,.slice A0_2 l0_2.length c0_2] 29 (0,0)) (nB BK166.out)):gb166 ≠ gb167));have NB167_166:=aQ ((by rw [hg];exact Nat.ne_of_gt (blk_lt (g:=gb166) (o:=.cells #[.int .i64 a0_0,.int .i64 a0_1,.slice A0_2 l0_2.length c0_2] 29 (0,0)) (nB BK166.out)):gb167 ≠ gb166));replace BK166:=aQ (blk_below (g:=gb166) (o:=.cells #[.int .i64 a0_0,.int .i64 a0_1,.slice A0_2 l0_2.length c0_2] 29 (0,0)) (nB BK166.out) hb);clear hb hbox hg;have hnb9:=NB166_167.out;have hnc9:=NB167_166.out;have hcz10_0:w8.cell? ⟨gb166,0,none⟩ = some (.int .i64 a0_0):=(blk_cell BK166.out 0).trans rfl;have hcz10_1:w8.cell? ⟨gb166,1,none⟩ = some (.int .i64 a0_1):=(blk_cell BK166.out 1).trans rfl;have hcz10_2:w8.cell? ⟨gb166,2,none⟩ = some (.slice A0_2 l0_2.length c0_2):=(blk_cell BK166.out 2).trans rfl;have hfz10_0:=blk_frozen BK166.out 0;have hfz10_1:=blk_frozen BK166.out 1;have hfz10_2:=blk_frozen BK166.out 2;have hcz11_0:w8.cell? ⟨gb167,0,none⟩ = some (.int .i64 a1_0):=(blk_cell BK167.out 0).trans rfl;have hcz11_1:w8.cell? ⟨gb167,1,none⟩ = some (.int .i64 a1_1):=(blk_cell BK167.out 1).trans rfl;have hcz11_2:w8.cell? ⟨gb167,2,none⟩ = some (.slice A1_2 l1_2.length c1_2):=(blk_cell BK167.out 2).trans rfl;have hfz11_0:=blk_frozen BK167.out 0;have hfz11_1:=blk_frozen BK167.out 1;have hfz11_2:=blk_frozen BK167.out 2) | ((with_reducible refine gate_callee (f:=44) rfl ?_);refine goesL_ (some 19) rfl rfl Try.func44 (by kernel_rfl) rfl #[.slice A0_2 l0_2.length c0_2,.slice A1_2 l1_2.length c1_2] rfl mP ?_;(with_reducible refine (ihS k (Nat.le_refl _) _ _ l0_2 _ _ l1_2 true _ ?side1 ?side2 ?side3 ?side4 A5.out).mono ?_);(case side1=>repeat (first | exact (Kd.C_below HR0_2.out HB.out) | (with_reducible refine Kd.C_alloc ?_ _) | (with_reducible refine Kd.C_drewN ?_ _) | (with_reducible refine Kd.C_drew ?_)));(case side2=>exact HC0_2.out);(case side3=>repeat (first | exact (Kd.C_below HR1_2.out HB.out) | (with_reducible refine Kd.C_alloc ?_ _) | (with_reducible refine Kd.C_drewN ?_ _) | (with_reducible refine Kd.C_drew ?_)));(case side4=>exact HC1_2.out);rintro e w12 ⟨rfl,hb⟩;refine ⟨_,rfl,?_⟩;replace BK166:=aQ (blk_below (g:=gb166) (o:=.cells #[.int .i64 a0_0,.int .i64 a0_1,.slice A0_2 l0_2.length c0_2] 29 (0,0)) (nB BK166.out) hb);replace BK167:=aQ (blk_below (g:=gb167) (o:=.cells #[.int .i64 a1_0,.int .i64 a1_1,.slice A1_2 l1_2.length c1_2] 29 (0,0)) (nB BK167.out) hb);replace HB:=aQ (below_step bB hb);(try clear hb)))
  go_ret
  exact ⟨rfl,bB⟩
 ·replace c6:=Bool.eq_false_iff.mpr c6
  subst c6
  have H1:(some false) = some r:=by rw [if_neg (show ¬ (false = true) by decide)] at H;exact H
  clear H
  have H:=H1
  clear H1
  obtain rfl:=Option.some.inj H
  go_enter Try.func17,Try.ntmps17
  go_wp2_with (first | ((with_reducible refine gate_dst (N:=2) rfl ?_);refine box1 (N:=2) (cs:=#[.int .i64 a0_0,.int .i64 a0_1,.slice A0_2 l0_2.length c0_2]) (t:=29) ?_;intro gb166 hg w13 hbox hb;have BK166:=aQ (hbox);have GW166:=aQ ((by rw [hg];exact (below_size bB):w.heap.size ≤ gb166));have GE166:=aQ ((by rw [hg];exact (below_size bB):w.heap.size ≤ gb166));replace HB:=aQ (below_step bB hb);clear hb hbox hg) | ((with_reducible refine gate_dst (N:=3) rfl ?_);refine box1 (N:=3) (cs:=#[.int .i64 a1_0,.int .i64 a1_1,.slice A1_2 l1_2.length c1_2]) (t:=29) ?_;intro gb167 hg w14 hbox hb;have BK167:=aQ (hbox);have GW167:=aQ ((by rw [hg];exact (below_size bB):w.heap.size ≤ gb167));have GE167:=aQ ((by rw [hg];exact (below_size bB):w.heap.size ≤ gb167));replace HB:=aQ (below_step bB hb);have NB166_167:=aQ ((by rw [hg];exact Nat.ne_of_lt (blk_lt (g:=gb166) (o:=.cells #[.int .i64 a0_0,.int .i64 a0_1,.slice A0_2 l0_2.length c0_2] 29 (0,0)) (nB BK166.out)):gb166 ≠ gb167));have NB167_166:=aQ ((by rw [hg];exact Nat.ne_of_gt (blk_lt (g:=gb166) (o:=.cells #[.int .i64 a0_0,.int .i64 a0_1,.slice A0_2 l0_2.length c0_2] 29 (0,0)) (nB BK166.out)):gb167 ≠ gb166));replace BK166:=aQ (blk_below (g:=gb166) (o:=.cells #[.int .i64 a0_0,.int .i64 a0_1,.slice A0_2 l0_2.length c0_2] 29 (0,0)) (nB BK166.out) hb);clear hb hbox hg;have hnb15:=NB166_167.out;have hnc15:=NB167_166.out;have hcz16_0:w14.cell? ⟨gb166,0,none⟩ = some (.int .i64 a0_0):=(blk_cell BK166.out 0).trans rfl;have hcz16_1:w14.cell? ⟨gb166,1,none⟩ = some (.int .i64 a0_1):=(blk_cell BK166.out 1).trans rfl;have hcz16_2:w14.cell? ⟨gb166,2,none⟩ = some (.slice A0_2 l0_2.length c0_2):=(blk_cell BK166.out 2).trans rfl;have hfz16_0:=blk_frozen BK166.out 0;have hfz16_1:=blk_frozen BK166.out 1;have hfz16_2:=blk_frozen BK166.out 2;have hcz17_0:w14.cell? ⟨gb167,0,none⟩ = some (.int .i64 a1_0):=(blk_cell BK167.out 0).trans rfl;have hcz17_1:w14.cell? ⟨gb167,1,none⟩ = some (.int .i64 a1_1):=(blk_cell BK167.out 1).trans rfl;have hcz17_2:w14.cell? ⟨gb167,2,none⟩ = some (.slice A1_2 l1_2.length c1_2):=(blk_cell BK167.out 2).trans rfl;have hfz17_0:=blk_frozen BK167.out 0;have hfz17_1:=blk_frozen BK167.out 1;have hfz17_2:=blk_frozen BK167.out 2) | ((with_reducible refine gate_callee (f:=44) rfl ?_);refine goesL_ (some 19) rfl rfl Try.func44 (by kernel_rfl) rfl #[.slice A0_2 l0_2.length c0_2,.slice A1_2 l1_2.length c1_2] rfl mP ?_;(with_reducible refine (ihS k (Nat.le_refl _) _ _ l0_2 _ _ l1_2 false _ ?side1 ?side2 ?side3 ?side4 A5.out).mono ?_);(case side1=>repeat (first | exact (Kd.C_below HR0_2.out HB.out) | (with_reducible refine Kd.C_alloc ?_ _) | (with_reducible refine Kd.C_drewN ?_ _) | (with_reducible refine Kd.C_drew ?_)));(case side2=>exact HC0_2.out);(case side3=>repeat (first | exact (Kd.C_below HR1_2.out HB.out) | (with_reducible refine Kd.C_alloc ?_ _) | (with_reducible refine Kd.C_drewN ?_ _) | (with_reducible refine Kd.C_drew ?_)));(case side4=>exact HC1_2.out);rintro e w18 ⟨rfl,hb⟩;refine ⟨_,rfl,?_⟩;replace BK166:=aQ (blk_below (g:=gb166) (o:=.cells #[.int .i64 a0_0,.int .i64 a0_1,.slice A0_2 l0_2.length c0_2] 29 (0,0)) (nB BK166.out) hb);replace BK167:=aQ (blk_below (g:=gb167) (o:=.cells #[.int .i64 a1_0,.int .i64 a1_1,.slice A1_2 l1_2.length c1_2] 29 (0,0)) (nB BK167.out) hb);replace HB:=aQ (below_step bB hb);(try clear hb)))
  go_ret
  exact ⟨rfl,bB⟩
set_option maxHeartbeats 8000000 in
set_option maxRecDepth 100000 in
theorem laws_eqClockS.calls (k:Nat):∀ (A0:Option Addr) (c0:Nat) (l0:List (S29)) (A1:Option Addr) (c1:Nat) (l1:List (S29)) (r:Bool) (w:World) (hr0:Kd.C k29 w A0 l0.length l0) (hc0:l0.length ≤ c0) (hr1:Kd.C k29 w A1 l1.length l1) (hc1:l1.length ≤ c1) (h:laws_eqClockS.f k l0 l1 = some r),
  Calls Try.prog 44 #[.slice A0 l0.length c0,.slice A1 l1.length c1] w fun e w'=>e = .returned (.bool r)∧Below w.heap.size w w':=by
 induction k using Nat.strongRecOn with
 | _ k ih =>
 intro A0 c0 l0 A1 c1 l1 r w hr0 hc0 hr1 hc1 h
 cases k with
 | zero=>exact absurd h (by simp [laws_eqClockS.f])
 | succ k =>
 simp only [laws_eqClockS.f] at h
 have hu29:=Try.underlying29
 have HR0:=aQ hr0
 have HC0:=aQ hc0
 clear hr0 hc0
 have HR1:=aQ hr1
 have HC1:=aQ hc1
 clear hr1 hc1
 have HB:=aQ (Below.refl w.heap.size w)
 have H:=h
 clear h
 by_cases c3:(l0.length:Int) = (l1.length:Int);rotate_left
 ·rw [if_neg c3] at H
  have c3b0:((l0.length:Int) == (l1.length:Int)) = false:=beq_eq_false_iff_ne.mpr c3
  have c3b1:((l0.length:Int) != (l1.length:Int)) = true:=bne_iff_ne.mpr c3
  have c3b2:(l0.length == l1.length) = false:=by first | simpa using c3 | (simp at c3 ⊢;omega)
  obtain rfl:=Option.some.inj H
  go_enter Try.func44,Try.ntmps44
  go_wp2
  go_ret
  exact ⟨rfl,bB⟩
 rw [if_pos c3] at H
 have c3b0:((l0.length:Int) == (l1.length:Int)) = true:=beq_iff_eq.mpr c3
 have c3b1:((l0.length:Int) != (l1.length:Int)) = false:=bne_eq_false_iff_eq.mpr c3
 have c3b2:(l0.length == l1.length) = true:=by first | simpa using c3 | (simp at c3 ⊢;omega)
 clear c3
 have H':=aQ H
 clear H
 go_enter Try.func44,Try.ntmps44
 go_wp2
 go_loopg [5] k (fun kq v5 w'=>∃ (x5_1:Int),v5 = .int .i64 x5_1∧Aside0 (laws_eqClockS.l0 kq l0 l1 x5_1 = some r)∧Aside0 (kq ≤ k)∧Aside0 (Below w.heap.size w w'))
 case atStart=>exact ⟨(0),rfl,H',⟨Nat.le_refl _⟩,⟨bB⟩⟩
 case round =>
  clear H'
  try clear c3b0
  try clear c3b1
  try clear c3b2
  repeat (first | clear HB)
  obtain ⟨x5_1,rfl,HA,HK1,HB⟩:=hrel
  cases gk with
  | zero=>exact absurd HA.out (by simp [laws_eqClockS.l0])
  | succ k1 =>
   have H:=HA.out
   clear HA
   simp only [laws_eqClockS.l0] at H
   by_cases c4:x5_1 < (l0.length:Int);rotate_left
   ·rw [if_neg c4] at H
    have c4b0:decide (x5_1 < (l0.length:Int)) = false:=decide_eq_false c4
    clear c4
    obtain rfl:=Option.some.inj H
    go_wp2
    go_ret
    exact ⟨rfl,bB⟩
   rw [if_pos c4] at H
   have c4b0:decide (x5_1 < (l0.length:Int)) = true:=decide_eq_true c4
   clear c4
   by_cases c5:0 ≤ x5_1;rotate_left
   ·rw [if_neg c5] at H
    exact absurd H (by simp)
   rw [if_pos c5] at H
   have c5b0:decide (0 ≤ x5_1) = true:=decide_eq_true c5
   clear c5
   by_cases c6:x5_1 < (l1.length:Int);rotate_left
   ·rw [if_neg c6] at H
    exact absurd H (by simp)
   rw [if_pos c6] at H
   have c6b0:decide (x5_1 < (l1.length:Int)) = true:=decide_eq_true c6
   clear c6
   obtain ⟨t165,A7,H⟩:=bQ H
   (try dsimp only at H)
   by_cases c8:t165 = true
   ·subst c8
    have H1:(laws_eqClockS.l0 k1 l0 l1 (wrap64 (x5_1 + 1))) = some r:=by rw [if_pos rfl] at H;exact H
    clear H
    have H:=H1
    clear H1
    have H':=aQ H
    clear H
    try go_wp2
    replace HB:=aQ (below_drew1 HB.out)
    have p163:0 ≤ (x5_1:Int):=of_decide_eq_true (by first | (with_reducible assumption) | assumption)
    have q163:x5_1 < (l0.length:Int):=of_decide_eq_true (by first | (with_reducible assumption) | assumption)
    obtain ⟨ad163,A163_2,c163_2,e163,hx163_0,hx163_1,hx163_2,hl163_2,hi163_2⟩:=at_T29 HR0.out x5_1 p163 q163
    have hw163_2:=hx163_2
    have hw163_1:=hx163_1
    have hw163_0:=hx163_0
    cases e163
    replace hx163_0:=(HB.out.cell (World.block_lt_of_cell? w _ hx163_0)).trans hx163_0
    replace hx163_1:=(HB.out.cell (World.block_lt_of_cell? w _ hx163_1)).trans hx163_1
    replace hx163_2:=(HB.out.cell (World.block_lt_of_cell? w _ hx163_2)).trans hx163_2
    have HR163_2:=aQ hi163_2
    have HC163_2:=aQ hl163_2
    clear hi163_2 hl163_2
    replace p163:=eq_true p163
    replace q163:=eq_true q163
    have p164:0 ≤ (x5_1:Int):=of_decide_eq_true (by first | (with_reducible assumption) | assumption)
    have q164:x5_1 < (l1.length:Int):=of_decide_eq_true (by first | (with_reducible assumption) | assumption)
    obtain ⟨ad164,A164_2,c164_2,e164,hx164_0,hx164_1,hx164_2,hl164_2,hi164_2⟩:=at_T29 HR1.out x5_1 p164 q164
    have hw164_2:=hx164_2
    have hw164_1:=hx164_1
    have hw164_0:=hx164_0
    cases e164
    replace hx164_0:=(HB.out.cell (World.block_lt_of_cell? w _ hx164_0)).trans hx164_0
    replace hx164_1:=(HB.out.cell (World.block_lt_of_cell? w _ hx164_1)).trans hx164_1
    replace hx164_2:=(HB.out.cell (World.block_lt_of_cell? w _ hx164_2)).trans hx164_2
    have HR164_2:=aQ hi164_2
    have HC164_2:=aQ hl164_2
    clear hi164_2 hl164_2
    replace p164:=eq_true p164
    replace q164:=eq_true q164
    refine start_ (n:=10) (S:=fun w'=>w'.cell? (ad163.add ((x5_1).toNat * 3)) = some (.int .i64 ((rd_T29 l0 x5_1).f0))∧w'.cell? ⟨(ad163.add ((x5_1).toNat * 3)).block,(ad163.add ((x5_1).toNat * 3)).off + 1,none⟩ = some (.int .i64 ((rd_T29 l0 x5_1).f1))∧w'.cell? ⟨(ad163.add ((x5_1).toNat * 3)).block,(ad163.add ((x5_1).toNat * 3)).off + 2,none⟩ = some (.slice A163_2 ((rd_T29 l0 x5_1).f2).length c163_2)∧w'.cell? (ad164.add ((x5_1).toNat * 3)) = some (.int .i64 ((rd_T29 l1 x5_1).f0))∧w'.cell? ⟨(ad164.add ((x5_1).toNat * 3)).block,(ad164.add ((x5_1).toNat * 3)).off + 1,none⟩ = some (.int .i64 ((rd_T29 l1 x5_1).f1))∧w'.cell? ⟨(ad164.add ((x5_1).toNat * 3)).block,(ad164.add ((x5_1).toNat * 3)).off + 2,none⟩ = some (.slice A164_2 ((rd_T29 l1 x5_1).f2).length c164_2)) (ds:=[]) (bn 10 0) (by kernel_rfl) rfl rfl ⟨((HB.out.cell (World.block_lt_of_cell? w _ hw163_0)).trans hw163_0),((HB.out.cell (World.block_lt_of_cell? w _ hw163_1)).trans hw163_1),((HB.out.cell (World.block_lt_of_cell? w _ hw163_2)).trans hw163_2),((HB.out.cell (World.block_lt_of_cell? w _ hw164_0)).trans hw164_0),((HB.out.cell (World.block_lt_of_cell? w _ hw164_1)).trans hw164_1),((HB.out.cell (World.block_lt_of_cell? w _ hw164_2)).trans hw164_2)⟩ (fun hHeld=>?_);refine with_tabW laws_eqClockS.tab6 laws_eqClockS.bits6 (fun HT_ HW_=>?_)
    generalize wr.drew = w9 at HB HR163_2 HR164_2 hx163_0 hx163_1 hx163_2 hx164_0 hx164_1 hx164_2 hHeld ⊢
    refine pur (i:=0) (N:=some 17) (bn 10 1) ?_
    refine pur (i:=1) (N:=some 18) (bn 10 3) ?_
    refine pur (i:=2) (N:=some 19) (bn 10 7) ?_
    refine pur (i:=4) (N:=some 21) (bn 10 23) ?_
    refine pur (i:=5) (N:=some 22) (bn 10 55) ?_
    refine pur (i:=6) (N:=some 23) (bn 10 119) ?_
    refine tak (i:=3) (N:=some 20) (bn 10 127) ?_
    refine tak (i:=7) (N:=some 24) (bn 10 255) ?_
    refine one_ (i:=8) (N:=some 25) (bn 10 511) rfl rfl (one_of HT_.out (by kernel_rfl)) (by decide) (fun K hK=>?_)
    refine goes1 Try.func17 #[.agg #[.int .i64 ((rd_T29 l0 x5_1).f0),.int .i64 ((rd_T29 l0 x5_1).f1),.slice A163_2 ((rd_T29 l0 x5_1).f2).length c163_2],.agg #[.int .i64 ((rd_T29 l1 x5_1).f0),.int .i64 ((rd_T29 l1 x5_1).f1),.slice A164_2 ((rd_T29 l1 x5_1).f2).length c164_2]] ?_
    with_reducible refine (laws_eqClock.calls_of k1 (fun j_ hj_=>ih j_ (by first | omega | (have:=HK1.out;omega) | (have:=HK1.out;have:=HK2.out;omega))) ((rd_T29 l0 x5_1).f0) ((rd_T29 l0 x5_1).f1) _ _ ((rd_T29 l0 x5_1).f2) ((rd_T29 l1 x5_1).f0) ((rd_T29 l1 x5_1).f1) _ _ ((rd_T29 l1 x5_1).f2) true _ ?side1 ?side2 ?side3 ?side4 A7.out).mono ?_
    (case side1=>repeat (first | exact (Kd.C_below HR163_2.out HB.out) | (with_reducible refine Kd.C_alloc ?_ _) | (with_reducible refine Kd.C_drewN ?_ _) | (with_reducible refine Kd.C_drew ?_)))
    (case side2=>exact HC163_2.out)
    (case side3=>repeat (first | exact (Kd.C_below HR164_2.out HB.out) | (with_reducible refine Kd.C_alloc ?_ _) | (with_reducible refine Kd.C_drewN ?_ _) | (with_reducible refine Kd.C_drew ?_)))
    (case side4=>exact HC164_2.out)
    rintro e w10 ⟨rfl,hb⟩
    refine ⟨_,rfl,?_⟩
    replace HB:=aQ (below_step bB hb)
    (try clear hb)
    refine hK.out _ _ ⟨((HB.out.cell (World.block_lt_of_cell? w _ hw163_0)).trans hw163_0),((HB.out.cell (World.block_lt_of_cell? w _ hw163_1)).trans hw163_1),((HB.out.cell (World.block_lt_of_cell? w _ hw163_2)).trans hw163_2),((HB.out.cell (World.block_lt_of_cell? w _ hw164_0)).trans hw164_0),((HB.out.cell (World.block_lt_of_cell? w _ hw164_1)).trans hw164_1),((HB.out.cell (World.block_lt_of_cell? w _ hw164_2)).trans hw164_2)⟩ (fun hHeld=>?_)
    clear hK K
    refine nrm (N:=some 25) ?_
    refine pur (i:=9) (N:=some 26) (bn 10 1023) ?_
    refine done_ (done_of HT_.out (by kernel_rfl)) ?_
    try go_wp2
    go_roundg k1
    case measure=>have:=HK1.out;omega
    case rel=>exact ⟨(wrap64 (x5_1 + 1)),rfl,H',⟨by have:=HK1.out;omega⟩,⟨bB⟩⟩
   ·replace c8:=Bool.eq_false_iff.mpr c8
    subst c8
    have H1:(some false) = some r:=by rw [if_neg (show ¬ (false = true) by decide)] at H;exact H
    clear H
    have H:=H1
    clear H1
    obtain rfl:=Option.some.inj H
    try go_wp2
    replace HB:=aQ (below_drew1 HB.out)
    have p163:0 ≤ (x5_1:Int):=of_decide_eq_true (by first | (with_reducible assumption) | assumption)
    have q163:x5_1 < (l0.length:Int):=of_decide_eq_true (by first | (with_reducible assumption) | assumption)
    obtain ⟨ad163,A163_2,c163_2,e163,hx163_0,hx163_1,hx163_2,hl163_2,hi163_2⟩:=at_T29 HR0.out x5_1 p163 q163
    have hw163_2:=hx163_2
    have hw163_1:=hx163_1
    have hw163_0:=hx163_0
    cases e163
    replace hx163_0:=(HB.out.cell (World.block_lt_of_cell? w _ hx163_0)).trans hx163_0
    replace hx163_1:=(HB.out.cell (World.block_lt_of_cell? w _ hx163_1)).trans hx163_1
    replace hx163_2:=(HB.out.cell (World.block_lt_of_cell? w _ hx163_2)).trans hx163_2
    have HR163_2:=aQ hi163_2
    have HC163_2:=aQ hl163_2
    clear hi163_2 hl163_2
    replace p163:=eq_true p163
    replace q163:=eq_true q163
    have p164:0 ≤ (x5_1:Int):=of_decide_eq_true (by first | (with_reducible assumption) | assumption)
    have q164:x5_1 < (l1.length:Int):=of_decide_eq_true (by first | (with_reducible assumption) | assumption)
    obtain ⟨ad164,A164_2,c164_2,e164,hx164_0,hx164_1,hx164_2,hl164_2,hi164_2⟩:=at_T29 HR1.out x5_1 p164 q164
    have hw164_2:=hx164_2
    have hw164_1:=hx164_1
    have hw164_0:=hx164_0
    cases e164
    replace hx164_0:=(HB.out.cell (World.block_lt_of_cell? w _ hx164_0)).trans hx164_0
    replace hx164_1:=(HB.out.cell (World.block_lt_of_cell? w _ hx164_1)).trans hx164_1
    replace hx164_2:=(HB.out.cell (World.block_lt_of_cell? w _ hx164_2)).trans hx164_2
    have HR164_2:=aQ hi164_2
    have HC164_2:=aQ hl164_2
    clear hi164_2 hl164_2
    replace p164:=eq_true p164
    replace q164:=eq_true q164
    refine start_ (n:=10) (S:=fun w'=>w'.cell? (ad163.add ((x5_1).toNat * 3)) = some (.int .i64 ((rd_T29 l0 x5_1).f0))∧w'.cell? ⟨(ad163.add ((x5_1).toNat * 3)).block,(ad163.add ((x5_1).toNat * 3)).off + 1,none⟩ = some (.int .i64 ((rd_T29 l0 x5_1).f1))∧w'.cell? ⟨(ad163.add ((x5_1).toNat * 3)).block,(ad163.add ((x5_1).toNat * 3)).off + 2,none⟩ = some (.slice A163_2 ((rd_T29 l0 x5_1).f2).length c163_2)∧w'.cell? (ad164.add ((x5_1).toNat * 3)) = some (.int .i64 ((rd_T29 l1 x5_1).f0))∧w'.cell? ⟨(ad164.add ((x5_1).toNat * 3)).block,(ad164.add ((x5_1).toNat * 3)).off + 1,none⟩ = some (.int .i64 ((rd_T29 l1 x5_1).f1))∧w'.cell? ⟨(ad164.add ((x5_1).toNat * 3)).block,(ad164.add ((x5_1).toNat * 3)).off + 2,none⟩ = some (.slice A164_2 ((rd_T29 l1 x5_1).f2).length c164_2)) (ds:=[]) (bn 10 0) (by kernel_rfl) rfl rfl ⟨((HB.out.cell (World.block_lt_of_cell? w _ hw163_0)).trans hw163_0),((HB.out.cell (World.block_lt_of_cell? w _ hw163_1)).trans hw163_1),((HB.out.cell (World.block_lt_of_cell? w _ hw163_2)).trans hw163_2),((HB.out.cell (World.block_lt_of_cell? w _ hw164_0)).trans hw164_0),((HB.out.cell (World.block_lt_of_cell? w _ hw164_1)).trans hw164_1),((HB.out.cell (World.block_lt_of_cell? w _ hw164_2)).trans hw164_2)⟩ (fun hHeld=>?_);refine with_tabW laws_eqClockS.tab6 laws_eqClockS.bits6 (fun HT_ HW_=>?_)
    generalize wr.drew = w11 at HB HR163_2 HR164_2 hx163_0 hx163_1 hx163_2 hx164_0 hx164_1 hx164_2 hHeld ⊢
    refine pur (i:=0) (N:=some 17) (bn 10 1) ?_
    refine pur (i:=1) (N:=some 18) (bn 10 3) ?_
    refine pur (i:=2) (N:=some 19) (bn 10 7) ?_
    refine pur (i:=4) (N:=some 21) (bn 10 23) ?_
    refine pur (i:=5) (N:=some 22) (bn 10 55) ?_
    refine pur (i:=6) (N:=some 23) (bn 10 119) ?_
    refine tak (i:=3) (N:=some 20) (bn 10 127) ?_
    refine tak (i:=7) (N:=some 24) (bn 10 255) ?_
    refine one_ (i:=8) (N:=some 25) (bn 10 511) rfl rfl (one_of HT_.out (by kernel_rfl)) (by decide) (fun K hK=>?_)
    refine goes1 Try.func17 #[.agg #[.int .i64 ((rd_T29 l0 x5_1).f0),.int .i64 ((rd_T29 l0 x5_1).f1),.slice A163_2 ((rd_T29 l0 x5_1).f2).length c163_2],.agg #[.int .i64 ((rd_T29 l1 x5_1).f0),.int .i64 ((rd_T29 l1 x5_1).f1),.slice A164_2 ((rd_T29 l1 x5_1).f2).length c164_2]] ?_
    with_reducible refine (laws_eqClock.calls_of k1 (fun j_ hj_=>ih j_ (by first | omega | (have:=HK1.out;omega) | (have:=HK1.out;have:=HK2.out;omega))) ((rd_T29 l0 x5_1).f0) ((rd_T29 l0 x5_1).f1) _ _ ((rd_T29 l0 x5_1).f2) ((rd_T29 l1 x5_1).f0) ((rd_T29 l1 x5_1).f1) _ _ ((rd_T29 l1 x5_1).f2) false _ ?side1 ?side2 ?side3 ?side4 A7.out).mono ?_
    (case side1=>repeat (first | exact (Kd.C_below HR163_2.out HB.out) | (with_reducible refine Kd.C_alloc ?_ _) | (with_reducible refine Kd.C_drewN ?_ _) | (with_reducible refine Kd.C_drew ?_)))
    (case side2=>exact HC163_2.out)
    (case side3=>repeat (first | exact (Kd.C_below HR164_2.out HB.out) | (with_reducible refine Kd.C_alloc ?_ _) | (with_reducible refine Kd.C_drewN ?_ _) | (with_reducible refine Kd.C_drew ?_)))
    (case side4=>exact HC164_2.out)
    rintro e w12 ⟨rfl,hb⟩
    refine ⟨_,rfl,?_⟩
    replace HB:=aQ (below_step bB hb)
    (try clear hb)
    refine hK.out _ _ ⟨((HB.out.cell (World.block_lt_of_cell? w _ hw163_0)).trans hw163_0),((HB.out.cell (World.block_lt_of_cell? w _ hw163_1)).trans hw163_1),((HB.out.cell (World.block_lt_of_cell? w _ hw163_2)).trans hw163_2),((HB.out.cell (World.block_lt_of_cell? w _ hw164_0)).trans hw164_0),((HB.out.cell (World.block_lt_of_cell? w _ hw164_1)).trans hw164_1),((HB.out.cell (World.block_lt_of_cell? w _ hw164_2)).trans hw164_2)⟩ (fun hHeld=>?_)
    clear hK K
    refine nrm (N:=some 25) ?_
    refine pur (i:=9) (N:=some 26) (bn 10 1023) ?_
    refine done_ (done_of HT_.out (by kernel_rfl)) ?_
    try go_wp2
    go_ret
    exact ⟨rfl,bB⟩
theorem laws_eqClock.calls (k:Nat) (a0_0:Int) (a0_1:Int) (A0_2:Option Addr) (c0_2:Nat) (l0_2:List (S29)) (a1_0:Int) (a1_1:Int) (A1_2:Option Addr) (c1_2:Nat) (l1_2:List (S29)) (r:Bool) (w:World) (hr0_2:Kd.C k29 w A0_2 l0_2.length l0_2) (hc0_2:l0_2.length ≤ c0_2) (hr1_2:Kd.C k29 w A1_2 l1_2.length l1_2) (hc1_2:l1_2.length ≤ c1_2) (h:laws_eqClock.f k a0_0 a0_1 l0_2 a1_0 a1_1 l1_2 = some r) :
  Calls Try.prog 17 #[.agg #[.int .i64 a0_0,.int .i64 a0_1,.slice A0_2 l0_2.length c0_2],.agg #[.int .i64 a1_0,.int .i64 a1_1,.slice A1_2 l1_2.length c1_2]] w fun e w'=>e = .returned (.bool r)∧Below w.heap.size w w':=laws_eqClock.calls_of k (fun j_ _=>laws_eqClockS.calls j_) a0_0 a0_1 A0_2 c0_2 l0_2 a1_0 a1_1 A1_2 c1_2 l1_2 r w hr0_2 hc0_2 hr1_2 hc1_2 h
mutual
def laws_heldClockS.l0:Nat → List (S29) → Int → Int → Option (Int)
 | 0,_,_,_=>none
 | k + 1,x0,x1,x5=>if x5 < (x0.length:Int) then (if 0 ≤ x5 then (if ((rd_T29 x0 x5).f0) = x1 then (if ((rd_T29 x0 x5).f1) = (wrap64 (x1 + 1)) then ((laws_heldClockS.f k ((rd_T29 x0 x5).f2) (wrap64 ((wrap64 (x1 + 1)) + 1))).bind fun t682=>(if t682 < 0 then (some (-1)) else (laws_heldClockS.l0 k x0 t682 (wrap64 (x5 + 1))))) else (some (-1))) else (some (-1))) else (none)) else (some x1)
def laws_heldClockS.f:Nat → List (S29) → Int → Option (Int)
 | 0,_,_=>none
 | k + 1,l0,a1=>laws_heldClockS.l0 k l0 a1 0
end
theorem laws_heldClockS.mono_l:∀ k,(∀ y0 y1,LeO (laws_heldClockS.f k y0 y1) (laws_heldClockS.f (k + 1) y0 y1))∧(∀ y0 y1 y2,LeO (laws_heldClockS.l0 k y0 y1 y2) (laws_heldClockS.l0 (k + 1) y0 y1 y2))
 | 0=>⟨fun _ _ r h=>by simp [laws_heldClockS.f] at h,fun _ _ _ r h=>by simp [laws_heldClockS.l0] at h⟩
 | k + 1=>by
  obtain ⟨ih0,ih1⟩:=laws_heldClockS.mono_l k
  refine ⟨?_,?_⟩
  ·intro y0 y1
   unfold laws_heldClockS.f
   repeat' first
   | (with_reducible exact ih0 _ _)
   | (with_reducible exact ih1 _ _ _)
   | (with_reducible exact LeO.refl _)
   | (with_reducible exact LeO.none _)
   | (with_reducible refine LeO.ite ?_ ?_)
   | (with_reducible refine LeO.bind ?_ (fun _=>?_))
   | exact ih0 _ _
   | exact ih1 _ _ _
   | exact LeO.none _
   | refine LeO.ite ?_ ?_
   | refine LeO.bind ?_ (fun _=>?_)
  ·intro y0 y1 y2
   unfold laws_heldClockS.l0
   repeat' first
   | (with_reducible exact ih0 _ _)
   | (with_reducible exact ih1 _ _ _)
   | (with_reducible exact LeO.refl _)
   | (with_reducible exact LeO.none _)
   | (with_reducible refine LeO.ite ?_ ?_)
   | (with_reducible refine LeO.bind ?_ (fun _=>?_))
   | exact ih0 _ _
   | exact ih1 _ _ _
   | exact LeO.none _
   | refine LeO.ite ?_ ?_
   | refine LeO.bind ?_ (fun _=>?_)
theorem laws_heldClockS.mono:∀ a0 a1 k,LeO (laws_heldClockS.f k a0 a1) (laws_heldClockS.f (k + 1) a0 a1):=by
 intro a0 a1 k
 obtain ⟨ih0,ih1⟩:=laws_heldClockS.mono_l k
 exact ih0 a0 a1
set_option maxHeartbeats 8000000 in
set_option maxRecDepth 100000 in
theorem laws_heldClockS.calls (k:Nat):∀ (A0:Option Addr) (c0:Nat) (l0:List (S29)) (a1:Int) (r:Int) (w:World) (hr0:Kd.C k29 w A0 l0.length l0) (hc0:l0.length ≤ c0) (h:laws_heldClockS.f k l0 a1 = some r),
  Calls Try.prog 55 #[.slice A0 l0.length c0,.int .i64 a1] w fun e w'=>e = .returned (.int .i64 r)∧Drawn0 w w':=by
 induction k using Nat.strongRecOn with
 | _ k ih =>
 intro A0 c0 l0 a1 r w hr0 hc0 h
 cases k with
 | zero=>exact absurd h (by simp [laws_heldClockS.f])
 | succ k =>
 simp only [laws_heldClockS.f] at h
 have HR0:=Aside0.mk hr0
 have HC0:=Aside0.mk hc0
 clear hr0 hc0
 have H:(laws_heldClockS.l0 k l0 a1 0) = some r:=h
 clear h
 have H':=Aside0.mk H
 clear H
 go_enter Try.func55,Try.ntmps55
 go_wp2
 go_loopg [1,5] k (fun kq v1 v5 w'=>∃ (x1_1:Int) (x5_1:Int),v1 = .int .i64 x1_1∧v5 = .int .i64 x5_1∧Aside0 (laws_heldClockS.l0 kq l0 x1_1 x5_1 = some r)∧Aside0 (kq ≤ k)∧Drawn0 w w')
 case atStart=>exact ⟨(a1),(0),(by first | rfl | (simp;done) | (simp [*];done)),(by first | rfl | (simp;done) | (simp [*];done)),H',⟨Nat.le_refl _⟩,by repeat (first | exact Drawn0.refl _ | apply Drawn0.step)⟩
 case round =>
  clear H'
  try clear p2
  obtain ⟨x1_1,x5_1,rfl,rfl,HA,HK1,⟨m1,rfl⟩⟩:=hrel
  cases gk with
  | zero=>exact absurd HA.out (by simp [laws_heldClockS.l0])
  | succ k1 =>
   have H:=HA.out
   clear HA
   simp only [laws_heldClockS.l0] at H
   by_cases c3:x5_1 < (l0.length:Int)
   ·rw [if_pos c3] at H
    have c3b0:decide (x5_1 < (l0.length:Int)) = true:=decide_eq_true c3
    clear c3
    by_cases c4:0 ≤ x5_1
    ·rw [if_pos c4] at H
     have c4b0:decide (0 ≤ x5_1) = true:=decide_eq_true c4
     clear c4
     by_cases c5:((rd_T29 l0 x5_1).f0) = x1_1
     ·rw [if_pos c5] at H
      have c5b0:(((rd_T29 l0 x5_1).f0) == x1_1) = true:=beq_iff_eq.mpr c5
      have c5b1:(((rd_T29 l0 x5_1).f0) != x1_1) = false:=bne_eq_false_iff_eq.mpr c5
      clear c5
      by_cases c6:((rd_T29 l0 x5_1).f1) = (wrap64 (x1_1 + 1))
      ·rw [if_pos c6] at H
       have c6b0:(((rd_T29 l0 x5_1).f1) == (wrap64 (x1_1 + 1))) = true:=beq_iff_eq.mpr c6
       have c6b1:(((rd_T29 l0 x5_1).f1) != (wrap64 (x1_1 + 1))) = false:=bne_eq_false_iff_eq.mpr c6
       clear c6
       replace H:=Option.bind_eq_some_iff.mp H
       obtain ⟨t682,A70,H⟩:=H
       replace H:(if t682 < 0 then (some (-1)) else (laws_heldClockS.l0 k1 l0 t682 (wrap64 (x5_1 + 1)))) = some r:=H
       have A7:=Aside0.mk A70
       clear A70
       by_cases c8:t682 < 0
       ·rw [if_pos c8] at H
        have c8b0:decide (t682 < 0) = true:=decide_eq_true c8
        clear c8
        obtain rfl:=Option.some.inj H
        have p679:0 ≤ (x5_1:Int):=of_decide_eq_true (by first | (with_reducible assumption) | assumption)
        have q679:x5_1 < (l0.length:Int):=of_decide_eq_true (by first | (with_reducible assumption) | assumption)
        obtain ⟨ad679,A679_2,c679_2,e679,hx679_0,hx679_1,hx679_2,hl679_2,hi679_2⟩:=at_T29 HR0.out x5_1 p679 q679
        cases e679
        have HR679_2:=Aside0.mk hi679_2
        have HC679_2:=Aside0.mk hl679_2
        clear hi679_2 hl679_2
        replace p679:=eq_true p679
        replace q679:=eq_true q679
        have p680:0 ≤ (x5_1:Int):=of_decide_eq_true (by first | (with_reducible assumption) | assumption)
        have q680:x5_1 < (l0.length:Int):=of_decide_eq_true (by first | (with_reducible assumption) | assumption)
        obtain ⟨ad680,A680_2,c680_2,e680,hx680_0,hx680_1,hx680_2,hl680_2,hi680_2⟩:=at_T29 HR0.out x5_1 p680 q680
        obtain rfl:ad679 = ad680:=(by injection e680)
        have HR680_2:=Aside0.mk hi680_2
        have HC680_2:=Aside0.mk hl680_2
        clear hi680_2 hl680_2
        replace p680:=eq_true p680
        replace q680:=eq_true q680
        have ea_:=Option.some.inj (hx679_2.symm.trans hx680_2)
        injection ea_ with ea_ en_ ec_
        subst ea_
        subst ec_
        clear en_
        have p681:0 ≤ (x5_1:Int):=of_decide_eq_true (by first | (with_reducible assumption) | assumption)
        have q681:x5_1 < (l0.length:Int):=of_decide_eq_true (by first | (with_reducible assumption) | assumption)
        obtain ⟨ad681,A681_2,c681_2,e681,hx681_0,hx681_1,hx681_2,hl681_2,hi681_2⟩:=at_T29 HR0.out x5_1 p681 q681
        obtain rfl:ad679 = ad681:=(by injection e681)
        have HR681_2:=Aside0.mk hi681_2
        have HC681_2:=Aside0.mk hl681_2
        clear hi681_2 hl681_2
        replace p681:=eq_true p681
        replace q681:=eq_true q681
        have ea_:=Option.some.inj (hx679_2.symm.trans hx681_2)
        injection ea_ with ea_ en_ ec_
        subst ea_
        subst ec_
        clear en_
        go_wp2_with (first | ((with_reducible refine gate_callee (f:=55) rfl ?_);refine goesL_ (some 36) rfl rfl Try.func55 (by kernel_rfl) rfl #[.slice A679_2 ((rd_T29 l0 x5_1).f2).length c679_2,.int .i64 (wrap64 ((wrap64 (x1_1 + 1)) + 1))] rfl (by (try simp only [List.map_toArray,List.map_cons,List.map_nil]);first | done | rfl | (simp only [List.length_drop,List.length_take];rfl)) ?_;(with_reducible refine (ih k1 (by have:=HK1.out;omega) _ _ ((rd_T29 l0 x5_1).f2) (wrap64 ((wrap64 (x1_1 + 1)) + 1)) t682 _ ?side1 ?side2 A7.out).mono ?_);(case side1=>repeat (first | exact HR681_2.out | (with_reducible refine Kd.C_alloc ?_ _) | (with_reducible refine Kd.C_drewN ?_ _) | (with_reducible refine Kd.C_drew ?_)));(case side2=>exact HC681_2.out);rintro e w' ⟨rfl,⟨nd,rfl⟩⟩;refine ⟨_,rfl,?_⟩))
        go_ret
        exact ⟨by first | rfl | (simp;done) | (simp [*];done),by repeat (first | exact Drawn0.refl _ | apply Drawn0.step)⟩
       ·rw [if_neg c8] at H
        have c8b0:decide (t682 < 0) = false:=decide_eq_false c8
        clear c8
        have H':=Aside0.mk H
        clear H
        have p679:0 ≤ (x5_1:Int):=of_decide_eq_true (by first | (with_reducible assumption) | assumption)
        have q679:x5_1 < (l0.length:Int):=of_decide_eq_true (by first | (with_reducible assumption) | assumption)
        obtain ⟨ad679,A679_2,c679_2,e679,hx679_0,hx679_1,hx679_2,hl679_2,hi679_2⟩:=at_T29 HR0.out x5_1 p679 q679
        cases e679
        have HR679_2:=Aside0.mk hi679_2
        have HC679_2:=Aside0.mk hl679_2
        clear hi679_2 hl679_2
        replace p679:=eq_true p679
        replace q679:=eq_true q679
        have p680:0 ≤ (x5_1:Int):=of_decide_eq_true (by first | (with_reducible assumption) | assumption)
        have q680:x5_1 < (l0.length:Int):=of_decide_eq_true (by first | (with_reducible assumption) | assumption)
        obtain ⟨ad680,A680_2,c680_2,e680,hx680_0,hx680_1,hx680_2,hl680_2,hi680_2⟩:=at_T29 HR0.out x5_1 p680 q680
        obtain rfl:ad679 = ad680:=(by injection e680)
        have HR680_2:=Aside0.mk hi680_2
        have HC680_2:=Aside0.mk hl680_2
        clear hi680_2 hl680_2
        replace p680:=eq_true p680
        replace q680:=eq_true q680
        have ea_:=Option.some.inj (hx679_2.symm.trans hx680_2)
        injection ea_ with ea_ en_ ec_
        subst ea_
        subst ec_
        clear en_
        have p681:0 ≤ (x5_1:Int):=of_decide_eq_true (by first | (with_reducible assumption) | assumption)
        have q681:x5_1 < (l0.length:Int):=of_decide_eq_true (by first | (with_reducible assumption) | assumption)
        obtain ⟨ad681,A681_2,c681_2,e681,hx681_0,hx681_1,hx681_2,hl681_2,hi681_2⟩:=at_T29 HR0.out x5_1 p681 q681
        obtain rfl:ad679 = ad681:=(by injection e681)
        have HR681_2:=Aside0.mk hi681_2
        have HC681_2:=Aside0.mk hl681_2
        clear hi681_2 hl681_2
        replace p681:=eq_true p681
        replace q681:=eq_true q681
        have ea_:=Option.some.inj (hx679_2.symm.trans hx681_2)
        injection ea_ with ea_ en_ ec_
        subst ea_
        subst ec_
        clear en_
        go_wp2_with (first | ((with_reducible refine gate_callee (f:=55) rfl ?_);refine goesL_ (some 36) rfl rfl Try.func55 (by kernel_rfl) rfl #[.slice A679_2 ((rd_T29 l0 x5_1).f2).length c679_2,.int .i64 (wrap64 ((wrap64 (x1_1 + 1)) + 1))] rfl (by (try simp only [List.map_toArray,List.map_cons,List.map_nil]);first | done | rfl | (simp only [List.length_drop,List.length_take];rfl)) ?_;(with_reducible refine (ih k1 (by have:=HK1.out;omega) _ _ ((rd_T29 l0 x5_1).f2) (wrap64 ((wrap64 (x1_1 + 1)) + 1)) t682 _ ?side1 ?side2 A7.out).mono ?_);(case side1=>repeat (first | exact HR681_2.out | (with_reducible refine Kd.C_alloc ?_ _) | (with_reducible refine Kd.C_drewN ?_ _) | (with_reducible refine Kd.C_drew ?_)));(case side2=>exact HC681_2.out);rintro e w' ⟨rfl,⟨nd,rfl⟩⟩;refine ⟨_,rfl,?_⟩))
        go_roundg k1
        case measure=>have:=HK1.out;omega
        case rel=>exact ⟨(t682),(wrap64 (x5_1 + 1)),(by first | rfl | (simp;done) | (simp [*];done)),(by first | rfl | (simp;done) | (simp [*];done)),H',⟨by have:=HK1.out;omega⟩,by repeat (first | exact Drawn0.refl _ | apply Drawn0.step)⟩
      ·rw [if_neg c6] at H
       have c6b0:(((rd_T29 l0 x5_1).f1) == (wrap64 (x1_1 + 1))) = false:=beq_eq_false_iff_ne.mpr c6
       have c6b1:(((rd_T29 l0 x5_1).f1) != (wrap64 (x1_1 + 1))) = true:=bne_iff_ne.mpr c6
       obtain rfl:=Option.some.inj H
       have p679:0 ≤ (x5_1:Int):=of_decide_eq_true (by first | (with_reducible assumption) | assumption)
       have q679:x5_1 < (l0.length:Int):=of_decide_eq_true (by first | (with_reducible assumption) | assumption)
       obtain ⟨ad679,A679_2,c679_2,e679,hx679_0,hx679_1,hx679_2,hl679_2,hi679_2⟩:=at_T29 HR0.out x5_1 p679 q679
       cases e679
       have HR679_2:=Aside0.mk hi679_2
       have HC679_2:=Aside0.mk hl679_2
       clear hi679_2 hl679_2
       replace p679:=eq_true p679
       replace q679:=eq_true q679
       have p680:0 ≤ (x5_1:Int):=of_decide_eq_true (by first | (with_reducible assumption) | assumption)
       have q680:x5_1 < (l0.length:Int):=of_decide_eq_true (by first | (with_reducible assumption) | assumption)
       obtain ⟨ad680,A680_2,c680_2,e680,hx680_0,hx680_1,hx680_2,hl680_2,hi680_2⟩:=at_T29 HR0.out x5_1 p680 q680
       obtain rfl:ad679 = ad680:=(by injection e680)
       have HR680_2:=Aside0.mk hi680_2
       have HC680_2:=Aside0.mk hl680_2
       clear hi680_2 hl680_2
       replace p680:=eq_true p680
       replace q680:=eq_true q680
       have ea_:=Option.some.inj (hx679_2.symm.trans hx680_2)
       injection ea_ with ea_ en_ ec_
       subst ea_
       subst ec_
       clear en_
       go_wp2
       go_ret
       exact ⟨by first | rfl | (simp;done) | (simp [*];done),by repeat (first | exact Drawn0.refl _ | apply Drawn0.step)⟩
     ·rw [if_neg c5] at H
      have c5b0:(((rd_T29 l0 x5_1).f0) == x1_1) = false:=beq_eq_false_iff_ne.mpr c5
      have c5b1:(((rd_T29 l0 x5_1).f0) != x1_1) = true:=bne_iff_ne.mpr c5
      obtain rfl:=Option.some.inj H
      have p679:0 ≤ (x5_1:Int):=of_decide_eq_true (by first | (with_reducible assumption) | assumption)
      have q679:x5_1 < (l0.length:Int):=of_decide_eq_true (by first | (with_reducible assumption) | assumption)
      obtain ⟨ad679,A679_2,c679_2,e679,hx679_0,hx679_1,hx679_2,hl679_2,hi679_2⟩:=at_T29 HR0.out x5_1 p679 q679
      cases e679
      have HR679_2:=Aside0.mk hi679_2
      have HC679_2:=Aside0.mk hl679_2
      clear hi679_2 hl679_2
      replace p679:=eq_true p679
      replace q679:=eq_true q679
      go_wp2
      go_ret
      exact ⟨by first | rfl | (simp;done) | (simp [*];done),by repeat (first | exact Drawn0.refl _ | apply Drawn0.step)⟩
    ·rw [if_neg c4] at H
     exact absurd H (by simp)
   ·rw [if_neg c3] at H
    have c3b0:decide (x5_1 < (l0.length:Int)) = false:=decide_eq_false c3
    clear c3
    obtain rfl:=Option.some.inj H
    go_wp2
    go_ret
    exact ⟨by first | rfl | (simp;done) | (simp [*];done),by repeat (first | exact Drawn0.refl _ | apply Drawn0.step)⟩
def spec_ClockSteps.l0:Nat → List (S44) → Int → Option ((List (S44)) × Bool)
 | 0,_,_=>none
 | k + 1,x4,x5=>if x5 < (x4.length:Int) then (if 0 ≤ x5 then ((spec_l17Copy.f k ((rd_T44 x4 x5).f1.f0) ((rd_T44 x4 x5).f1.f1) ((rd_T44 x4 x5).f1.f2)).bind fun bt617=>(spec_ClockSteps.l0 k (x4.set (x5:Int).toNat (⟨(rd_T44 x4 x5).f0,(⟨bt617.1,bt617.2.1,bt617.2.2⟩:S29)⟩:S44)) (wrap64 (x5 + 1)))) else (none)) else (some (x4,true))
def spec_ClockSteps.f (k:Nat) (a0_0:Int) (a0_1:Int) (l0_2:List (S29)):Option ((List (S44)) × Bool):=(spec_ClockOk.f k a0_0 a0_1 l0_2).bind fun t612=>(if t612 = true then ((spec_l17Steps.f k a0_0 a0_1 l0_2).bind fun t613=>(spec_ClockSteps.l0 k t613 0)) else (some (([]:List (S44)),false)))
theorem spec_ClockSteps.mono_l:∀ k,(∀ y0 y1,LeO (spec_ClockSteps.l0 k y0 y1) (spec_ClockSteps.l0 (k + 1) y0 y1))
 | 0=>fun _ _ r h=>by simp [spec_ClockSteps.l0] at h
 | k + 1=>by
  have ih0:=spec_ClockSteps.mono_l k
  ·intro y0 y1
   unfold spec_ClockSteps.l0
   repeat' first
   | (with_reducible exact ih0 _ _)
   | (with_reducible exact spec_ClockOk.mono _ _ _ _)
   | (with_reducible exact spec_l17Copy.mono _ _ _ _)
   | (with_reducible exact spec_l17Steps.mono _ _ _ _)
   | (with_reducible exact LeO.refl _)
   | (with_reducible exact LeO.none _)
   | (with_reducible refine LeO.ite ?_ ?_)
   | (with_reducible refine LeO.bind ?_ (fun _=>?_))
   | exact ih0 _ _
   | exact spec_ClockOk.mono _ _ _ _
   | exact spec_l17Copy.mono _ _ _ _
   | exact spec_l17Steps.mono _ _ _ _
   | exact LeO.none _
   | refine LeO.ite ?_ ?_
   | refine LeO.bind ?_ (fun _=>?_)
theorem spec_ClockSteps.mono:∀ a0 a1 a2 k,LeO (spec_ClockSteps.f k a0 a1 a2) (spec_ClockSteps.f (k + 1) a0 a1 a2):=by
 intro a0 a1 a2 k
 have ih0:=spec_ClockSteps.mono_l k
 unfold spec_ClockSteps.f
 repeat' first
   | (with_reducible exact ih0 _ _)
   | (with_reducible exact spec_ClockOk.mono _ _ _ _)
   | (with_reducible exact spec_l17Copy.mono _ _ _ _)
   | (with_reducible exact spec_l17Steps.mono _ _ _ _)
   | (with_reducible exact LeO.refl _)
   | (with_reducible exact LeO.none _)
   | (with_reducible refine LeO.ite ?_ ?_)
   | (with_reducible refine LeO.bind ?_ (fun _=>?_))
   | exact ih0 _ _
   | exact spec_ClockOk.mono _ _ _ _
   | exact spec_l17Copy.mono _ _ _ _
   | exact spec_l17Steps.mono _ _ _ _
   | exact LeO.none _
   | refine LeO.ite ?_ ?_
   | refine LeO.bind ?_ (fun _=>?_)
set_option maxHeartbeats 8000000 in
set_option maxRecDepth 100000 in
theorem spec_ClockSteps.calls (k:Nat) (a0_0:Int) (a0_1:Int) (P0_2_:Nat → Prop) (A0_2:Option Addr) (c0_2:Nat) (l0_2:List (S29)) (r1:List (S44)) (r2:Bool) (w:World) (hs0_2:Kd.V k29 29 w w.heap.size (fun k_=>P0_2_ k_) (.slice A0_2 l0_2.length c0_2) l0_2) (h:spec_ClockSteps.f k a0_0 a0_1 l0_2 = some (r1,r2)) :
  Calls Try.prog 23 #[.agg #[.int .i64 a0_0,.int .i64 a0_1,.slice A0_2 l0_2.length c0_2]] w fun e w'=>∃ v0_:Value,e = .returned (.tuple #[v0_,.bool r2])∧Kd.N k44 44 w' w.heap.size (fun k_=>(P0_2_ k_ ∨ w.heap.size ≤ k_)) v0_ r1∧Below w.heap.size w w':=by
 have hu29:=Try.underlying29
 have HO0_2:=aQ (show Kd.V k29 29 w w.heap.size (fun k_=>(P0_2_ k_ ∨ w.heap.size ≤ k_)) (.slice A0_2 l0_2.length c0_2) l0_2 from Kd.V_mono hs0_2 (fun k_ hk=>.inl hk))
 have HB:=aQ (Below.refl w.heap.size w)
 have H:=h
 clear h
 obtain ⟨t612,A2,H⟩:=bQ H
 (try dsimp only at H)
 by_cases c3:t612 = true
 ·subst c3
  have H1:((spec_l17Steps.f k a0_0 a0_1 l0_2).bind fun t613=>(spec_ClockSteps.l0 k t613 0)) = some (r1,r2):=by rw [if_pos rfl] at H;exact H
  clear H
  have H:=H1
  clear H1
  obtain ⟨t613,A4,H⟩:=bQ H
  (try dsimp only at H)
  have H':=aQ H
  clear H
  go_enter Try.func23,Try.ntmps23
  go_wp2_with (first | ((with_reducible refine gate_dst (N:=1) rfl ?_);refine box1 (N:=1) (cs:=#[.int .i64 a0_0,.int .i64 a0_1,.slice A0_2 l0_2.length c0_2]) (t:=29) ?_;intro gb611 hg w5 hbox hb;replace HO0_2:=aQ (Kd.V_below (Kd.V_elderB (nV HO0_2.out) gb611 (Nat.le_of_eq hg.symm)) hb);have BK611:=aQ (hbox);have GW611:=aQ ((by rw [hg];exact (below_size bB):w.heap.size ≤ gb611));have GE611:=aQ ((by rw [hg];exact (below_size bB):w.heap.size ≤ gb611));replace HB:=aQ (below_step bB hb);clear hb hbox hg;have hcz6_0:w5.cell? ⟨gb611,0,none⟩ = some (.int .i64 a0_0):=(blk_cell BK611.out 0).trans rfl;have hcz6_1:w5.cell? ⟨gb611,1,none⟩ = some (.int .i64 a0_1):=(blk_cell BK611.out 1).trans rfl;have hcz6_2:w5.cell? ⟨gb611,2,none⟩ = some (.slice A0_2 l0_2.length c0_2):=(blk_cell BK611.out 2).trans rfl;have hfz6_0:=blk_frozen BK611.out 0;have hfz6_1:=blk_frozen BK611.out 1;have hfz6_2:=blk_frozen BK611.out 2) | ((with_reducible refine gate_callee (f:=14) rfl ?_);refine goesL_ (some 7) rfl rfl Try.func14 (by kernel_rfl) rfl #[.agg #[.int .i64 a0_0,.int .i64 a0_1,.slice A0_2 l0_2.length c0_2]] rfl mP ?_;(with_reducible refine (spec_ClockOk.calls k a0_0 a0_1 _ _ l0_2 true _ ?side1 ?side2 A2.out).mono ?_);(case side1=>repeat (first | exact (Kd.V_reads' HO0_2.out).2.2 | (with_reducible refine Kd.C_alloc ?_ _) | (with_reducible refine Kd.C_drewN ?_ _) | (with_reducible refine Kd.C_drew ?_)));(case side2=>exact (Kd.V_reads' HO0_2.out).2.1);rintro e w7 ⟨rfl,hb⟩;refine ⟨_,rfl,?_⟩;replace HO0_2:=aQ (Kd.V_below (nV HO0_2.out) hb);replace BK611:=aQ (blk_below (g:=gb611) (o:=.cells #[.int .i64 a0_0,.int .i64 a0_1,.slice A0_2 l0_2.length c0_2] 29 (0,0)) (nB BK611.out) hb);replace HB:=aQ (below_step bB hb);(try clear hb);have hcz8_0:w7.cell? ⟨gb611,0,none⟩ = some (.int .i64 a0_0):=(blk_cell BK611.out 0).trans rfl;have hcz8_1:w7.cell? ⟨gb611,1,none⟩ = some (.int .i64 a0_1):=(blk_cell BK611.out 1).trans rfl;have hcz8_2:w7.cell? ⟨gb611,2,none⟩ = some (.slice A0_2 l0_2.length c0_2):=(blk_cell BK611.out 2).trans rfl;have hfz8_0:=blk_frozen BK611.out 0;have hfz8_1:=blk_frozen BK611.out 1;have hfz8_2:=blk_frozen BK611.out 2) | ((with_reducible refine gate_callee (f:=51) rfl ?_);refine goesL_ (some 10) rfl rfl Try.func51 (by kernel_rfl) rfl #[.agg #[.int .i64 a0_0,.int .i64 a0_1,.slice A0_2 l0_2.length c0_2]] rfl mP ?_;(with_reducible refine (spec_l17Steps.calls k a0_0 a0_1 (fun k_=>((P0_2_ k_ ∨ w.heap.size ≤ k_)∧k_ ≠ gb611)) _ _ l0_2 t613 _ ?side1 A4.out).mono ?_);(case side1=>exact HO0_2.out);rintro e w9 ⟨v614,rfl,ho0,hb⟩;refine ⟨_,rfl,?_⟩;replace HO0_2:=aQ (Kd.V_elder' (nV HO0_2.out) (Kd.N_base ho0) hb);have HO615:=aQ (Kd.N_lower (Kd.N_mono (ok':=fun k_=>(P0_2_ k_ ∨ w.heap.size ≤ k_)∧k_ ≠ gb611) ho0 (fun k_ hk_=>⟨Or.elim hk_ (fun hs_=>hs_.1) (fun hn_=>(.inr (Nat.le_trans (below_size bB) hn_))),Or.elim hk_ (fun hs_=>hs_.2) (fun hn_=>(Kd.freshB (g:=gb611) (o:=.cells #[.int .i64 a0_0,.int .i64 a0_1,.slice A0_2 l0_2.length c0_2] 29 (0,0)) (nB BK611.out) k_ hn_))⟩)) (below_size bB));replace BK611:=aQ (blk_below (g:=gb611) (o:=.cells #[.int .i64 a0_0,.int .i64 a0_1,.slice A0_2 l0_2.length c0_2] 29 (0,0)) (nB BK611.out) hb);replace HB:=aQ (below_step bB hb);(try clear hb);(try clear ho0)))
  go_loopg [5] k (fun kq v5 w'=>∃ (x4_1:List (S44)) (x5_1:Int),v5 = .int .i64 x5_1∧Aside0 (spec_ClockSteps.l0 kq x4_1 x5_1 = some (r1,r2))∧Aside0 (kq ≤ k)∧Aside0 (Kd.N k44 44 w' w.heap.size (fun k_=>(P0_2_ k_ ∨ w.heap.size ≤ k_)∧k_ ≠ gb611) v614 x4_1)∧Aside0 (Kd.V k29 29 w' w.heap.size (fun k_=>(P0_2_ k_ ∨ w.heap.size ≤ k_)∧some k_ ≠ (v614:Value).ownBlock∧k_ ≠ gb611) (.slice A0_2 l0_2.length c0_2) l0_2)∧Aside0 (w'.heap[gb611]? = some (.cells #[.int .i64 a0_0,.int .i64 a0_1,(.slice A0_2 l0_2.length c0_2)] 29 (0,0)))∧Aside0 (Below w.heap.size w w'))
  case atStart=>exact ⟨(t613),(0),rfl,H',⟨Nat.le_refl _⟩,⟨nN HO615.out⟩,⟨nV (Kd.V_mono HO0_2.out (fun _ hk=>⟨hk.1.1,⟨hk.2,hk.1.2⟩⟩))⟩,⟨nB BK611.out⟩,⟨bB⟩⟩
  case round =>
   clear H'
   try clear hcz6_0
   try clear hcz6_1
   try clear hcz6_2
   try clear hcz8_0
   try clear hcz8_1
   try clear hcz8_2
   try clear hfz6_0
   try clear hfz6_1
   try clear hfz6_2
   try clear hfz8_0
   try clear hfz8_1
   try clear hfz8_2
   repeat (first | clear HO_4 | clear HO_612002 | clear BK611 | clear HB)
   obtain ⟨x4_1,x5_1,rfl,HA,HK1,HO_4,HO_612002,BK611,HB⟩:=hrel
   cases gk with
   | zero=>exact absurd HA.out (by simp [spec_ClockSteps.l0])
   | succ k1 =>
    have H:=HA.out
    clear HA
    simp only [spec_ClockSteps.l0] at H
    by_cases c10:x5_1 < (x4_1.length:Int);rotate_left
    ·rw [if_neg c10] at H
     have c10b0:decide (x5_1 < (x4_1.length:Int)) = false:=decide_eq_false c10
     clear c10
     simp only [Option.some.injEq,Prod.mk.injEq] at H
     obtain ⟨rfl,rfl⟩:=H
     obtain ⟨Ao18,co18,eo18⟩:=Kd.N_slice HO_4.out
     subst eo18
     go_wp2
     go_ret2
     exact ⟨_,rfl,by (with_reducible repeat (first | apply Kd.N_alloc | apply Kd.N_drewN | apply Kd.N_drew));exact Kd.N_mono HO_4.out (fun _ hk=>hk.1),bB⟩
    rw [if_pos c10] at H
    have c10b0:decide (x5_1 < (x4_1.length:Int)) = true:=decide_eq_true c10
    clear c10
    by_cases c11:0 ≤ x5_1;rotate_left
    ·rw [if_neg c11] at H
     exact absurd H (by simp)
    rw [if_pos c11] at H
    have c11b0:decide (0 ≤ x5_1) = true:=decide_eq_true c11
    clear c11
    obtain ⟨⟨t617,t618,t619⟩,A12,H⟩:=bQ H
    dsimp only at H
    obtain ⟨y622,hy622⟩:∃ y_:List (S44),y_ = (x4_1.set (x5_1:Int).toNat (⟨(rd_T44 x4_1 x5_1).f0,(⟨t617,t618,t619⟩:S29)⟩:S44)):=⟨_,rfl⟩
    replace H:(spec_ClockSteps.l0 k1 y622 (wrap64 (x5_1 + 1))) = some (r1,r2):=by rw [hy622];exact H
    have Ny622:=aQ hy622
    clear hy622
    have H':=aQ H
    clear H
    obtain ⟨Ao14,co14,eo14⟩:=Kd.N_slice HO_4.out
    subst eo14
    have p616:0 ≤ (x5_1:Int):=of_decide_eq_true (by first | (with_reducible assumption) | assumption)
    have q616:x5_1 < (x4_1.length:Int):=of_decide_eq_true (by first | (with_reducible assumption) | assumption)
    obtain ⟨ad616,A616_3,c616_3,e616,hx616_0,hx616_1,hx616_2,hx616_3,hl616_3,hi616_3⟩:=at_T44 (Kd.N_reads' HO_4.out).2.2 x5_1 p616 q616
    cases e616
    obtain ⟨ce616,hce616,hMe616,hcc616⟩:=Kd.N_get HO_4.out z44 x5_1 p616 (by first | exact q616 | exact of_decide_eq_true (by first | (with_reducible assumption) | assumption) | (have e_:=(Kd.N_reads' HO_4.out).1;omega))
    obtain ⟨ua616_3,uc616_3,rfl,ul616_3,ge616_3⟩:=k44_openF hMe616
    have hv616_3:=hcc616 3 _ rfl
    rw [add_field _ _ 3 (by omega)] at hv616_3
    replace hv616_3:=Option.some.inj (hv616_3.symm.trans hx616_3)
    injection hv616_3 with hva_ hvn_ hvc_
    rw [hva_] at ge616_3
    rw [hvc_] at ul616_3
    have HL616_3:=aQ (show Kd.V k29 29 _ w.heap.size _ _ ((rd_T44 x4_1 x5_1).f1.f2) from Kd.V_mk ul616_3 ge616_3)
    clear hva_ hvn_ hvc_ ge616_3 ul616_3
    clear hcc616 hce616
    have HR616_3:=aQ hi616_3
    have HC616_3:=aQ hl616_3
    clear hi616_3 hl616_3
    replace p616:=eq_true p616
    replace q616:=eq_true q616
    go_wp2_with (first | ((with_reducible refine gate_callee (f:=52) rfl ?_);refine goesL_ (some 24) rfl rfl Try.func52 (by kernel_rfl) rfl #[.agg #[.int .i64 ((rd_T44 x4_1 x5_1).f1.f0),.int .i64 ((rd_T44 x4_1 x5_1).f1.f1),.slice A616_3 ((rd_T44 x4_1 x5_1).f1.f2).length c616_3]] rfl mP ?_;(with_reducible refine (spec_l17Copy.calls k1 ((rd_T44 x4_1 x5_1).f1.f0) ((rd_T44 x4_1 x5_1).f1.f1) _ _ ((rd_T44 x4_1 x5_1).f1.f2) t617 t618 t619 _ ?side1 ?side2 A12.out).mono ?_);(case side1=>repeat (first | exact (nC HR616_3.out) | (with_reducible refine Kd.C_alloc ?_ _) | (with_reducible refine Kd.C_drewN ?_ _) | (with_reducible refine Kd.C_drew ?_)));(case side2=>exact HC616_3.out);rintro e w15 ⟨v620,rfl,ho0,hb⟩;refine ⟨_,rfl,?_⟩;replace HO_612002:=aQ (Kd.V_elder' (nV HO_612002.out) (Kd.N_base ho0) hb);replace HL616_3:=aQ (Kd.V_elder' (nV HL616_3.out) (Kd.N_base ho0) hb);have HO621:=aQ (Kd.N_lower (Kd.N_mono (ok':=fun k_=>(P0_2_ k_ ∨ w.heap.size ≤ k_)∧some k_ ≠ (.slice (some ad616) x4_1.length co14:Value).ownBlock∧k_ ≠ gb611) ho0 (fun k_ hk_=>⟨(.inr (Nat.le_trans (below_size bB) hk_)),(Kd.fresh' (Kd.N_lt (nN HO_4.out)) k_ hk_),(Kd.freshB (g:=gb611) (o:=.cells #[.int .i64 a0_0,.int .i64 a0_1,.slice A0_2 l0_2.length c0_2] 29 (0,0)) (nB BK611.out) k_ hk_)⟩)) (below_size bB));replace HO_4:=aQ (Kd.N_elder' (nN HO_4.out) (Kd.N_base ho0) hb);replace BK611:=aQ (blk_below (g:=gb611) (o:=.cells #[.int .i64 a0_0,.int .i64 a0_1,.slice A0_2 l0_2.length c0_2] 29 (0,0)) (nB BK611.out) hb);replace HR616_3:=aQ (Kd.C_below (nC HR616_3.out) hb);replace HB:=aQ (below_step bB hb);(try clear hb);(try clear ho0);obtain ⟨Aq620,cq620,eq620⟩:=Kd.N_slice HO621.out;subst eq620;have p13:0 ≤ (x5_1:Int):=of_decide_eq_true (by first | (with_reducible assumption) | assumption);have q13:(x5_1:Int) < ((x4_1.length:Int):Int):=of_decide_eq_true (by first | (with_reducible assumption) | assumption);obtain ⟨go13,co13,eo13,gb13,gl13,cl13,HG13⟩:=Kd.N_form HO_4.out (by omega);(first | cases eo13 | (injection eo13 with ea_ en_ ec_;(first | subst ea_ | (injection ea_ with ea_;subst ea_));subst ec_;clear en_));have GB13:=aQ gb13;have GG13:=aQ HG13;clear gb13 gl13 HG13;(first | simp only [add_plain] at hx616_0 | skip);(first | simp only [add_plain] at hx616_1 | skip);(first | simp only [add_plain] at hx616_2 | skip);(first | simp only [add_plain] at hx616_3 | skip);obtain ⟨ce13,hcl13,hM13,hcc13,hfr13⟩:=Kd.N_elem HO_4.out z44 (x5_1:Int) p13 q13;obtain ⟨ua13_3,uc13_3,rfl,ul13_3,ge13_3⟩:=k44_openF hM13;have hx13_0:w15.cell? ⟨go13,(x5_1:Int).toNat * 4,none⟩ = some (.int .i64 ((rd_T44 x4_1 x5_1).f0)):=hcc13 0 _ rfl;have hx13_1:w15.cell? ⟨go13,(x5_1:Int).toNat * 4 + 1,none⟩ = some (.int .i64 ((rd_T44 x4_1 x5_1).f1.f0)):=hcc13 1 _ rfl;have hx13_2:w15.cell? ⟨go13,(x5_1:Int).toNat * 4 + 2,none⟩ = some (.int .i64 ((rd_T44 x4_1 x5_1).f1.f1)):=hcc13 2 _ rfl;have hx13_3:w15.cell? ⟨go13,(x5_1:Int).toNat * 4 + 3,none⟩ = some (.slice ua13_3 ((rd_T44 x4_1 x5_1).f1.f2).length uc13_3):=hcc13 3 _ rfl;have hf13_0:w15.frozen? ⟨go13,(x5_1:Int).toNat * 4,none⟩ = false:=hfr13 0;have hf13_1:w15.frozen? ⟨go13,(x5_1:Int).toNat * 4 + 1,none⟩ = false:=hfr13 1;have hf13_2:w15.frozen? ⟨go13,(x5_1:Int).toNat * 4 + 2,none⟩ = false:=hfr13 2;have hf13_3:w15.frozen? ⟨go13,(x5_1:Int).toNat * 4 + 3,none⟩ = false:=hfr13 3;clear hcl13 hcc13 hfr13;(try clear hM13);replace p13:=eq_true p13;replace q13:=eq_true q13;have n_:=aQ (Kd.N_mono (ok':=(fun k_=>(P0_2_ k_ ∨ w.heap.size ≤ k_)∧some k_ ≠ ((.slice Aq620 t619.length cq620):Value).ownBlock∧k_ ≠ gb611)) HO_4.out (fun k_ hk=>⟨hk.1.1,⟨hk.2,hk.1.2⟩⟩));clear HO_4;have HO_4:=n_;clear n_;have HX16:=aQ (show Kd.N k44 44 w15 w.heap.size (fun k_=>(P0_2_ k_ ∨ w.heap.size ≤ k_)∧k_ ≠ gb611) (.slice (some ⟨go13,0,none⟩) x4_1.length co14) x4_1 from (nN (Kd.N_mono HO_4.out (fun _ hk=>⟨hk.1,hk.2.2⟩))));obtain ⟨ce16,hcl16,hM16,hcc16,hfr16⟩:=Kd.N_elem HX16.out z44 (x5_1:Int) (of_decide_eq_true (by first | (with_reducible assumption) | assumption)) (by have h_:(x5_1:Int) < ((x4_1.length:Int):Int):=of_decide_eq_true (by first | (with_reducible assumption) | assumption);first | exact h_ | (have e_:=(Kd.N_reads' HO_4.out).1;omega) | simpa using h_);obtain ⟨ua16_3,uc16_3,rfl,ul16_3,ge16_3⟩:=k44_openF hM16;have HP16:=Kd.N_seg HX16.out (x5_1:Int) (of_decide_eq_true (by first | (with_reducible assumption) | assumption)) (by have h_:(x5_1:Int) < ((x4_1.length:Int):Int):=of_decide_eq_true (by first | (with_reducible assumption) | assumption);first | exact h_ | (have e_:=(Kd.N_reads' HO_4.out).1;omega) | simpa using h_) (seg:=[.int .i64 t617,.int .i64 t618,(.slice Aq620 t619.length cq620)]) (j:=1) hcl16 hcc16 (show 4 ≤ 4 from by decide) (x':=(⟨(rd_T44 x4_1 x5_1).f0,(⟨t617,t618,t619⟩:S29)⟩:S44)) (k44_mkF _ _ (⟨(rd_T44 x4_1 x5_1).f0,(⟨t617,t618,t619⟩:S29)⟩:S44) (Kd.N_reads' (Kd.N_mono (ok':=(fun k_=>((fun k_=>(P0_2_ k_ ∨ w.heap.size ≤ k_)∧k_ ≠ gb611)) k_∧k_ ≠ go13)) (HO621.out) (fun k_ hk=>⟨⟨hk.1,hk.2.2⟩,fun e_=>(hk.2.1) (by rw [e_];rfl)⟩))).2.1 (Kd.N_F (Kd.N_mono (ok':=(fun k_=>((fun k_=>(P0_2_ k_ ∨ w.heap.size ≤ k_)∧k_ ≠ gb611)) k_∧k_ ≠ go13)) (HO621.out) (fun k_ hk=>⟨⟨hk.1,hk.2.2⟩,fun e_=>(hk.2.1) (by rw [e_];rfl)⟩)))) (fun _ hk=>hk);have hx16_1:=hcc16 1 _ rfl;(try simp only [show (k44).sz = 4 from rfl,Nat.mul_one,Nat.add_zero] at hx16_1);have hf16_1:=hfr16 1;(try simp only [show (k44).sz = 4 from rfl,Nat.mul_one,Nat.add_zero] at hf16_1);have hx16_2:=hcc16 2 _ rfl;(try simp only [show (k44).sz = 4 from rfl,Nat.mul_one,Nat.add_zero] at hx16_2);have hf16_2:=hfr16 2;(try simp only [show (k44).sz = 4 from rfl,Nat.mul_one,Nat.add_zero] at hf16_2);have hx16_3:=hcc16 3 _ rfl;(try simp only [show (k44).sz = 4 from rfl,Nat.mul_one,Nat.add_zero] at hx16_3);have hf16_3:=hfr16 3;(try simp only [show (k44).sz = 4 from rfl,Nat.mul_one,Nat.add_zero] at hf16_3);clear hcl16 hcc16 hfr16;(try clear hM16)) | ((with_reducible refine gate_store (t:=29) (p:=26) rfl ?_);refine store_event (t:=29) (p:=26) (v:=?vo_w17) (w1:=(((w15.setCell ⟨go13,(x5_1:Int).toNat * 4 + 1,none⟩ (.int .i64 t617)).setCell ⟨go13,(x5_1:Int).toNat * 4 + 2,none⟩ (.int .i64 t618)).setCell ⟨go13,(x5_1:Int).toNat * 4 + 3,none⟩ ((.slice Aq620 t619.length cq620)))) ?hg ?ho ?hn ?hr ?_;(case ho=>rfl);(case hg=>rfl);(case hn=>rfl);(case hr=>first | (go_simp;done) | (go_simp;rfl) | (obtain ⟨Ax_,cx_,ex_⟩:=Kd.R_slice (v:=(.slice Aq620 t619.length cq620)) (Aside0.out (by assumption));subst ex_;first | (go_simp;done) | (go_simp;rfl)) | (obtain ⟨Ax_,cx_,ex_⟩:=Kd.S_slice (v:=(.slice Aq620 t619.length cq620)) (Aside0.out (by assumption));subst ex_;first | (go_simp;done) | (go_simp;rfl)));intro w17 hw;have hg:w15.grownBy w17 (some go13):=(by rw [hw];exact HP16.2);have hp_:Kd.N k44 44 w17 w.heap.size (fun k_=>(P0_2_ k_ ∨ w.heap.size ≤ k_)∧k_ ≠ gb611) (.slice (some ⟨go13,0,none⟩) x4_1.length co14) y622:=(by rw [hw,Ny622.out];exact HP16.1);clear HP16;have n0_:=aQ (hp_);have n1_:=aQ (Kd.V_afterv (v:=(.slice (some ⟨go13,0,none⟩) x4_1.length co14)) (v1:=(.slice (some ⟨go13,0,none⟩) x4_1.length co14)) (ok:=(fun k_=>(P0_2_ k_ ∨ w.heap.size ≤ k_)∧some k_ ≠ ((.slice Aq620 t619.length cq620):Value).ownBlock∧k_ ≠ gb611)) (nV (Kd.V_mono HO_612002.out (fun _ hk=>⟨⟨hk.1.1,⟨hk.2,hk.1.2.2⟩⟩,hk.1.2.1⟩))) hg (.inl rfl));have n2_:=aQ (blk_grown (g:=gb611) (o:=.cells #[.int .i64 a0_0,.int .i64 a0_1,.slice A0_2 l0_2.length c0_2] 29 (0,0)) (nB BK611.out) hg (Kd.N_ne HO_4.out BK611.out (by decide)));have n3_:=aQ (Kd.V_afterv (v:=(.slice (some ⟨go13,0,none⟩) x4_1.length co14)) (v1:=(.slice (some ⟨go13,0,none⟩) x4_1.length co14)) (ok:=(fun k_=>(P0_2_ k_ ∨ w.heap.size ≤ k_)∧some k_ ≠ ((.slice Aq620 t619.length cq620):Value).ownBlock∧k_ ≠ gb611)) (nV (Kd.V_mono HL616_3.out (fun _ hk=>⟨⟨hk.1.1.1,⟨hk.2,hk.1.1.2⟩⟩,hk.1.2⟩))) hg (.inl rfl));have n4_:=aQ ((by rw [hw];exact below_set (below_set (below_set (HB.out) GB13.out) GB13.out) GB13.out:Below w.heap.size w w17));clear HO_4;clear HO_612002;clear BK611;clear HL616_3;clear HB;clear HO621;have HO_4:=n0_;have HO_612002:=n1_;have BK611:=n2_;have HL616_3:=n3_;have HB:=n4_;clear n0_ n1_ n2_ n3_ n4_;clear hg hw hp_))
    go_roundg k1
    case measure=>have:=HK1.out;omega
    case rel=>exact ⟨(y622),(wrap64 (x5_1 + 1)),rfl,H',⟨by have:=HK1.out;omega⟩,⟨nN HO_4.out⟩,⟨nV (Kd.V_mono HO_612002.out (fun _ hk=>⟨hk.1.1,⟨hk.2,hk.1.2.2⟩⟩))⟩,⟨nB BK611.out⟩,⟨bB⟩⟩
 ·replace c3:=Bool.eq_false_iff.mpr c3
  subst c3
  have H1:(some (([]:List (S44)),false)) = some (r1,r2):=by rw [if_neg (show ¬ (false = true) by decide)] at H;exact H
  clear H
  have H:=H1
  clear H1
  simp only [Option.some.injEq,Prod.mk.injEq] at H
  obtain ⟨rfl,rfl⟩:=H
  go_enter Try.func23,Try.ntmps23
  go_wp2_with (first | ((with_reducible refine gate_dst (N:=1) rfl ?_);refine box1 (N:=1) (cs:=#[.int .i64 a0_0,.int .i64 a0_1,.slice A0_2 l0_2.length c0_2]) (t:=29) ?_;intro gb611 hg w19 hbox hb;replace HO0_2:=aQ (Kd.V_below (Kd.V_elderB (nV HO0_2.out) gb611 (Nat.le_of_eq hg.symm)) hb);have BK611:=aQ (hbox);have GW611:=aQ ((by rw [hg];exact (below_size bB):w.heap.size ≤ gb611));have GE611:=aQ ((by rw [hg];exact (below_size bB):w.heap.size ≤ gb611));replace HB:=aQ (below_step bB hb);clear hb hbox hg;have hcz20_0:w19.cell? ⟨gb611,0,none⟩ = some (.int .i64 a0_0):=(blk_cell BK611.out 0).trans rfl;have hcz20_1:w19.cell? ⟨gb611,1,none⟩ = some (.int .i64 a0_1):=(blk_cell BK611.out 1).trans rfl;have hcz20_2:w19.cell? ⟨gb611,2,none⟩ = some (.slice A0_2 l0_2.length c0_2):=(blk_cell BK611.out 2).trans rfl;have hfz20_0:=blk_frozen BK611.out 0;have hfz20_1:=blk_frozen BK611.out 1;have hfz20_2:=blk_frozen BK611.out 2) | ((with_reducible refine gate_callee (f:=14) rfl ?_);refine goesL_ (some 7) rfl rfl Try.func14 (by kernel_rfl) rfl #[.agg #[.int .i64 a0_0,.int .i64 a0_1,.slice A0_2 l0_2.length c0_2]] rfl mP ?_;(with_reducible refine (spec_ClockOk.calls k a0_0 a0_1 _ _ l0_2 false _ ?side1 ?side2 A2.out).mono ?_);(case side1=>repeat (first | exact (Kd.V_reads' HO0_2.out).2.2 | (with_reducible refine Kd.C_alloc ?_ _) | (with_reducible refine Kd.C_drewN ?_ _) | (with_reducible refine Kd.C_drew ?_)));(case side2=>exact (Kd.V_reads' HO0_2.out).2.1);rintro e w21 ⟨rfl,hb⟩;refine ⟨_,rfl,?_⟩;replace HO0_2:=aQ (Kd.V_below (nV HO0_2.out) hb);replace BK611:=aQ (blk_below (g:=gb611) (o:=.cells #[.int .i64 a0_0,.int .i64 a0_1,.slice A0_2 l0_2.length c0_2] 29 (0,0)) (nB BK611.out) hb);replace HB:=aQ (below_step bB hb);(try clear hb)))
  go_ret2
  exact ⟨_,rfl,by first | exact Kd.R_nil _ _ _ _ _ | exact Kd.N_nil _ _ _ _ _ | exact Kd.V_nil _ _ _ _ _ | exact Kd.Q_nil _ _ _ _ _ | exact Kd.S_nil _ _ _ _ _,bB⟩
def impl_ClockOk.f (k:Nat) (a0_0:Int) (a0_1:Int) (l0_2:List (S29)):Option (Bool):=(impl_clockNodes.f k a0_0 a0_1 l0_2 16).bind fun t155=>(if t155 ≤ 16 then ((impl_clockShape.f k a0_0 a0_1 l0_2).bind fun t156=>(some t156)) else (some false))
theorem impl_ClockOk.mono:∀ a0 a1 a2 k,LeO (impl_ClockOk.f k a0 a1 a2) (impl_ClockOk.f (k + 1) a0 a1 a2):=by
 intro a0 a1 a2 k
 unfold impl_ClockOk.f
 repeat' first
   | (with_reducible exact impl_clockNodes.mono _ _ _ _ _)
   | (with_reducible exact impl_clockShape.mono _ _ _ _)
   | (with_reducible exact LeO.refl _)
   | (with_reducible exact LeO.none _)
   | (with_reducible refine LeO.ite ?_ ?_)
   | (with_reducible refine LeO.bind ?_ (fun _=>?_))
   | exact impl_clockNodes.mono _ _ _ _ _
   | exact impl_clockShape.mono _ _ _ _
   | exact LeO.none _
   | refine LeO.ite ?_ ?_
   | refine LeO.bind ?_ (fun _=>?_)
set_option maxHeartbeats 8000000 in
set_option maxRecDepth 100000 in
theorem impl_ClockOk.calls (k:Nat) (a0_0:Int) (a0_1:Int) (A0_2:Option Addr) (c0_2:Nat) (l0_2:List (S29)) (r:Bool) (w:World) (hr0_2:Kd.C k29 w A0_2 l0_2.length l0_2) (hc0_2:l0_2.length ≤ c0_2) (h:impl_ClockOk.f k a0_0 a0_1 l0_2 = some r) :
  Calls Try.prog 16 #[.agg #[.int .i64 a0_0,.int .i64 a0_1,.slice A0_2 l0_2.length c0_2]] w fun e w'=>e = .returned (.bool r)∧Below w.heap.size w w':=by
 have hu29:=Try.underlying29
 have HR0_2:=aQ hr0_2
 have HC0_2:=aQ hc0_2
 clear hr0_2 hc0_2
 have HB:=aQ (Below.refl w.heap.size w)
 have H:=h
 clear h
 obtain ⟨t155,A2,H⟩:=bQ H
 (try dsimp only at H)
 by_cases c3:t155 ≤ 16;rotate_left
 ·rw [if_neg c3] at H
  have c3b0:decide (t155 ≤ 16) = false:=decide_eq_false c3
  clear c3
  obtain rfl:=Option.some.inj H
  go_enter Try.func16,Try.ntmps16
  go_wp2_with (first | ((with_reducible refine gate_dst (N:=1) rfl ?_);refine box1 (N:=1) (cs:=#[.int .i64 a0_0,.int .i64 a0_1,.slice A0_2 l0_2.length c0_2]) (t:=29) ?_;intro gb154 hg w10 hbox hb;have BK154:=aQ (hbox);have GW154:=aQ (gB:w.heap.size ≤ gb154);have GE154:=GW154;replace HB:=aQ (below_step bB hb);clear hb hbox hg;obtain ⟨hcz11_0,hcz11_1,hcz11_2,hfz11_0,hfz11_1,hfz11_2⟩:=cz3 BK154.out) | ((with_reducible refine gate_callee (f:=42) rfl ?_);refine goesL_ (some 4) rfl rfl Try.func42 (by kernel_rfl) rfl #[.agg #[.int .i64 a0_0,.int .i64 a0_1,.slice A0_2 l0_2.length c0_2],.int .i64 16] rfl mP ?_;(with_reducible refine (impl_clockNodes.calls k a0_0 a0_1 _ _ l0_2 16 t155 _ ?side1 ?side2 A2.out).mono ?_);(case side1=>repeat (first | exact (Kd.C_below HR0_2.out HB.out) | (with_reducible refine Kd.C_alloc ?_ _) | (with_reducible refine Kd.C_drewN ?_ _) | (with_reducible refine Kd.C_drew ?_)));(case side2=>exact HC0_2.out);rintro e w12 ⟨rfl,hb⟩;refine ⟨_,rfl,?_⟩;replace BK154:=aQ (blk_below (nB BK154.out) hb);replace HB:=aQ (below_step bB hb);(try clear hb)))
  go_ret
  exact ⟨rfl,bB⟩
 rw [if_pos c3] at H
 have c3b0:decide (t155 ≤ 16) = true:=decide_eq_true c3
 clear c3
 obtain ⟨t156,A4,H⟩:=bQ H
 replace H:(some t156) = some r:=H
 obtain rfl:=Option.some.inj H
 go_enter Try.func16,Try.ntmps16
 go_wp2_with (first | ((with_reducible refine gate_dst (N:=1) rfl ?_);refine box1 (N:=1) (cs:=#[.int .i64 a0_0,.int .i64 a0_1,.slice A0_2 l0_2.length c0_2]) (t:=29) ?_;intro gb154 hg w5 hbox hb;have BK154:=aQ (hbox);have GW154:=aQ (gB:w.heap.size ≤ gb154);have GE154:=GW154;replace HB:=aQ (below_step bB hb);clear hb hbox hg;obtain ⟨hcz6_0,hcz6_1,hcz6_2,hfz6_0,hfz6_1,hfz6_2⟩:=cz3 BK154.out) | ((with_reducible refine gate_callee (f:=42) rfl ?_);refine goesL_ (some 4) rfl rfl Try.func42 (by kernel_rfl) rfl #[.agg #[.int .i64 a0_0,.int .i64 a0_1,.slice A0_2 l0_2.length c0_2],.int .i64 16] rfl mP ?_;(with_reducible refine (impl_clockNodes.calls k a0_0 a0_1 _ _ l0_2 16 t155 _ ?side1 ?side2 A2.out).mono ?_);(case side1=>repeat (first | exact (Kd.C_below HR0_2.out HB.out) | (with_reducible refine Kd.C_alloc ?_ _) | (with_reducible refine Kd.C_drewN ?_ _) | (with_reducible refine Kd.C_drew ?_)));(case side2=>exact HC0_2.out);rintro e w7 ⟨rfl,hb⟩;refine ⟨_,rfl,?_⟩;replace BK154:=aQ (blk_below (nB BK154.out) hb);replace HB:=aQ (below_step bB hb);(try clear hb);obtain ⟨hcz8_0,hcz8_1,hcz8_2,hfz8_0,hfz8_1,hfz8_2⟩:=cz3 BK154.out) | (go_at_call 43;(with_reducible refine (impl_clockShape.calls k a0_0 a0_1 _ _ l0_2 t156 _ ?side1 ?side2 A4.out).mono ?_);(case side1=>repeat (first | exact (Kd.C_below HR0_2.out HB.out) | (with_reducible refine Kd.C_alloc ?_ _) | (with_reducible refine Kd.C_drewN ?_ _) | (with_reducible refine Kd.C_drew ?_)));(case side2=>exact HC0_2.out);rintro e w9 ⟨rfl,hb⟩;replace BK154:=aQ (blk_below (nB BK154.out) hb);replace HB:=aQ (below_step bB hb);(try clear hb)))
 go_ret
 exact ⟨rfl,bB⟩
end Go.Proofs.Ytnkgcjdlfenepaa.P
