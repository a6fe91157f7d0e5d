/- What the Go functions that the laws reach compute, and that their calls come to just that: told by a program of this session (aprint.py). No condition. -/
import Derived.Test.YtnkgcjdlfenepaaP0
import Derived.Test.YtnkgcjdlfenepaaP1
import Derived.Test.YtnkgcjdlfenepaaHShape
import Derived.Test.YtnkgcjdlfenepaaCut
namespace Go.Proofs.Ytnkgcjdlfenepaa.P
open Go.RowKit Go.Proofs.YtnkgcjdlfenepaaW.PrintWords Go.Proofs.YtnkgcjdlfenepaaW.PrintLast Go.Proofs.YtnkgcjdlfenepaaW.PrintMore
attribute [local go_sem] max2_int min2_int max_two min_two max_three min_three max_four min_four
set_option linter.unusedVariables false
set_option linter.unusedSimpArgs false
mutual
def spec_l17Steps.l0:Nat → List (S44) → List (S44) → List (S44) → Int → Int → Int → List (S29) → Option ((List (S44)))
 | 0,_,_,_,_,_,_,_=>none
 | k + 1,x3,x4,x5,x6,x444000,x444001,x444002=>if x6 < (x4.length:Int) then (if 0 ≤ x6 then (if 1 < (x444002.length:Int) then ((spec_l17Two.f x444000 ((rd_T44 x4 x6).f1.f0) ((rd_T44 x4 x6).f1.f1) ((rd_T44 x4 x6).f1.f2) ((rd_T29 x444002 1).f0) ((rd_T29 x444002 1).f1) ((rd_T29 x444002 1).f2)).bind fun bt473=>(if x3.length < 2932031007402 then (spec_l17Steps.l0 k (x3 ++ [(⟨(rd_T44 x4 x6).f0,(⟨bt473.1,bt473.2.1,bt473.2.2⟩:S29)⟩:S44)]) x4 x5 (wrap64 (x6 + 1)) x444000 x444001 x444002) else (none))) else (none)) else (none)) else (spec_l17Steps.l1 k x3 x4 x5 0 x444000 x444001 x444002)
def spec_l17Steps.l1:Nat → List (S44) → List (S44) → List (S44) → Int → Int → Int → List (S29) → Option ((List (S44)))
 | 0,_,_,_,_,_,_,_=>none
 | k + 1,x3,x4,x5,x7,x444000,x444001,x444002=>if x7 < (x5.length:Int) then (if 0 ≤ x7 then (if 0 < (x444002.length:Int) then ((spec_l17Two.f x444000 ((rd_T29 x444002 0).f0) ((rd_T29 x444002 0).f1) ((rd_T29 x444002 0).f2) ((rd_T44 x5 x7).f1.f0) ((rd_T44 x5 x7).f1.f1) ((rd_T44 x5 x7).f1.f2)).bind fun bt484=>(if x3.length < 2932031007402 then (spec_l17Steps.l1 k (x3 ++ [(⟨(rd_T44 x5 x7).f0,(⟨bt484.1,bt484.2.1,bt484.2.2⟩:S29)⟩:S44)]) x4 x5 (wrap64 (x7 + 1)) x444000 x444001 x444002) else (none))) else (none)) else (none)) else (spec_l17Steps.l2 k x3 x4 x5 0 x444000 x444001 x444002)
def spec_l17Steps.l2:Nat → List (S44) → List (S44) → List (S44) → Int → Int → Int → List (S29) → Option ((List (S44)))
 | 0,_,_,_,_,_,_,_=>none
 | k + 1,x3,x4,x5,x8,x444000,x444001,x444002=>if x8 < (x4.length:Int) then (spec_l17Steps.l3 k x3 x4 x5 x8 0 x444000 x444001 x444002) else (some x3)
def spec_l17Steps.l3:Nat → List (S44) → List (S44) → List (S44) → Int → Int → Int → Int → List (S29) → Option ((List (S44)))
 | 0,_,_,_,_,_,_,_,_=>none
 | k + 1,x3,x4,x5,x8,x9,x444000,x444001,x444002=>if x9 < (x5.length:Int) then (if 0 ≤ x8 then (if x8 < (x4.length:Int) then (if ((rd_T44 x4 x8).f0) = 0 then (spec_l17Steps.l3 k x3 x4 x5 x8 (wrap64 (x9 + 1)) x444000 x444001 x444002) else (if 0 ≤ x9 then (if ((rd_T44 x4 x8).f0) = (wrap64 (-((rd_T44 x5 x9).f0))) then ((spec_l17Two.f x444000 ((rd_T44 x4 x8).f1.f0) ((rd_T44 x4 x8).f1.f1) ((rd_T44 x4 x8).f1.f2) ((rd_T44 x5 x9).f1.f0) ((rd_T44 x5 x9).f1.f1) ((rd_T44 x5 x9).f1.f2)).bind fun bt497=>(if x3.length < 2932031007402 then (spec_l17Steps.l3 k (x3 ++ [(⟨0,(⟨bt497.1,bt497.2.1,bt497.2.2⟩:S29)⟩:S44)]) x4 x5 x8 (wrap64 (x9 + 1)) x444000 x444001 x444002) else (none))) else (spec_l17Steps.l3 k x3 x4 x5 x8 (wrap64 (x9 + 1)) x444000 x444001 x444002)) else (none))) else (none)) else (none)) else (spec_l17Steps.l2 k x3 x4 x5 (wrap64 (x8 + 1)) x444000 x444001 x444002)
def spec_l17Steps.f:Nat → Int → Int → List (S29) → Option ((List (S44)))
 | 0,_,_,_=>none
 | k + 1,a0_0,a0_1,l0_2=>if a0_0 = 1 then (if 0 < (l0_2.length:Int) then (some (([(⟨a0_1,(⟨(rd_T29 l0_2 0).f0,(rd_T29 l0_2 0).f1,(rd_T29 l0_2 0).f2⟩:S29)⟩:S44)]:List (S44)))) else (none)) else (if a0_0 = 3 then (if 0 < (l0_2.length:Int) then ((spec_l17Steps.f k ((rd_T29 l0_2 0).f0) ((rd_T29 l0_2 0).f1) ((rd_T29 l0_2 0).f2)).bind fun t449=>(if 1 < (l0_2.length:Int) then ((spec_l17Steps.f k ((rd_T29 l0_2 1).f0) ((rd_T29 l0_2 1).f1) ((rd_T29 l0_2 1).f2)).bind fun t453=>(if t449.length + t453.length < 2932031007402 then (some (t449 ++ t453)) else (none))) else (none))) else (none)) else (if a0_0 = 4 then (if 0 < (l0_2.length:Int) then ((spec_l17Steps.f k ((rd_T29 l0_2 0).f0) ((rd_T29 l0_2 0).f1) ((rd_T29 l0_2 0).f2)).bind fun t463=>(if 1 < (l0_2.length:Int) then ((spec_l17Steps.f k ((rd_T29 l0_2 1).f0) ((rd_T29 l0_2 1).f1) ((rd_T29 l0_2 1).f2)).bind fun t467=>(spec_l17Steps.l0 k (([]:List (S44))) t463 t467 0 a0_0 a0_1 l0_2)) else (none))) else (none)) else (some (([]:List (S44))))))
end
theorem spec_l17Steps.mono_l:∀ k,(∀ y0 y1 y2,LeO (spec_l17Steps.f k y0 y1 y2) (spec_l17Steps.f (k + 1) y0 y1 y2))∧(∀ y0 y1 y2 y3 y4 y5 y6,LeO (spec_l17Steps.l0 k y0 y1 y2 y3 y4 y5 y6) (spec_l17Steps.l0 (k + 1) y0 y1 y2 y3 y4 y5 y6))∧(∀ y0 y1 y2 y3 y4 y5 y6,LeO (spec_l17Steps.l1 k y0 y1 y2 y3 y4 y5 y6) (spec_l17Steps.l1 (k + 1) y0 y1 y2 y3 y4 y5 y6))∧(∀ y0 y1 y2 y3 y4 y5 y6,LeO (spec_l17Steps.l2 k y0 y1 y2 y3 y4 y5 y6) (spec_l17Steps.l2 (k + 1) y0 y1 y2 y3 y4 y5 y6))∧(∀ y0 y1 y2 y3 y4 y5 y6 y7,LeO (spec_l17Steps.l3 k y0 y1 y2 y3 y4 y5 y6 y7) (spec_l17Steps.l3 (k + 1) y0 y1 y2 y3 y4 y5 y6 y7))
 | 0=>⟨fun _ _ _ r h=>by simp [spec_l17Steps.f] at h,fun _ _ _ _ _ _ _ r h=>by simp [spec_l17Steps.l0] at h,fun _ _ _ _ _ _ _ r h=>by simp [spec_l17Steps.l1] at h,fun _ _ _ _ _ _ _ r h=>by simp [spec_l17Steps.l2] at h,fun _ _ _ _ _ _ _ _ r h=>by simp [spec_l17Steps.l3] at h⟩
 | k + 1=>by
  obtain ⟨ih0,ih1,ih2,ih3,ih4⟩:=spec_l17Steps.mono_l k
  refine ⟨?_,?_,?_,?_,?_⟩
  ·intro y0 y1 y2
   unfold spec_l17Steps.f
   repeat' first
   | (with_reducible exact ih0 _ _ _)
   | (with_reducible exact ih1 _ _ _ _ _ _ _)
   | (with_reducible exact ih2 _ _ _ _ _ _ _)
   | (with_reducible exact ih3 _ _ _ _ _ _ _)
   | (with_reducible exact ih4 _ _ _ _ _ _ _ _)
   | (with_reducible exact LeO.refl _)
   | (with_reducible exact LeO.none _)
   | (with_reducible refine LeO.ite ?_ ?_)
   | (with_reducible refine LeO.bind ?_ (fun _=>?_))
   | exact ih0 _ _ _
   | exact ih1 _ _ _ _ _ _ _
   | exact ih2 _ _ _ _ _ _ _
   | exact ih3 _ _ _ _ _ _ _
   | exact ih4 _ _ _ _ _ _ _ _
   | exact LeO.none _
   | refine LeO.ite ?_ ?_
   | refine LeO.bind ?_ (fun _=>?_)
  ·intro y0 y1 y2 y3 y4 y5 y6
   unfold spec_l17Steps.l0
   repeat' first
   | (with_reducible exact ih0 _ _ _)
   | (with_reducible exact ih1 _ _ _ _ _ _ _)
   | (with_reducible exact ih2 _ _ _ _ _ _ _)
   | (with_reducible exact ih3 _ _ _ _ _ _ _)
   | (with_reducible exact ih4 _ _ _ _ _ _ _ _)
   | (with_reducible exact LeO.refl _)
   | (with_reducible exact LeO.none _)
   | (with_reducible refine LeO.ite ?_ ?_)
   | (with_reducible refine LeO.bind ?_ (fun _=>?_))
   | exact ih0 _ _ _
   | exact ih1 _ _ _ _ _ _ _
   | exact ih2 _ _ _ _ _ _ _
   | exact ih3 _ _ _ _ _ _ _
   | exact ih4 _ _ _ _ _ _ _ _
   | exact LeO.none _
   | refine LeO.ite ?_ ?_
   | refine LeO.bind ?_ (fun _=>?_)
  ·intro y0 y1 y2 y3 y4 y5 y6
   unfold spec_l17Steps.l1
   repeat' first
   | (with_reducible exact ih0 _ _ _)
   | (with_reducible exact ih1 _ _ _ _ _ _ _)
   | (with_reducible exact ih2 _ _ _ _ _ _ _)
   | (with_reducible exact ih3 _ _ _ _ _ _ _)
   | (with_reducible exact ih4 _ _ _ _ _ _ _ _)
   | (with_reducible exact LeO.refl _)
   | (with_reducible exact LeO.none _)
   | (with_reducible refine LeO.ite ?_ ?_)
   | (with_reducible refine LeO.bind ?_ (fun _=>?_))
   | exact ih0 _ _ _
   | exact ih1 _ _ _ _ _ _ _
   | exact ih2 _ _ _ _ _ _ _
   | exact ih3 _ _ _ _ _ _ _
   | exact ih4 _ _ _ _ _ _ _ _
   | exact LeO.none _
   | refine LeO.ite ?_ ?_
   | refine LeO.bind ?_ (fun _=>?_)
  ·intro y0 y1 y2 y3 y4 y5 y6
   unfold spec_l17Steps.l2
   repeat' first
   | (with_reducible exact ih0 _ _ _)
   | (with_reducible exact ih1 _ _ _ _ _ _ _)
   | (with_reducible exact ih2 _ _ _ _ _ _ _)
   | (with_reducible exact ih3 _ _ _ _ _ _ _)
   | (with_reducible exact ih4 _ _ _ _ _ _ _ _)
   | (with_reducible exact LeO.refl _)
   | (with_reducible exact LeO.none _)
   | (with_reducible refine LeO.ite ?_ ?_)
   | (with_reducible refine LeO.bind ?_ (fun _=>?_))
   | exact ih0 _ _ _
   | exact ih1 _ _ _ _ _ _ _
   | exact ih2 _ _ _ _ _ _ _
   | exact ih3 _ _ _ _ _ _ _
   | exact ih4 _ _ _ _ _ _ _ _
   | exact LeO.none _
   | refine LeO.ite ?_ ?_
   | refine LeO.bind ?_ (fun _=>?_)
  ·intro y0 y1 y2 y3 y4 y5 y6 y7
   unfold spec_l17Steps.l3
   repeat' first
   | (with_reducible exact ih0 _ _ _)
   | (with_reducible exact ih1 _ _ _ _ _ _ _)
   | (with_reducible exact ih2 _ _ _ _ _ _ _)
   | (with_reducible exact ih3 _ _ _ _ _ _ _)
   | (with_reducible exact ih4 _ _ _ _ _ _ _ _)
   | (with_reducible exact LeO.refl _)
   | (with_reducible exact LeO.none _)
   | (with_reducible refine LeO.ite ?_ ?_)
   | (with_reducible refine LeO.bind ?_ (fun _=>?_))
   | exact ih0 _ _ _
   | exact ih1 _ _ _ _ _ _ _
   | exact ih2 _ _ _ _ _ _ _
   | exact ih3 _ _ _ _ _ _ _
   | exact ih4 _ _ _ _ _ _ _ _
   | exact LeO.none _
   | refine LeO.ite ?_ ?_
   | refine LeO.bind ?_ (fun _=>?_)
theorem spec_l17Steps.mono:∀ a0 a1 a2 k,LeO (spec_l17Steps.f k a0 a1 a2) (spec_l17Steps.f (k + 1) a0 a1 a2):=by
 intro a0 a1 a2 k
 obtain ⟨ih0,ih1,ih2,ih3,ih4⟩:=spec_l17Steps.mono_l k
 exact ih0 a0 a1 a2
def spec_l17Steps.T3:Bool × List (List Nat × List Nat):=(true,[([],[]),([0],[0]),([],[]),([2],[2]),([3],[3]),([4],[4]),([1,5],[1,5]),([6],[6]),([7,0,1,2,3,4,5,6,7],[7])])
def spec_l17Steps.B3:List Nat:=[0,1,0,4,12,28,63,127,255]
theorem spec_l17Steps.tab3:rtab .any (opsOf Try.f51 3) = spec_l17Steps.T3:=by kernel_rfl
theorem spec_l17Steps.bits3:waitsOk spec_l17Steps.T3.2 spec_l17Steps.B3 = true:=by kernel_rfl
def spec_l17Steps.T5:Bool × List (List Nat × List Nat):=(true,[([],[]),([0],[0]),([1],[1]),([2],[2]),([3],[3]),([],[]),([5],[5]),([6],[6]),([7],[7]),([8,4],[8]),([4,9,9],[4,9]),([10,10,0,1,2,3,4,5,6,7,8,9,10],[10])])
def spec_l17Steps.B5:List Nat:=[0,1,3,7,15,0,32,96,224,511,1023,2047]
theorem spec_l17Steps.tab5:rtab .any (opsOf Try.f51 5) = spec_l17Steps.T5:=by kernel_rfl
theorem spec_l17Steps.bits5:waitsOk spec_l17Steps.T5.2 spec_l17Steps.B5 = true:=by kernel_rfl
def spec_l17Steps.T13:Bool × List (List Nat × List Nat):=(true,[([],[]),([],[]),([],[]),([1,2],[1,2]),([3],[3]),([4],[4]),([],[]),([6],[6]),([],[]),([],[]),([8,9],[8,9]),([10],[10]),([11],[11]),([],[]),([13],[13]),([14],[14]),([15],[15]),([7,12,16],[7,12,16]),([5,17],[5,17]),([18],[18]),([0,19,17],[0,19]),([20,20,0,1,2,3,4,5,6,7,8,9,10,11,12,13,14,15,16,17,18,19,20],[0,20])])
def spec_l17Steps.B13:List Nat:=[0,0,0,6,14,30,0,64,0,0,768,1792,3840,0,8192,24576,57344,131008,262142,524286,1048575,2097151]
theorem spec_l17Steps.tab13:rtab .any (opsOf Try.f51 13) = spec_l17Steps.T13:=by kernel_rfl
theorem spec_l17Steps.bits13:waitsOk spec_l17Steps.T13.2 spec_l17Steps.B13 = true:=by kernel_rfl
def spec_l17Steps.T17:Bool × List (List Nat × List Nat):=(true,[([],[]),([],[]),([],[]),([1,2],[1,2]),([3],[3]),([4],[4]),([],[]),([6],[6]),([],[]),([8],[8]),([9],[9]),([10],[10]),([],[]),([],[]),([12,13],[12,13]),([14],[14]),([15],[15]),([7,11,16],[7,11,16]),([5,17],[5,17]),([18],[18]),([0,19,17],[0,19]),([20,20,0,1,2,3,4,5,6,7,8,9,10,11,12,13,14,15,16,17,18,19,20],[0,20])])
def spec_l17Steps.B17:List Nat:=[0,0,0,6,14,30,0,64,0,256,768,1792,0,0,12288,28672,61440,131008,262142,524286,1048575,2097151]
theorem spec_l17Steps.tab17:rtab .any (opsOf Try.f51 17) = spec_l17Steps.T17:=by kernel_rfl
theorem spec_l17Steps.bits17:waitsOk spec_l17Steps.T17.2 spec_l17Steps.B17 = true:=by kernel_rfl
def spec_l17Steps.T24:Bool × List (List Nat × List Nat):=(true,[([],[]),([],[]),([0,1],[0,1]),([2],[2]),([3],[3]),([4],[4]),([5],[5]),([6],[6]),([6],[6]),([7,8,6],[6,7,8]),([9,6],[6,9]),([10,6],[6,10]),([6],[6]),([6],[6]),([12,13,6],[6,12,13]),([14,6],[6,14]),([15,6],[6,15]),([16,6],[6,16]),([11,17,6],[6,11,17]),([6,18],[6,18])])
def spec_l17Steps.B24:List Nat:=[0,0,3,7,15,31,63,127,127,511,1023,2047,127,127,12415,28799,61567,127103,262143,524287]
theorem spec_l17Steps.tab24:rtab .any (opsOf Try.f51 24) = spec_l17Steps.T24:=by kernel_rfl
theorem spec_l17Steps.bits24:waitsOk spec_l17Steps.T24.2 spec_l17Steps.B24 = true:=by kernel_rfl
def spec_l17Steps.T25:Bool × List (List Nat × List Nat):=(true,[([],[]),([],[]),([1],[1]),([],[]),([],[]),([3,4],[3,4]),([5],[5]),([6],[6]),([],[]),([],[]),([8,9],[8,9]),([10],[10]),([11],[11]),([2,7,12],[2,7,12]),([13],[13]),([14],[14]),([0,15,13],[0,15]),([16,16,0,1,2,3,4,5,6,7,8,9,10,11,12,13,14,15,16],[0,16])])
def spec_l17Steps.B25:List Nat:=[0,0,2,0,0,24,56,120,0,0,768,1792,3840,8190,16382,32766,65535,131071]
theorem spec_l17Steps.tab25:rtab .any (opsOf Try.f51 25) = spec_l17Steps.T25:=by kernel_rfl
theorem spec_l17Steps.bits25:waitsOk spec_l17Steps.T25.2 spec_l17Steps.B25 = true:=by kernel_rfl
set_option maxHeartbeats 8000000 in
set_option maxRecDepth 100000 in
theorem spec_l17Steps.calls (k:Nat):∀ (a0_0:Int) (a0_1:Int) (P0_2_:Nat → Prop) (A0_2:Option Addr) (c0_2:Nat) (l0_2:List (S29)) (r:List (S44)) (w:World) (hs0_2:Kd.V k29 29 w w.heap.size (fun k_=>P0_2_ k_) (.slice A0_2 l0_2.length c0_2) l0_2) (h:spec_l17Steps.f k a0_0 a0_1 l0_2 = some r),
  Calls Try.prog 51 #[.agg #[.int .i64 a0_0,.int .i64 a0_1,.slice A0_2 l0_2.length c0_2]] w fun e w'=>∃ v0_:Value,e = .returned (v0_)∧Kd.N k44 44 w' w.heap.size (fun k_=>(P0_2_ k_ ∨ w.heap.size ≤ k_)) v0_ r∧Below w.heap.size w w':=by
 induction k using Nat.strongRecOn with
 | _ k ih =>
 intro a0_0 a0_1 P0_2_ A0_2 c0_2 l0_2 r w hs0_2 h
 cases k with
 | zero=>exact absurd h (by simp [spec_l17Steps.f])
 | succ k =>
 simp only [spec_l17Steps.f] at h
 have hu29:=Try.underlying29
 have hu44:=Try.underlying44
 have Zg:=aQ (show Kd.V k29 29 w w.heap.size (fun k_=>(P0_2_ k_ ∨ w.heap.size ≤ k_)) (.slice A0_2 l0_2.length c0_2) l0_2 from Kd.V_mono hs0_2 (fun k_ hk=>.inl hk))
 have HB:=aQ (Below.refl w.heap.size w)
 have H:=h
 clear h
 by_cases c2:a0_0 = 1
 ·rw [if_pos c2] at H
  have c2b0:(a0_0 == 1) = true:=beq_iff_eq.mpr c2
  have c2b1:(a0_0 != 1) = false:=bne_eq_false_iff_eq.mpr c2
  clear c2
  by_cases c3:0 < (l0_2.length:Int);rotate_left
  ·rw [if_neg c3] at H
   exact absurd H (by simp)
  rw [if_pos c3] at H
  have c3b0:decide (0 < (l0_2.length:Int)) = true:=decide_eq_true c3
  have c3b1:decide (0 < l0_2.length) = true:=decide_eq_true (by omega)
  clear c3
  obtain ⟨y445,Vj⟩:∃ y_:List (S44),y_ = (([(⟨a0_1,(⟨(rd_T29 l0_2 0).f0,(rd_T29 l0_2 0).f1,(rd_T29 l0_2 0).f2⟩:S29)⟩:S44)]:List (S44))):=⟨_,rfl⟩
  replace H:(some y445) = some r:=by rw [Vj];exact H
  have VH:=aQ Vj
  clear Vj
  obtain rfl:=Option.some.inj H
  go_enter Try.func51,Try.ntmps51
  try go_wp2_with (first | ((with_reducible refine gate_dst (N:=1) rfl ?_);refine box1 (N:=1) (cs:=#[.int .i64 a0_0,.int .i64 a0_1,.slice A0_2 l0_2.length c0_2]) (t:=29) ?_;intro Zb hg w4 hbox hb;replace Zg:=aQ (Kd.V_below (Kd.V_elderB (nV Zg.out) Zb (Nat.le_of_eq hg.symm)) hb);have Za:=aQ (hbox);have Yu:=aQ (gB:w.heap.size ≤ Zb);have Vk:=Yu;replace HB:=aQ (below_step bB hb);clear hb hbox hg;obtain ⟨Sl,Sm,Sn,So,Sp,Sq⟩:=cz3 Za.out))
  replace Zg:=aQ (Kd.V_drew Zg.out)
  replace Za:=aQ (blk_drew Za.out)
  replace HB:=aQ (below_drew1 HB.out)
  have p444:0 ≤ (0:Int):=(by omega)
  have q444:0 < (l0_2.length:Int):=of_decide_eq_true (by first | (with_reducible assumption) | assumption)
  obtain ⟨YD,A444_2,c444_2,e444,YE,YF,Yb,Wn,Wo⟩:=at_T29 (Kd.V_reads' Zg.out).2.2 0 p444 q444
  cases e444
  obtain ⟨Sr,Uj,Uk,Vs⟩:=Kd.V_get Zg.out z29 0 p444 (by first | exact q444 | exact of_decide_eq_true (by first | (with_reducible assumption) | assumption) | (have e_:=(Kd.V_reads' Zg.out).1;omega))
  obtain ⟨Tm,Tn,rfl,Xp,Xq⟩:=k29_openF Uk
  have YG:=Vs 2 _ rfl
  rw [add_field _ _ 2 (by omega)] at YG
  replace YG:=Option.some.inj (YG.symm.trans Yb)
  injection YG with hva_ hvn_ hvc_
  rw [hva_] at Xq
  rw [hvc_] at Xp
  have Yc:=aQ (show Kd.V k29 29 _ w.heap.size _ _ ((rd_T29 l0_2 0).f2) from Kd.V_mk Xp Xq)
  clear hva_ hvn_ hvc_ Xq Xp
  clear Vs Uj
  have qi444:(0 < l0_2.length) = True:=eq_true (by omega)
  (try rw [show ((0:Int)).toNat = 0 from rfl,show 0 * 3 = 0 from rfl] at YE YF Yb)
  (try rw [Addr.add_zero'] at YE)
  (try rw [Addr.add_zero'] at YF)
  (try rw [Addr.add_zero'] at Yb)
  have Xr:=aQ Wo
  have To:=aQ Wn
  clear Wo Wn
  replace p444:=eq_true p444
  replace q444:=eq_true q444
  refine start_ (n:=9) (S:=fun w'=>w'.cell? ⟨Zb,0,none⟩ = some (.int .i64 a0_0)∧w'.cell? ⟨Zb,1,none⟩ = some (.int .i64 a0_1)∧w'.cell? ⟨Zb,2,none⟩ = some (.slice (some YD) l0_2.length c0_2)∧w'.cell? YD = some (.int .i64 ((rd_T29 l0_2 0).f0))∧w'.cell? ⟨YD.block,YD.off + 1,none⟩ = some (.int .i64 ((rd_T29 l0_2 0).f1))∧w'.cell? ⟨YD.block,YD.off + 2,none⟩ = some (.slice A444_2 ((rd_T29 l0_2 0).f2).length c444_2)) (ds:=[]) (bn 9 0) (by kernel_rfl) rfl rfl ⟨(blk_cell Za.out 0).trans rfl,(blk_cell Za.out 1).trans rfl,(blk_cell Za.out 2).trans rfl,YE,YF,Yb⟩ (fun hHeld=>?_);refine with_tabW spec_l17Steps.tab3 spec_l17Steps.bits3 (fun HT_ HW_=>?_)
  generalize w4.drew = w6 at Zg Za HB Yc Xr YE YF Yb hHeld ⊢
  refine pur (i:=0) (N:=some 14) (bn 9 1) ?_
  refine pur (i:=2) (N:=some 16) (bn 9 5) ?_
  refine tak (i:=1) (N:=some 15) (bn 9 7) ?_
  refine tak (i:=3) (N:=some 17) (bn 9 15) ?_
  refine pur (i:=4) (N:=some 18) (bn 9 31) ?_
  refine tak (i:=5) (N:=some 19) (bn 9 63) ?_
  refine pur (i:=6) (N:=some 20) (bn 9 127) ?_
  refine one_ (i:=7) (N:=some 21) (bn 9 255) rfl rfl (one_of HT_.out (by kernel_rfl)) (by decide) (fun K hK=>?_)
  refine Kd.N_lit_step k44 _ 44 ?hg (N':=21) ?hd (xs:=([(⟨a0_1,(⟨(rd_T29 l0_2 0).f0,(rd_T29 l0_2 0).f1,(rd_T29 l0_2 0).f2⟩:S29)⟩:S44)]:List (S44))) (inner:=[.int .i64 a0_1,.int .i64 ((rd_T29 l0_2 0).f0),.int .i64 ((rd_T29 l0_2 0).f1),.slice A444_2 ((rd_T29 l0_2 0).f2).length c444_2]) (ok:=(fun k_=>(P0_2_ k_ ∨ w.heap.size ≤ k_)∧k_ ≠ Zb)) (okp:=(fun k_=>(P0_2_ k_ ∨ w.heap.size ≤ k_)∧k_ ≠ Zb)) ?hr ?hp (fun _ hk=>hk) ((show ∀ k_,w6.heap.size ≤ k_ → (fun k_=>(P0_2_ k_ ∨ w.heap.size ≤ k_)∧k_ ≠ Zb) k_ from fun k_ hk=>⟨(.inr (Nat.le_trans (below_size bB) hk)),Kd.freshB (nB Za.out) k_ hk⟩) _ (Nat.le_refl _)) (Below.refl _ _) (Nat.le_refl _) (by simp) ?_;(case hd=>rfl);(case hg=>rfl);(case hr=>first | (go_simp;done) | (go_simp;rfl));(case hp=>exact (Reps.c4 (show Kd.FK k44 _ _ (⟨a0_1,(⟨(rd_T29 l0_2 0).f0,(rd_T29 l0_2 0).f1,(rd_T29 l0_2 0).f2⟩:S29)⟩:S44) [.int .i64 a0_1,.int .i64 ((rd_T29 l0_2 0).f0),.int .i64 ((rd_T29 l0_2 0).f1),.slice A444_2 ((rd_T29 l0_2 0).f2).length c444_2] from (k44_mkF _ _ (⟨a0_1,(⟨(rd_T29 l0_2 0).f0,(rd_T29 l0_2 0).f1,(rd_T29 l0_2 0).f2⟩:S29)⟩:S44) (Kd.V_reads' (Kd.V_mono (ok':=(fun k_=>(P0_2_ k_ ∨ w.heap.size ≤ k_)∧k_ ≠ Zb)) (Yc.out) (fun k_ hk=>⟨hk.1,hk.2⟩))).2.1 (Kd.V_F (Kd.V_mono (ok':=(fun k_=>(P0_2_ k_ ∨ w.heap.size ≤ k_)∧k_ ≠ Zb)) (Yc.out) (fun k_ hk=>⟨hk.1,hk.2⟩))))) (Reps.none _ _)))
  intro v446 w7 ho8 hb hg_ hnew_
  have HS3_:=(hb.cell (World.block_lt_of_cell? _ _ (hHeld.2.2.2.1))).trans (hHeld.2.2.2.1)
  have HS4_:=(hb.cell (World.block_lt_of_cell? _ _ (hHeld.2.2.2.2.1))).trans (hHeld.2.2.2.2.1)
  have HS5_:=(hb.cell (World.block_lt_of_cell? _ _ (hHeld.2.2.2.2.2))).trans (hHeld.2.2.2.2.2)
  clear hg_ hnew_
  (first | rw [← VH.out] at ho8 | (simp only [Int.reduceToNat] at ho8;rw [← VH.out] at ho8))
  replace Zg:=aQ (Kd.V_elder' (nV Zg.out) (Kd.N_base ho8) hb)
  replace Yc:=aQ (Kd.V_elder' (nV Yc.out) (Kd.N_base ho8) hb)
  have UN:=aQ (Kd.N_lower ho8 (below_size bB))
  replace Za:=aQ (blk_below (nB Za.out) hb)
  replace Xr:=aQ (Kd.C_below (nC Xr.out) hb)
  replace HB:=aQ (below_step bB hb)
  clear hb ho8
  refine hK.out _ _ ⟨(blk_cell Za.out 0).trans rfl,(blk_cell Za.out 1).trans rfl,(blk_cell Za.out 2).trans rfl,HS3_,HS4_,HS5_⟩ (fun hHeld=>?_)
  clear hK K
  refine nrm (N:=some 21) ?_
  refine pur (i:=8) (N:=some 2) (bn 9 511) ?_
  refine done_ (done_of HT_.out (by kernel_rfl)) ?_
  try go_wp2
  go_ret
  exact ⟨_,rfl,by (with_reducible repeat (first | apply Kd.N_alloc | apply Kd.N_drewN | apply Kd.N_drew));exact Kd.N_mono UN.out (fun _ hk=>hk.1),bB⟩
 rw [if_neg c2] at H
 have c2b0:(a0_0 == 1) = false:=beq_eq_false_iff_ne.mpr c2
 have c2b1:(a0_0 != 1) = true:=bne_iff_ne.mpr c2
 by_cases c9:a0_0 = 3
 ·rw [if_pos c9] at H
  have c9b0:(a0_0 == 3) = true:=beq_iff_eq.mpr c9
  have c9b1:(a0_0 != 3) = false:=bne_eq_false_iff_eq.mpr c9
  clear c9
  by_cases c10:0 < (l0_2.length:Int);rotate_left
  ·rw [if_neg c10] at H
   exact absurd H (by simp)
  rw [if_pos c10] at H
  have c10b0:decide (0 < (l0_2.length:Int)) = true:=decide_eq_true c10
  have c10b1:decide (0 < l0_2.length) = true:=decide_eq_true (by omega)
  clear c10
  obtain ⟨t449,A11,H⟩:=bQ H
  (try dsimp only at H)
  by_cases c12:1 < (l0_2.length:Int);rotate_left
  ·rw [if_neg c12] at H
   exact absurd H (by simp)
  rw [if_pos c12] at H
  have c12b0:decide (1 < (l0_2.length:Int)) = true:=decide_eq_true c12
  have c12b1:decide (1 < l0_2.length) = true:=decide_eq_true (by omega)
  clear c12
  obtain ⟨t453,A13,H⟩:=bQ H
  (try dsimp only at H)
  by_cases c14:t449.length + t453.length < 2932031007402;rotate_left
  ·rw [if_neg c14] at H
   exact absurd H (by simp)
  rw [if_pos c14] at H
  have LMc14:=aQ c14
  clear c14
  obtain ⟨y456,Vl⟩:∃ y_:List (S44),y_ = (t449 ++ t453):=⟨_,rfl⟩
  replace H:(some y456) = some r:=by rw [Vl];exact H
  have UO:=aQ Vl
  clear Vl
  obtain rfl:=Option.some.inj H
  go_enter Try.func51,Try.ntmps51
  try go_wp2_with (first | ((with_reducible refine gate_dst (N:=1) rfl ?_);refine box1 (N:=1) (cs:=#[.int .i64 a0_0,.int .i64 a0_1,.slice A0_2 l0_2.length c0_2]) (t:=29) ?_;intro Zb hg w15 hbox hb;replace Zg:=aQ (Kd.V_below (Kd.V_elderB (nV Zg.out) Zb (Nat.le_of_eq hg.symm)) hb);have Za:=aQ (hbox);have Yu:=aQ (gB:w.heap.size ≤ Zb);have Vk:=Yu;replace HB:=aQ (below_step bB hb);clear hb hbox hg;obtain ⟨Tp,Tq,Tr,Ts,Tt,Tu⟩:=cz3 Za.out))
  replace Zg:=aQ (Kd.V_drew Zg.out)
  replace Za:=aQ (blk_drew Za.out)
  replace HB:=aQ (below_drew1 HB.out)
  have p448:0 ≤ (0:Int):=(by omega)
  have q448:0 < (l0_2.length:Int):=of_decide_eq_true (by first | (with_reducible assumption) | assumption)
  obtain ⟨Zx,A448_2,c448_2,e448,YH,YI,Yd,Wp,Wq⟩:=at_T29 (Kd.V_reads' Zg.out).2.2 0 p448 q448
  cases e448
  obtain ⟨Ss,Ul,Um,Vt⟩:=Kd.V_get Zg.out z29 0 p448 (by first | exact q448 | exact of_decide_eq_true (by first | (with_reducible assumption) | assumption) | (have e_:=(Kd.V_reads' Zg.out).1;omega))
  obtain ⟨Tv,Tw,rfl,Xs,Xt⟩:=k29_openF Um
  have YJ:=Vt 2 _ rfl
  rw [add_field _ _ 2 (by omega)] at YJ
  replace YJ:=Option.some.inj (YJ.symm.trans Yd)
  injection YJ with hva_ hvn_ hvc_
  rw [hva_] at Xt
  rw [hvc_] at Xs
  have Zy:=aQ (show Kd.V k29 29 _ w.heap.size _ _ ((rd_T29 l0_2 0).f2) from Kd.V_mk Xs Xt)
  clear hva_ hvn_ hvc_ Xt Xs
  clear Vt Ul
  have qi448:(0 < l0_2.length) = True:=eq_true (by omega)
  (try rw [show ((0:Int)).toNat = 0 from rfl,show 0 * 3 = 0 from rfl] at YH YI Yd)
  (try rw [Addr.add_zero'] at YH)
  (try rw [Addr.add_zero'] at YI)
  (try rw [Addr.add_zero'] at Yd)
  have Ye:=aQ Wq
  have Tx:=aQ Wp
  clear Wq Wp
  replace p448:=eq_true p448
  replace q448:=eq_true q448
  have p452:0 ≤ (1:Int):=(by omega)
  have q452:1 < (l0_2.length:Int):=of_decide_eq_true (by first | (with_reducible assumption) | assumption)
  obtain ⟨UP,A452_2,c452_2,e452,YK,YL,Yf,Wr,Ws⟩:=at_T29 (Kd.V_reads' Zg.out).2.2 1 p452 q452
  obtain rfl:Zx = UP:=(by injection e452)
  obtain ⟨St,Un,Uo,Vu⟩:=Kd.V_get Zg.out z29 1 p452 (by first | exact q452 | exact of_decide_eq_true (by first | (with_reducible assumption) | assumption) | (have e_:=(Kd.V_reads' Zg.out).1;omega))
  obtain ⟨Ty,Tz,rfl,Xu,Xv⟩:=k29_openF Uo
  have YM:=Vu 2 _ rfl
  rw [add_field _ _ 2 (by omega)] at YM
  replace YM:=Option.some.inj (YM.symm.trans Yf)
  injection YM with hva_ hvn_ hvc_
  rw [hva_] at Xv
  rw [hvc_] at Xu
  have Zz:=aQ (show Kd.V k29 29 _ w.heap.size _ _ ((rd_T29 l0_2 1).f2) from Kd.V_mk Xu Xv)
  clear hva_ hvn_ hvc_ Xv Xu
  clear Vu Un
  (try simp only [show (1:Int).toNat = 1 from rfl,Nat.reduceMul,Nat.reduceEqDiff,Go.Addr.add,↓reduceIte] at YK)
  (try simp only [show (1:Int).toNat = 1 from rfl,Nat.reduceMul,Nat.reduceEqDiff,Go.Addr.add,↓reduceIte] at YL)
  (try simp only [show (1:Int).toNat = 1 from rfl,Nat.reduceMul,Nat.reduceEqDiff,Go.Addr.add,↓reduceIte] at Yf)
  have qi452:(1 < l0_2.length) = True:=eq_true (by omega)
  (try rw [show ((1:Int)).toNat = 1 from rfl,show 1 * 3 = 3 from rfl] at YK YL Yf)
  have Yg:=aQ Ws
  have TA:=aQ Wr
  clear Ws Wr
  replace p452:=eq_true p452
  replace q452:=eq_true q452
  refine start_ (n:=12) (S:=fun w'=>w'.cell? ⟨Zb,0,none⟩ = some (.int .i64 a0_0)∧w'.cell? ⟨Zb,1,none⟩ = some (.int .i64 a0_1)∧w'.cell? ⟨Zb,2,none⟩ = some (.slice (some Zx) l0_2.length c0_2)∧w'.cell? Zx = some (.int .i64 ((rd_T29 l0_2 0).f0))∧w'.cell? ⟨Zx.block,Zx.off + 1,none⟩ = some (.int .i64 ((rd_T29 l0_2 0).f1))∧w'.cell? ⟨Zx.block,Zx.off + 2,none⟩ = some (.slice A448_2 ((rd_T29 l0_2 0).f2).length c448_2)∧w'.cell? ⟨Zx.block,Zx.off + 3,none⟩ = some (.int .i64 ((rd_T29 l0_2 1).f0))∧w'.cell? ⟨Zx.block,Zx.off + 3 + 1,none⟩ = some (.int .i64 ((rd_T29 l0_2 1).f1))∧w'.cell? ⟨Zx.block,Zx.off + 3 + 2,none⟩ = some (.slice A452_2 ((rd_T29 l0_2 1).f2).length c452_2)) (ds:=[10]) (bn 12 0) (by kernel_rfl) rfl rfl ⟨(blk_cell Za.out 0).trans rfl,(blk_cell Za.out 1).trans rfl,(blk_cell Za.out 2).trans rfl,YH,YI,Yd,YK,YL,Yf⟩ (fun hHeld=>?_);refine with_tabW spec_l17Steps.tab5 spec_l17Steps.bits5 (fun HT_ HW_=>?_)
  generalize w15.drew = w17 at Zg Za HB Zy Zz Ye Yg YH YI Yd YK YL Yf hHeld ⊢
  refine pur (i:=0) (N:=some 24) (bn 12 1) ?_
  refine pur (i:=5) (N:=some 29) (bn 12 33) ?_
  refine tak (i:=1) (N:=some 25) (bn 12 35) ?_
  refine pur (i:=2) (N:=some 26) (bn 12 39) ?_
  refine tak (i:=3) (N:=some 27) (bn 12 47) ?_
  refine tak (i:=6) (N:=some 30) (bn 12 111) ?_
  refine pur (i:=7) (N:=some 31) (bn 12 239) ?_
  refine tak (i:=8) (N:=some 32) (bn 12 495) ?_
  refine one_ (i:=4) (N:=some 28) (bn 12 511) rfl rfl (one_of HT_.out (by kernel_rfl)) (by decide) (fun K hK=>?_)
  refine goes1 Try.func51 #[.agg #[.int .i64 ((rd_T29 l0_2 0).f0),.int .i64 ((rd_T29 l0_2 0).f1),.slice A448_2 ((rd_T29 l0_2 0).f2).length c448_2]] ?_
  with_reducible refine (ih k (by omega) ((rd_T29 l0_2 0).f0) ((rd_T29 l0_2 0).f1) (fun k_=>((P0_2_ k_ ∨ w.heap.size ≤ k_)∧k_ ≠ Zb)) _ _ ((rd_T29 l0_2 0).f2) t449 _ ?ZA A11.out).mono ?_
  (case ZA=>exact Zy.out)
  rintro e w18 ⟨v450,rfl,ho0,hb⟩
  have HS3_:=(hb.cell (World.block_lt_of_cell? _ _ (hHeld.2.2.2.1))).trans (hHeld.2.2.2.1)
  have HS4_:=(hb.cell (World.block_lt_of_cell? _ _ (hHeld.2.2.2.2.1))).trans (hHeld.2.2.2.2.1)
  have HS5_:=(hb.cell (World.block_lt_of_cell? _ _ (hHeld.2.2.2.2.2.1))).trans (hHeld.2.2.2.2.2.1)
  have HS6_:=(hb.cell (World.block_lt_of_cell? _ _ (hHeld.2.2.2.2.2.2.1))).trans (hHeld.2.2.2.2.2.2.1)
  have HS7_:=(hb.cell (World.block_lt_of_cell? _ _ (hHeld.2.2.2.2.2.2.2.1))).trans (hHeld.2.2.2.2.2.2.2.1)
  have HS8_:=(hb.cell (World.block_lt_of_cell? _ _ (hHeld.2.2.2.2.2.2.2.2))).trans (hHeld.2.2.2.2.2.2.2.2)
  refine ⟨_,rfl,?_⟩
  replace Zg:=aQ (Kd.V_elder' (nV Zg.out) (Kd.N_base ho0) hb)
  replace Zy:=aQ (Kd.V_elder' (nV Zy.out) (Kd.N_base ho0) hb)
  replace Zz:=aQ (Kd.V_elder' (nV Zz.out) (Kd.N_base ho0) hb)
  have YN:=aQ (Kd.N_lower (Kd.N_mono (ok':=fun k_=>(P0_2_ k_ ∨ w.heap.size ≤ k_)∧k_ ≠ Zb) ho0 (fun k_ hk_=>⟨Or.elim hk_ (fun hs_=>hs_.1) (fun hn_=>(.inr (Nat.le_trans (below_size bB) hn_))),Or.elim hk_ (fun hs_=>hs_.2) (fun hn_=>(Kd.freshB (nB Za.out) k_ hn_))⟩)) (below_size bB))
  replace Za:=aQ (blk_below (nB Za.out) hb)
  replace Ye:=aQ (Kd.C_below (nC Ye.out) hb)
  replace Yg:=aQ (Kd.C_below (nC Yg.out) hb)
  replace HB:=aQ (below_step bB hb)
  (try clear hb)
  (try clear ho0)
  refine hK.out _ _ ⟨(blk_cell Za.out 0).trans rfl,(blk_cell Za.out 1).trans rfl,(blk_cell Za.out 2).trans rfl,HS3_,HS4_,HS5_,HS6_,HS7_,HS8_⟩ (fun hHeld=>?_)
  clear hK K
  refine nrm (N:=some 28) ?_
  refine one_ (i:=9) (N:=some 33) (bn 12 1023) rfl rfl (one_of HT_.out (by kernel_rfl)) (by decide) (fun K hK=>?_)
  refine goes1 Try.func51 #[.agg #[.int .i64 ((rd_T29 l0_2 1).f0),.int .i64 ((rd_T29 l0_2 1).f1),.slice A452_2 ((rd_T29 l0_2 1).f2).length c452_2]] ?_
  with_reducible refine (ih k (by omega) ((rd_T29 l0_2 1).f0) ((rd_T29 l0_2 1).f1) (fun k_=>(((P0_2_ k_ ∨ w.heap.size ≤ k_)∧k_ ≠ Zb)∧some k_ ≠ (v450:Value).ownBlock)) _ _ ((rd_T29 l0_2 1).f2) t453 _ ?ZA A13.out).mono ?_
  (case ZA=>exact Zz.out)
  rintro e w19 ⟨v454,rfl,ho0,hb⟩
  have HS3_:=(hb.cell (World.block_lt_of_cell? _ _ (hHeld.2.2.2.1))).trans (hHeld.2.2.2.1)
  have HS4_:=(hb.cell (World.block_lt_of_cell? _ _ (hHeld.2.2.2.2.1))).trans (hHeld.2.2.2.2.1)
  have HS5_:=(hb.cell (World.block_lt_of_cell? _ _ (hHeld.2.2.2.2.2.1))).trans (hHeld.2.2.2.2.2.1)
  have HS6_:=(hb.cell (World.block_lt_of_cell? _ _ (hHeld.2.2.2.2.2.2.1))).trans (hHeld.2.2.2.2.2.2.1)
  have HS7_:=(hb.cell (World.block_lt_of_cell? _ _ (hHeld.2.2.2.2.2.2.2.1))).trans (hHeld.2.2.2.2.2.2.2.1)
  have HS8_:=(hb.cell (World.block_lt_of_cell? _ _ (hHeld.2.2.2.2.2.2.2.2))).trans (hHeld.2.2.2.2.2.2.2.2)
  refine ⟨_,rfl,?_⟩
  replace Zg:=aQ (Kd.V_elder' (nV Zg.out) (Kd.N_base ho0) hb)
  replace Zy:=aQ (Kd.V_elder' (nV Zy.out) (Kd.N_base ho0) hb)
  replace Zz:=aQ (Kd.V_elder' (nV Zz.out) (Kd.N_base ho0) hb)
  have Xn:=aQ (Kd.N_lower (Kd.N_mono (ok':=fun k_=>(P0_2_ k_ ∨ w.heap.size ≤ k_)∧some k_ ≠ (v450:Value).ownBlock∧k_ ≠ Zb) ho0 (fun k_ hk_=>⟨Or.elim hk_ (fun hs_=>hs_.1.1) (fun hn_=>(.inr (Nat.le_trans (below_size bB) hn_))),Or.elim hk_ (fun hs_=>hs_.2) (fun hn_=>(Kd.fresh' (Kd.N_lt (nN YN.out)) k_ hn_)),Or.elim hk_ (fun hs_=>hs_.1.2) (fun hn_=>(Kd.freshB (nB Za.out) k_ hn_))⟩)) (below_size bB))
  replace YN:=aQ (Kd.N_elder' (nN YN.out) (Kd.N_base ho0) hb)
  replace Za:=aQ (blk_below (nB Za.out) hb)
  replace Ye:=aQ (Kd.C_below (nC Ye.out) hb)
  replace Yg:=aQ (Kd.C_below (nC Yg.out) hb)
  replace HB:=aQ (below_step bB hb)
  (try clear hb)
  (try clear ho0)
  obtain ⟨VF,VG,Up⟩:=Kd.N_slice Xn.out
  (first | subst Up | (injection Up with f1_ f2_ f3_;have f4_:=f1_.symm;have f5_:=f3_.symm;clear f1_ f2_ f3_;subst f4_;subst f5_))
  refine hK.out _ _ ⟨(blk_cell Za.out 0).trans rfl,(blk_cell Za.out 1).trans rfl,(blk_cell Za.out 2).trans rfl,HS3_,HS4_,HS5_,HS6_,HS7_,HS8_⟩ (fun hHeld=>?_)
  clear hK K
  refine nrm (N:=some 33) ?_
  refine last_ (i:=10) (N:=some 34) (bn 12 2047) rfl rfl (one_of HT_.out (by kernel_rfl)) (by decide) (fun K hK=>?_)
  refine Kd.N_append_rows_step k44 (w0:=w) w.heap.size (by rfl) (.tmp 28) (.tmp 33) 35 44 (.agg #[(.int .i64 0),(.int .i64 0),(.int .i64 0),(.slice none 0 0)]) 48 rfl Try.underlying35 info44 rfl (by decide) (by omega) v450 t449 t453 _ _ _ (fun k_=>(P0_2_ k_ ∨ w.heap.size ≤ k_)∧k_ ≠ Zb) (fun k_=>((fun k_=>(P0_2_ k_ ∨ w.heap.size ≤ k_)∧k_ ≠ Zb)) k_∧some k_ ≠ (v450:Value).ownBlock) rfl rfl ?aO ?aR (fun _ hk=>hk) ?aF ?aB ?aS ?aL ?_
  (case aR=>exact (by skip;exact Kd.N_F (Kd.N_mono (ok':=(fun k_=>((fun k_=>(P0_2_ k_ ∨ w.heap.size ≤ k_)∧k_ ≠ Zb)) k_∧some k_ ≠ (v450:Value).ownBlock)) (Xn.out) (fun k_ hk=>⟨⟨hk.1,hk.2.2⟩,hk.2.1⟩))))
  (case aB=>exact bB)
  (case aF=>exact (fun k_ hk=>⟨(.inr (Nat.le_trans (below_size bB) hk)),Kd.freshB (nB Za.out) k_ hk⟩))
  (case aO=>exact (nN (Kd.N_mono YN.out (fun _ hk=>⟨hk.1.1,hk.1.2⟩))))
  (case aS=>exact (below_size bB))
  (case aL=>have:=LMc14.out;omega)
  intro v457 w20 ho hb hg hat
  rw [← UO.out] at ho
  have n0_:=aQ (Kd.V_afterv (ok:=(fun k_=>(P0_2_ k_ ∨ w.heap.size ≤ k_)∧some k_ ≠ (.slice VF t453.length VG:Value).ownBlock∧k_ ≠ Zb)) (nV (Kd.V_mono Zg.out (fun _ hk=>⟨⟨hk.1.1.1,⟨hk.2,hk.1.1.2⟩⟩,hk.1.2⟩))) hg hat)
  have n1_:=aQ (blk_grown (nB Za.out) hg (Kd.N_ne YN.out Za.out (by decide)))
  have n2_:=aQ (Kd.V_afterv (ok:=(fun k_=>(P0_2_ k_ ∨ w.heap.size ≤ k_)∧some k_ ≠ (.slice VF t453.length VG:Value).ownBlock∧k_ ≠ Zb)) (nV (Kd.V_mono Zy.out (fun _ hk=>⟨⟨hk.1.1.1,⟨hk.2,hk.1.1.2⟩⟩,hk.1.2⟩))) hg hat)
  have n3_:=aQ (Kd.V_afterv (ok:=(fun k_=>(P0_2_ k_ ∨ w.heap.size ≤ k_)∧some k_ ≠ (.slice VF t453.length VG:Value).ownBlock∧k_ ≠ Zb)) (nV (Kd.V_mono Zz.out (fun _ hk=>⟨⟨hk.1.1.1,⟨hk.2,hk.1.1.2⟩⟩,hk.1.2⟩))) hg hat)
  have n4_:=aQ (Kd.N_afterv (ok:=(fun k_=>(P0_2_ k_ ∨ w.heap.size ≤ k_)∧k_ ≠ Zb)) (nN (Kd.N_mono Xn.out (fun _ hk=>⟨⟨hk.1,hk.2.2⟩,hk.2.1⟩))) hg hat)
  have n5_:=aQ (hb)
  have n6_:=aQ (ho)
  clear Zg Za Zy Zz Xn HB YN
  have Zg:=n0_
  have Za:=n1_
  have Zy:=n2_
  have Zz:=n3_
  have Xn:=n4_
  have HB:=n5_
  have UQ:=n6_
  clear n0_ n1_ n2_ n3_ n4_ n5_ n6_
  clear ho hb hg hat
  refine hK.out _ _ ?_
  clear hK K
  refine nrm (N:=some 34) ?_
  refine pur (i:=11) (N:=some 2) (bn 12 4095) ?_
  refine done_ (done_of HT_.out (by kernel_rfl)) ?_
  try go_wp2
  go_ret
  exact ⟨_,rfl,by (with_reducible repeat (first | apply Kd.N_alloc | apply Kd.N_drewN | apply Kd.N_drew));exact Kd.N_mono UQ.out (fun _ hk=>hk.1),bB⟩
 rw [if_neg c9] at H
 have c9b0:(a0_0 == 3) = false:=beq_eq_false_iff_ne.mpr c9
 have c9b1:(a0_0 != 3) = true:=bne_iff_ne.mpr c9
 by_cases c22:a0_0 = 4;rotate_left
 ·rw [if_neg c22] at H
  have c22b0:(a0_0 == 4) = false:=beq_eq_false_iff_ne.mpr c22
  have c22b1:(a0_0 != 4) = true:=bne_iff_ne.mpr c22
  obtain ⟨y505,Vm⟩:∃ y_:List (S44),y_ = (([]:List (S44))):=⟨_,rfl⟩
  replace H:(some y505) = some r:=by rw [Vm];exact H
  have VI:=aQ Vm
  clear Vm
  obtain rfl:=Option.some.inj H
  go_enter Try.func51,Try.ntmps51
  go_wp2_with (first | ((with_reducible refine gate_dst (N:=1) rfl ?_);refine box1 (N:=1) (cs:=#[.int .i64 a0_0,.int .i64 a0_1,.slice A0_2 l0_2.length c0_2]) (t:=29) ?_;intro Zb hg w73 hbox hb;replace Zg:=aQ (Kd.V_below (Kd.V_elderB (nV Zg.out) Zb (Nat.le_of_eq hg.symm)) hb);have Za:=aQ (hbox);have Yu:=aQ (gB:w.heap.size ≤ Zb);have Vk:=Yu;replace HB:=aQ (below_step bB hb);clear hb hbox hg;obtain ⟨TB,TC,TD,TE,TF,TG⟩:=cz3 Za.out) | ((with_reducible refine gate_dst (N:=152) rfl ?_);refine Kd.N_lit k44 _ 44 ?hg (N':=152) ?hd (xs:=([]:List (S44))) (inner:=[]) (ok:=(fun k_=>(P0_2_ k_ ∨ w.heap.size ≤ k_)∧k_ ≠ Zb)) (okp:=(fun k_=>(P0_2_ k_ ∨ w.heap.size ≤ k_)∧k_ ≠ Zb)) ?hr ?hp (fun _ hk=>hk) ((show ∀ k_,w73.heap.size ≤ k_ → (fun k_=>(P0_2_ k_ ∨ w.heap.size ≤ k_)∧k_ ≠ Zb) k_ from fun k_ hk=>⟨(.inr (Nat.le_trans (below_size bB) hk)),Kd.freshB (nB Za.out) k_ hk⟩) _ (Nat.le_refl _)) (Below.refl _ _) (Nat.le_refl _) (by simp) ?_;(case hd=>rfl);(case hg=>rfl);(case hr=>first | (go_simp;done) | (go_simp;rfl));(case hp=>exact (Reps.none _ _));intro v506 w75 ho76 hb hg_ hnew_;clear hg_ hnew_;(first | rw [← VI.out] at ho76 | (simp only [Int.reduceToNat] at ho76;rw [← VI.out] at ho76));replace Zg:=aQ (Kd.V_elder' (nV Zg.out) (Kd.N_base ho76) hb);have UR:=aQ (Kd.N_lower ho76 (below_size bB));replace Za:=aQ (blk_below (nB Za.out) hb);replace HB:=aQ (below_step bB hb);clear hb ho76))
  go_ret
  exact ⟨_,rfl,by (with_reducible repeat (first | apply Kd.N_alloc | apply Kd.N_drewN | apply Kd.N_drew));exact Kd.N_mono UR.out (fun _ hk=>hk.1),bB⟩
 rw [if_pos c22] at H
 have c22b0:(a0_0 == 4) = true:=beq_iff_eq.mpr c22
 have c22b1:(a0_0 != 4) = false:=bne_eq_false_iff_eq.mpr c22
 clear c22
 obtain ⟨y459,Vn⟩:∃ y_:List (S44),y_ = (([]:List (S44))):=⟨_,rfl⟩
 replace H:(if 0 < (l0_2.length:Int) then ((spec_l17Steps.f k ((rd_T29 l0_2 0).f0) ((rd_T29 l0_2 0).f1) ((rd_T29 l0_2 0).f2)).bind fun t463=>(if 1 < (l0_2.length:Int) then ((spec_l17Steps.f k ((rd_T29 l0_2 1).f0) ((rd_T29 l0_2 1).f1) ((rd_T29 l0_2 1).f2)).bind fun t467=>(spec_l17Steps.l0 k y459 t463 t467 0 a0_0 a0_1 l0_2)) else (none))) else (none)) = some r:=by rw [Vn];exact H
 have VJ:=aQ Vn
 clear Vn
 by_cases c23:0 < (l0_2.length:Int);rotate_left
 ·rw [if_neg c23] at H
  exact absurd H (by simp)
 rw [if_pos c23] at H
 have c23b0:decide (0 < (l0_2.length:Int)) = true:=decide_eq_true c23
 have c23b1:decide (0 < l0_2.length) = true:=decide_eq_true (by omega)
 clear c23
 obtain ⟨t463,A24,H⟩:=bQ H
 (try dsimp only at H)
 by_cases c25:1 < (l0_2.length:Int);rotate_left
 ·rw [if_neg c25] at H
  exact absurd H (by simp)
 rw [if_pos c25] at H
 have c25b0:decide (1 < (l0_2.length:Int)) = true:=decide_eq_true c25
 have c25b1:decide (1 < l0_2.length) = true:=decide_eq_true (by omega)
 clear c25
 obtain ⟨t467,A26,H⟩:=bQ H
 (try dsimp only at H)
 have H':=aQ H
 clear H
 go_enter Try.func51,Try.ntmps51
 go_wp2_with (first | ((with_reducible refine gate_dst (N:=1) rfl ?_);refine box1 (N:=1) (cs:=#[.int .i64 a0_0,.int .i64 a0_1,.slice A0_2 l0_2.length c0_2]) (t:=29) ?_;intro Zb hg w27 hbox hb;replace Zg:=aQ (Kd.V_below (Kd.V_elderB (nV Zg.out) Zb (Nat.le_of_eq hg.symm)) hb);have Za:=aQ (hbox);have Yu:=aQ (gB:w.heap.size ≤ Zb);have Vk:=Yu;replace HB:=aQ (below_step bB hb);clear hb hbox hg;obtain ⟨VL,VM,VN,VO,VP,VQ⟩:=cz3 Za.out) | ((with_reducible refine gate_dst (N:=37) rfl ?_);refine Kd.N_lit k44 _ 44 ?hg (N':=37) ?hd (xs:=([]:List (S44))) (inner:=[]) (ok:=(fun k_=>(P0_2_ k_ ∨ w.heap.size ≤ k_)∧k_ ≠ Zb)) (okp:=(fun k_=>(P0_2_ k_ ∨ w.heap.size ≤ k_)∧k_ ≠ Zb)) ?hr ?hp (fun _ hk=>hk) ((show ∀ k_,w27.heap.size ≤ k_ → (fun k_=>(P0_2_ k_ ∨ w.heap.size ≤ k_)∧k_ ≠ Zb) k_ from fun k_ hk=>⟨(.inr (Nat.le_trans (below_size bB) hk)),Kd.freshB (nB Za.out) k_ hk⟩) _ (Nat.le_refl _)) (Below.refl _ _) (Nat.le_refl _) (by simp) ?_;(case hd=>rfl);(case hg=>rfl);(case hr=>first | (go_simp;done) | (go_simp;rfl));(case hp=>exact (Reps.none _ _));intro v460 w29 ho30 hb hg_ hnew_;clear hg_ hnew_;(first | rw [← VJ.out] at ho30 | (simp only [Int.reduceToNat] at ho30;rw [← VJ.out] at ho30));replace Zg:=aQ (Kd.V_elder' (nV Zg.out) (Kd.N_base ho30) hb);have Yv:=aQ (Kd.N_lower ho30 (below_size bB));replace Za:=aQ (blk_below (nB Za.out) hb);replace HB:=aQ (below_step bB hb);clear hb ho30;obtain ⟨VR,VS,VT,VU,VV,VW⟩:=cz3 Za.out;have p462:0 ≤ (0:Int):=(by omega);have q462:0 < (l0_2.length:Int):=of_decide_eq_true (by first | (with_reducible assumption) | assumption);obtain ⟨Zm,A462_2,c462_2,e462,Xw,Xx,YO,Wt,Wu⟩:=at_T29 (Kd.V_reads' Zg.out).2.2 0 p462 q462;cases e462;obtain ⟨Su,Uq,Ur,Vv⟩:=Kd.V_get Zg.out z29 0 p462 (by first | exact q462 | exact of_decide_eq_true (by first | (with_reducible assumption) | assumption) | (have e_:=(Kd.V_reads' Zg.out).1;omega));obtain ⟨TH,TI,rfl,Xy,Xz⟩:=k29_openF Ur;have YP:=Vv 2 _ rfl;rw [add_field _ _ 2 (by omega)] at YP;replace YP:=Option.some.inj (YP.symm.trans YO);injection YP with hva_ hvn_ hvc_;rw [hva_] at Xz;rw [hvc_] at Xy;have Yh:=aQ (show Kd.V k29 29 _ w.heap.size _ _ ((rd_T29 l0_2 0).f2) from Kd.V_mk Xy Xz);clear hva_ hvn_ hvc_ Xz Xy;clear Vv Uq;have qi462:(0 < l0_2.length) = True:=eq_true (by omega);(try rw [show ((0:Int)).toNat = 0 from rfl,show 0 * 3 = 0 from rfl] at Xw Xx YO);(try rw [Addr.add_zero'] at Xw);(try rw [Addr.add_zero'] at Xx);(try rw [Addr.add_zero'] at YO);have YQ:=aQ Wu;have TJ:=aQ Wt;clear Wu Wt;replace p462:=eq_true p462;replace q462:=eq_true q462) | ((with_reducible refine gate_callee (f:=51) rfl ?_);refine goesL_ (some 42) rfl rfl Try.func51 (by kernel_rfl) rfl #[.agg #[.int .i64 ((rd_T29 l0_2 0).f0),.int .i64 ((rd_T29 l0_2 0).f1),.slice A462_2 ((rd_T29 l0_2 0).f2).length c462_2]] rfl mP ?_;(with_reducible refine (ih k (by omega) ((rd_T29 l0_2 0).f0) ((rd_T29 l0_2 0).f1) (fun k_=>(((P0_2_ k_ ∨ w.heap.size ≤ k_)∧k_ ≠ Zb)∧some k_ ≠ (v460:Value).ownBlock)) _ _ ((rd_T29 l0_2 0).f2) t463 _ ?ZA A24.out).mono ?_);(case ZA=>exact Yh.out);rintro e w32 ⟨v464,rfl,ho0,hb⟩;refine ⟨_,rfl,?_⟩;replace Zg:=aQ (Kd.V_elder' (nV Zg.out) (Kd.N_base ho0) hb);replace Yh:=aQ (Kd.V_elder' (nV Yh.out) (Kd.N_base ho0) hb);have Wf:=aQ (Kd.N_lower (Kd.N_mono (ok':=fun k_=>(P0_2_ k_ ∨ w.heap.size ≤ k_)∧some k_ ≠ (v460:Value).ownBlock∧k_ ≠ Zb) ho0 (fun k_ hk_=>⟨Or.elim hk_ (fun hs_=>hs_.1.1) (fun hn_=>(.inr (Nat.le_trans (below_size bB) hn_))),Or.elim hk_ (fun hs_=>hs_.2) (fun hn_=>(Kd.fresh' (Kd.N_lt (nN Yv.out)) k_ hn_)),Or.elim hk_ (fun hs_=>hs_.1.2) (fun hn_=>(Kd.freshB (nB Za.out) k_ hn_))⟩)) (below_size bB));replace Yv:=aQ (Kd.N_elder' (nN Yv.out) (Kd.N_base ho0) hb);replace Za:=aQ (blk_below (nB Za.out) hb);replace YQ:=aQ (Kd.C_below (nC YQ.out) hb);replace HB:=aQ (below_step bB hb);(try clear hb);(try clear ho0);obtain ⟨VX,VY,VZ,Ua,Ub,Uc⟩:=cz3 Za.out;have p466:0 ≤ (1:Int):=(by omega);have q466:1 < (l0_2.length:Int):=of_decide_eq_true (by first | (with_reducible assumption) | assumption);obtain ⟨US,A466_2,c466_2,e466,XA,XB,YR,Wv,Ww⟩:=at_T29 (Kd.V_reads' Zg.out).2.2 1 p466 q466;obtain rfl:Zm = US:=(by injection e466);obtain ⟨Sv,Us,Ut,Vw⟩:=Kd.V_get Zg.out z29 1 p466 (by first | exact q466 | exact of_decide_eq_true (by first | (with_reducible assumption) | assumption) | (have e_:=(Kd.V_reads' Zg.out).1;omega));obtain ⟨TK,TL,rfl,XC,XD⟩:=k29_openF Ut;have YS:=Vw 2 _ rfl;rw [add_field _ _ 2 (by omega)] at YS;replace YS:=Option.some.inj (YS.symm.trans YR);injection YS with hva_ hvn_ hvc_;rw [hva_] at XD;rw [hvc_] at XC;have XE:=aQ (show Kd.V k29 29 _ w.heap.size _ _ ((rd_T29 l0_2 1).f2) from Kd.V_mk XC XD);clear hva_ hvn_ hvc_ XD XC;clear Vw Us;(try simp only [show (1:Int).toNat = 1 from rfl,Nat.reduceMul,Nat.reduceEqDiff,Go.Addr.add,↓reduceIte] at XA);(try simp only [show (1:Int).toNat = 1 from rfl,Nat.reduceMul,Nat.reduceEqDiff,Go.Addr.add,↓reduceIte] at XB);(try simp only [show (1:Int).toNat = 1 from rfl,Nat.reduceMul,Nat.reduceEqDiff,Go.Addr.add,↓reduceIte] at YR);have qi466:(1 < l0_2.length) = True:=eq_true (by omega);(try rw [show ((1:Int)).toNat = 1 from rfl,show 1 * 3 = 3 from rfl] at XA XB YR);have Wx:=aQ Ww;have TM:=aQ Wv;clear Ww Wv;replace p466:=eq_true p466;replace q466:=eq_true q466) | ((with_reducible refine gate_callee (f:=51) rfl ?_);refine goesL_ (some 47) rfl rfl Try.func51 (by kernel_rfl) rfl #[.agg #[.int .i64 ((rd_T29 l0_2 1).f0),.int .i64 ((rd_T29 l0_2 1).f1),.slice A466_2 ((rd_T29 l0_2 1).f2).length c466_2]] rfl mP ?_;(with_reducible refine (ih k (by omega) ((rd_T29 l0_2 1).f0) ((rd_T29 l0_2 1).f1) (fun k_=>((((P0_2_ k_ ∨ w.heap.size ≤ k_)∧k_ ≠ Zb)∧some k_ ≠ (v460:Value).ownBlock)∧some k_ ≠ (v464:Value).ownBlock)) _ _ ((rd_T29 l0_2 1).f2) t467 _ ?ZA A26.out).mono ?_);(case ZA=>exact XE.out);rintro e w34 ⟨v468,rfl,ho0,hb⟩;refine ⟨_,rfl,?_⟩;replace Zg:=aQ (Kd.V_elder' (nV Zg.out) (Kd.N_base ho0) hb);replace Yh:=aQ (Kd.V_elder' (nV Yh.out) (Kd.N_base ho0) hb);replace XE:=aQ (Kd.V_elder' (nV XE.out) (Kd.N_base ho0) hb);have UT:=aQ (Kd.N_lower (Kd.N_mono (ok':=fun k_=>(P0_2_ k_ ∨ w.heap.size ≤ k_)∧some k_ ≠ (v460:Value).ownBlock∧some k_ ≠ (v464:Value).ownBlock∧k_ ≠ Zb) ho0 (fun k_ hk_=>⟨Or.elim hk_ (fun hs_=>hs_.1.1.1) (fun hn_=>(.inr (Nat.le_trans (below_size bB) hn_))),Or.elim hk_ (fun hs_=>hs_.1.2) (fun hn_=>(Kd.fresh' (Kd.N_lt (nN Yv.out)) k_ hn_)),Or.elim hk_ (fun hs_=>hs_.2) (fun hn_=>(Kd.fresh' (Kd.N_lt (nN Wf.out)) k_ hn_)),Or.elim hk_ (fun hs_=>hs_.1.1.2) (fun hn_=>(Kd.freshB (nB Za.out) k_ hn_))⟩)) (below_size bB));replace Yv:=aQ (Kd.N_elder' (nN Yv.out) (Kd.N_base ho0) hb);replace Wf:=aQ (Kd.N_elder' (nN Wf.out) (Kd.N_base ho0) hb);replace Za:=aQ (blk_below (nB Za.out) hb);replace YQ:=aQ (Kd.C_below (nC YQ.out) hb);replace Wx:=aQ (Kd.C_below (nC Wx.out) hb);replace HB:=aQ (below_step bB hb);(try clear hb);(try clear ho0)))
 go_loopg [3,6] k (fun kq v3 v6 w'=>∃ (x3_1:List (S44)) (x6_1:Int),v6 = .int .i64 x6_1∧Aside0 (spec_l17Steps.l0 kq x3_1 t463 t467 x6_1 a0_0 a0_1 l0_2 = some r)∧Aside0 (kq ≤ k)∧Aside0 (Kd.N k44 44 w' w.heap.size (fun k_=>(P0_2_ k_ ∨ w.heap.size ≤ k_)∧some k_ ≠ (v464:Value).ownBlock∧some k_ ≠ (v468:Value).ownBlock∧k_ ≠ Zb) v3 x3_1)∧Aside0 (Kd.N k44 44 w' w.heap.size (fun k_=>(P0_2_ k_ ∨ w.heap.size ≤ k_)∧some k_ ≠ (v3:Value).ownBlock∧some k_ ≠ (v468:Value).ownBlock∧k_ ≠ Zb) v464 t463)∧Aside0 (Kd.N k44 44 w' w.heap.size (fun k_=>(P0_2_ k_ ∨ w.heap.size ≤ k_)∧some k_ ≠ (v3:Value).ownBlock∧some k_ ≠ (v464:Value).ownBlock∧k_ ≠ Zb) v468 t467)∧Aside0 (Kd.V k29 29 w' w.heap.size (fun k_=>(P0_2_ k_ ∨ w.heap.size ≤ k_)∧some k_ ≠ (v3:Value).ownBlock∧some k_ ≠ (v464:Value).ownBlock∧some k_ ≠ (v468:Value).ownBlock∧k_ ≠ Zb) (.slice (some Zm) l0_2.length c0_2) l0_2)∧Aside0 (w'.heap[Zb]? = some (.cells #[.int .i64 a0_0,.int .i64 a0_1,(.slice (some Zm) l0_2.length c0_2)] 29 (0,0)))∧Aside0 (Below w.heap.size w w'))
 case atStart=>exact ⟨(y459),(0),rfl,H',⟨Nat.le_refl _⟩,⟨nN (Kd.N_mono Yv.out (fun _ hk=>⟨hk.1.1.1,⟨hk.1.2,⟨hk.2,hk.1.1.2⟩⟩⟩))⟩,⟨nN (Kd.N_mono Wf.out (fun _ hk=>⟨hk.1.1,⟨hk.1.2.1,⟨hk.2,hk.1.2.2⟩⟩⟩))⟩,⟨nN UT.out⟩,⟨nV (Kd.V_mono Zg.out (fun _ hk=>⟨hk.1.1.1.1,⟨hk.1.1.2,⟨hk.1.2,⟨hk.2,hk.1.1.1.2⟩⟩⟩⟩))⟩,⟨nB Za.out⟩,⟨bB⟩⟩
 case round =>
  clear H'
  try clear c2
  try clear c2b0
  try clear c2b1
  try clear c9
  try clear c9b0
  try clear c9b1
  try clear c22b0
  try clear c22b1
  try clear c23b0
  try clear c23b1
  try clear c25b0
  try clear c25b1
  try clear VL
  try clear VM
  try clear VN
  try clear VR
  try clear VS
  try clear VT
  try clear VX
  try clear VY
  try clear VZ
  try clear VO
  try clear VP
  try clear VQ
  try clear VU
  try clear VV
  try clear VW
  try clear Ua
  try clear Ub
  try clear Uc
  try clear Xw
  try clear Xx
  try clear YO
  try clear XA
  try clear XB
  try clear YR
  try clear p462
  try clear p466
  try clear q462
  try clear q466
  repeat (first | clear Zh | clear Zd | clear Zf | clear Zc | clear Za | clear HB)
  obtain ⟨x3_1,x6_1,rfl,HA,HK1,Zh,Zd,Zf,Zc,Za,HB⟩:=hrel
  cases gk with
  | zero=>exact absurd HA.out (by simp [spec_l17Steps.l0])
  | succ k1 =>
   have H:=HA.out
   clear HA
   simp only [spec_l17Steps.l0] at H
   by_cases c35:x6_1 < (t463.length:Int)
   ·rw [if_pos c35] at H
    have c35b0:decide (x6_1 < (t463.length:Int)) = true:=decide_eq_true c35
    clear c35
    by_cases c36:0 ≤ x6_1;rotate_left
    ·rw [if_neg c36] at H
     exact absurd H (by simp)
    rw [if_pos c36] at H
    have c36b0:decide (0 ≤ x6_1) = true:=decide_eq_true c36
    clear c36
    by_cases c37:1 < (l0_2.length:Int);rotate_left
    ·rw [if_neg c37] at H
     exact absurd H (by simp)
    rw [if_pos c37] at H
    have c37b0:decide (1 < (l0_2.length:Int)) = true:=decide_eq_true c37
    have c37b1:decide (1 < l0_2.length) = true:=decide_eq_true (by omega)
    clear c37
    obtain ⟨⟨t473,t474,t475⟩,A38,H⟩:=bQ H
    dsimp only at H
    by_cases c39:x3_1.length < 2932031007402;rotate_left
    ·rw [if_neg c39] at H
     exact absurd H (by simp)
    rw [if_pos c39] at H
    have LMc39:=aQ c39
    clear c39
    obtain ⟨y478,Vo⟩:∃ y_:List (S44),y_ = (x3_1 ++ [(⟨(rd_T44 t463 x6_1).f0,(⟨t473,t474,t475⟩:S29)⟩:S44)]):=⟨_,rfl⟩
    replace H:(spec_l17Steps.l0 k1 y478 t463 t467 (wrap64 (x6_1 + 1)) a0_0 a0_1 l0_2) = some r:=by rw [Vo];exact H
    have UU:=aQ Vo
    clear Vo
    have H':=aQ H
    clear H
    obtain ⟨SE,ZX,Ti⟩:=Kd.N_slice Zd.out
    subst Ti
    try go_wp2
    replace Zh:=aQ (Kd.N_drew Zh.out)
    replace Zd:=aQ (Kd.N_drew Zd.out)
    replace Zf:=aQ (Kd.N_drew Zf.out)
    replace Zc:=aQ (Kd.V_drew Zc.out)
    replace Za:=aQ (blk_drew Za.out)
    replace HB:=aQ (below_drew1 HB.out)
    have p470:0 ≤ (x6_1:Int):=of_decide_eq_true (by first | (with_reducible assumption) | assumption)
    have q470:x6_1 < (t463.length:Int):=of_decide_eq_true (by first | (with_reducible assumption) | assumption)
    obtain ⟨Zk,A470_3,c470_3,e470,Wy,Wz,WA,YT,WB,WC⟩:=at_T44 (Kd.N_reads' Zd.out).2.2 x6_1 p470 q470
    cases e470
    obtain ⟨Sw,Uu,Uv,Vx⟩:=Kd.N_get Zd.out z44 x6_1 p470 (by first | exact q470 | exact of_decide_eq_true (by first | (with_reducible assumption) | assumption) | (have e_:=(Kd.N_reads' Zd.out).1;omega))
    obtain ⟨TN,TO,rfl,XF,XG⟩:=k44_openF Uv
    have YU:=Vx 3 _ rfl
    rw [add_field _ _ 3 (by omega)] at YU
    replace YU:=Option.some.inj (YU.symm.trans YT)
    injection YU with hva_ hvn_ hvc_
    rw [hva_] at XG
    rw [hvc_] at XF
    have ZZ:=aQ (show Kd.V k29 29 _ w.heap.size _ _ ((rd_T44 t463 x6_1).f1.f2) from Kd.V_mk XF XG)
    clear hva_ hvn_ hvc_ XG XF
    clear Vx Uu
    have XH:=aQ WC
    have TP:=aQ WB
    clear WC WB
    replace p470:=eq_true p470
    replace q470:=eq_true q470
    have p471:0 ≤ (x6_1:Int):=of_decide_eq_true (by first | (with_reducible assumption) | assumption)
    have q471:x6_1 < (t463.length:Int):=of_decide_eq_true (by first | (with_reducible assumption) | assumption)
    obtain ⟨UV,A471_3,c471_3,e471,WD,WE,WF,YV,WG,WH⟩:=at_T44 (Kd.N_reads' Zd.out).2.2 x6_1 p471 q471
    obtain rfl:Zk = UV:=(by injection e471)
    obtain ⟨Sx,Uw,Ux,Vy⟩:=Kd.N_get Zd.out z44 x6_1 p471 (by first | exact q471 | exact of_decide_eq_true (by first | (with_reducible assumption) | assumption) | (have e_:=(Kd.N_reads' Zd.out).1;omega))
    obtain ⟨TQ,TR,rfl,XI,XJ⟩:=k44_openF Ux
    have YW:=Vy 3 _ rfl
    rw [add_field _ _ 3 (by omega)] at YW
    replace YW:=Option.some.inj (YW.symm.trans YV)
    injection YW with hva_ hvn_ hvc_
    rw [hva_] at XJ
    rw [hvc_] at XI
    have ZL:=aQ (show Kd.V k29 29 _ w.heap.size _ _ ((rd_T44 t463 x6_1).f1.f2) from Kd.V_mk XI XJ)
    clear hva_ hvn_ hvc_ XJ XI
    clear Vy Uw
    have XK:=aQ WH
    have TS:=aQ WG
    clear WH WG
    replace p471:=eq_true p471
    replace q471:=eq_true q471
    have ea_:=Option.some.inj (YT.symm.trans YV)
    injection ea_ with ea_ en_ ec_
    subst ea_
    subst ec_
    clear en_
    have p472:0 ≤ (1:Int):=(by omega)
    have q472:1 < (l0_2.length:Int):=of_decide_eq_true (by first | (with_reducible assumption) | assumption)
    obtain ⟨UW,A472_2,c472_2,e472,YX,YY,Yi,WI,WJ⟩:=at_T29 (Kd.V_reads' Zc.out).2.2 1 p472 q472
    obtain rfl:Zm = UW:=(by injection e472)
    obtain ⟨Sy,Uy,Uz,Vz⟩:=Kd.V_get Zc.out z29 1 p472 (by first | exact q472 | exact of_decide_eq_true (by first | (with_reducible assumption) | assumption) | (have e_:=(Kd.V_reads' Zc.out).1;omega))
    obtain ⟨TT,TU,rfl,XL,XM⟩:=k29_openF Uz
    have YZ:=Vz 2 _ rfl
    rw [add_field _ _ 2 (by omega)] at YZ
    replace YZ:=Option.some.inj (YZ.symm.trans Yi)
    injection YZ with hva_ hvn_ hvc_
    rw [hva_] at XM
    rw [hvc_] at XL
    have ZM:=aQ (show Kd.V k29 29 _ w.heap.size _ _ ((rd_T29 l0_2 1).f2) from Kd.V_mk XL XM)
    clear hva_ hvn_ hvc_ XM XL
    clear Vz Uy
    (try simp only [show (1:Int).toNat = 1 from rfl,Nat.reduceMul,Nat.reduceEqDiff,Go.Addr.add,↓reduceIte] at YX)
    (try simp only [show (1:Int).toNat = 1 from rfl,Nat.reduceMul,Nat.reduceEqDiff,Go.Addr.add,↓reduceIte] at YY)
    (try simp only [show (1:Int).toNat = 1 from rfl,Nat.reduceMul,Nat.reduceEqDiff,Go.Addr.add,↓reduceIte] at Yi)
    have qi472:(1 < l0_2.length) = True:=eq_true (by omega)
    (try rw [show ((1:Int)).toNat = 1 from rfl,show 1 * 3 = 3 from rfl] at YX YY Yi)
    have XN:=aQ WJ
    have TV:=aQ WI
    clear WJ WI
    replace p472:=eq_true p472
    replace q472:=eq_true q472
    refine start_ (n:=22) (S:=fun w'=>w'.cell? ⟨Zb,0,none⟩ = some (.int .i64 a0_0)∧w'.cell? ⟨Zb,1,none⟩ = some (.int .i64 a0_1)∧w'.cell? ⟨Zb,2,none⟩ = some (.slice (some Zm) l0_2.length c0_2)∧w'.cell? (Zk.add ((x6_1).toNat * 4)) = some (.int .i64 ((rd_T44 t463 x6_1).f0))∧w'.cell? ⟨(Zk.add ((x6_1).toNat * 4)).block,(Zk.add ((x6_1).toNat * 4)).off + 1,none⟩ = some (.int .i64 ((rd_T44 t463 x6_1).f1.f0))∧w'.cell? ⟨(Zk.add ((x6_1).toNat * 4)).block,(Zk.add ((x6_1).toNat * 4)).off + 2,none⟩ = some (.int .i64 ((rd_T44 t463 x6_1).f1.f1))∧w'.cell? ⟨(Zk.add ((x6_1).toNat * 4)).block,(Zk.add ((x6_1).toNat * 4)).off + 3,none⟩ = some (.slice A470_3 ((rd_T44 t463 x6_1).f1.f2).length c470_3)∧w'.cell? (Zk.add ((x6_1).toNat * 4)) = some (.int .i64 ((rd_T44 t463 x6_1).f0))∧w'.cell? ⟨(Zk.add ((x6_1).toNat * 4)).block,(Zk.add ((x6_1).toNat * 4)).off + 1,none⟩ = some (.int .i64 ((rd_T44 t463 x6_1).f1.f0))∧w'.cell? ⟨(Zk.add ((x6_1).toNat * 4)).block,(Zk.add ((x6_1).toNat * 4)).off + 2,none⟩ = some (.int .i64 ((rd_T44 t463 x6_1).f1.f1))∧w'.cell? ⟨(Zk.add ((x6_1).toNat * 4)).block,(Zk.add ((x6_1).toNat * 4)).off + 3,none⟩ = some (.slice A470_3 ((rd_T44 t463 x6_1).f1.f2).length c470_3)∧w'.cell? ⟨Zm.block,Zm.off + 3,none⟩ = some (.int .i64 ((rd_T29 l0_2 1).f0))∧w'.cell? ⟨Zm.block,Zm.off + 3 + 1,none⟩ = some (.int .i64 ((rd_T29 l0_2 1).f1))∧w'.cell? ⟨Zm.block,Zm.off + 3 + 2,none⟩ = some (.slice A472_2 ((rd_T29 l0_2 1).f2).length c472_2)) (ds:=[19,20]) (bn 22 0) (by kernel_rfl) rfl rfl ⟨(blk_cell Za.out 0).trans rfl,(blk_cell Za.out 1).trans rfl,(blk_cell Za.out 2).trans rfl,Wy,Wz,WA,YT,WD,WE,WF,YV,YX,YY,Yi⟩ (fun hHeld=>?_);refine with_tabW spec_l17Steps.tab13 spec_l17Steps.bits13 (fun HT_ HW_=>?_)
    generalize wr.drew = w41 at Zh Zd Zf Zc Za HB ZZ ZL ZM XH XK XN Wy Wz WA YT WD WE WF YV YX YY Yi hHeld ⊢
    refine pur (i:=0) (N:=some 54) (bn 22 1) ?_
    refine pur (i:=1) (N:=some 55) (bn 22 3) ?_
    refine pur (i:=2) (N:=some 56) (bn 22 7) ?_
    refine pur (i:=3) (N:=some 57) (bn 22 15) ?_
    refine pur (i:=4) (N:=some 58) (bn 22 31) ?_
    refine pur (i:=6) (N:=some 60) (bn 22 95) ?_
    refine pur (i:=8) (N:=some 62) (bn 22 351) ?_
    refine pur (i:=9) (N:=some 63) (bn 22 863) ?_
    refine pur (i:=10) (N:=some 64) (bn 22 1887) ?_
    refine pur (i:=11) (N:=some 65) (bn 22 3935) ?_
    refine pur (i:=13) (N:=some 67) (bn 22 12127) ?_
    refine tak (i:=5) (N:=some 59) (bn 22 12159) ?_
    refine tak (i:=7) (N:=some 61) (bn 22 12287) ?_
    refine tak (i:=12) (N:=some 66) (bn 22 16383) ?_
    refine tak (i:=14) (N:=some 68) (bn 22 32767) ?_
    refine pur (i:=15) (N:=some 69) (bn 22 65535) ?_
    refine tak (i:=16) (N:=some 70) (bn 22 131071) ?_
    refine one_ (i:=17) (N:=some 71) (bn 22 262143) rfl rfl (one_of HT_.out (by kernel_rfl)) (by decide) (fun K hK=>?_)
    refine goes1 Try.func66 #[.int .i64 a0_0,.agg #[.int .i64 ((rd_T44 t463 x6_1).f1.f0),.int .i64 ((rd_T44 t463 x6_1).f1.f1),.slice A470_3 ((rd_T44 t463 x6_1).f1.f2).length c470_3],.agg #[.int .i64 ((rd_T29 l0_2 1).f0),.int .i64 ((rd_T29 l0_2 1).f1),.slice A472_2 ((rd_T29 l0_2 1).f2).length c472_2]] ?_
    with_reducible refine (spec_l17Two.calls a0_0 ((rd_T44 t463 x6_1).f1.f0) ((rd_T44 t463 x6_1).f1.f1) (fun k_=>(((P0_2_ k_ ∨ w.heap.size ≤ k_)∧(some k_ ≠ (u3:Value).ownBlock∧(some k_ ≠ (v468:Value).ownBlock∧k_ ≠ Zb)))∧some k_ ≠ (.slice (some Zk) t463.length ZX:Value).ownBlock)) _ _ ((rd_T44 t463 x6_1).f1.f2) ((rd_T29 l0_2 1).f0) ((rd_T29 l0_2 1).f1) (fun k_=>((P0_2_ k_ ∨ w.heap.size ≤ k_)∧(some k_ ≠ (u3:Value).ownBlock∧(some k_ ≠ (.slice (some Zk) t463.length ZX:Value).ownBlock∧(some k_ ≠ (v468:Value).ownBlock∧k_ ≠ Zb))))) _ _ ((rd_T29 l0_2 1).f2) t473 t474 t475 _ ?ZA ?Xo A38.out).mono ?_
    (case ZA=>exact ZL.out)
    (case Xo=>exact ZM.out)
    rintro e w42 ⟨v476,rfl,ho0,hb⟩
    have HS3_:=(hb.cell (World.block_lt_of_cell? _ _ (hHeld.2.2.2.1))).trans (hHeld.2.2.2.1)
    have HS4_:=(hb.cell (World.block_lt_of_cell? _ _ (hHeld.2.2.2.2.1))).trans (hHeld.2.2.2.2.1)
    have HS5_:=(hb.cell (World.block_lt_of_cell? _ _ (hHeld.2.2.2.2.2.1))).trans (hHeld.2.2.2.2.2.1)
    have HS6_:=(hb.cell (World.block_lt_of_cell? _ _ (hHeld.2.2.2.2.2.2.1))).trans (hHeld.2.2.2.2.2.2.1)
    have HS7_:=(hb.cell (World.block_lt_of_cell? _ _ (hHeld.2.2.2.2.2.2.2.1))).trans (hHeld.2.2.2.2.2.2.2.1)
    have HS8_:=(hb.cell (World.block_lt_of_cell? _ _ (hHeld.2.2.2.2.2.2.2.2.1))).trans (hHeld.2.2.2.2.2.2.2.2.1)
    have HS9_:=(hb.cell (World.block_lt_of_cell? _ _ (hHeld.2.2.2.2.2.2.2.2.2.1))).trans (hHeld.2.2.2.2.2.2.2.2.2.1)
    have HS10_:=(hb.cell (World.block_lt_of_cell? _ _ (hHeld.2.2.2.2.2.2.2.2.2.2.1))).trans (hHeld.2.2.2.2.2.2.2.2.2.2.1)
    have HS11_:=(hb.cell (World.block_lt_of_cell? _ _ (hHeld.2.2.2.2.2.2.2.2.2.2.2.1))).trans (hHeld.2.2.2.2.2.2.2.2.2.2.2.1)
    have HS12_:=(hb.cell (World.block_lt_of_cell? _ _ (hHeld.2.2.2.2.2.2.2.2.2.2.2.2.1))).trans (hHeld.2.2.2.2.2.2.2.2.2.2.2.2.1)
    have HS13_:=(hb.cell (World.block_lt_of_cell? _ _ (hHeld.2.2.2.2.2.2.2.2.2.2.2.2.2))).trans (hHeld.2.2.2.2.2.2.2.2.2.2.2.2.2)
    refine ⟨_,rfl,?_⟩
    replace Zc:=aQ (Kd.V_elder' (nV Zc.out) (Kd.N_base ho0) hb)
    replace ZZ:=aQ (Kd.V_elder' (nV ZZ.out) (Kd.N_base ho0) hb)
    replace ZL:=aQ (Kd.V_elder' (nV ZL.out) (Kd.N_base ho0) hb)
    replace ZM:=aQ (Kd.V_elder' (nV ZM.out) (Kd.N_base ho0) hb)
    have Wg:=aQ (Kd.N_lower (Kd.N_mono (ok':=fun k_=>(P0_2_ k_ ∨ w.heap.size ≤ k_)∧some k_ ≠ (u3:Value).ownBlock∧some k_ ≠ (.slice (some Zk) t463.length ZX:Value).ownBlock∧some k_ ≠ (v468:Value).ownBlock∧k_ ≠ Zb) ho0 (fun k_ hk_=>⟨Or.elim hk_ (fun hs_=>Or.elim hs_ (fun hs_=>hs_.1.1) (fun hs_=>hs_.1)) (fun hn_=>(.inr (Nat.le_trans (below_size bB) hn_))),Or.elim hk_ (fun hs_=>Or.elim hs_ (fun hs_=>hs_.1.2.1) (fun hs_=>hs_.2.1)) (fun hn_=>(Kd.fresh' (Kd.N_lt (nN Zh.out)) k_ hn_)),Or.elim hk_ (fun hs_=>Or.elim hs_ (fun hs_=>hs_.2) (fun hs_=>hs_.2.2.1)) (fun hn_=>(Kd.fresh' (Kd.N_lt (nN Zd.out)) k_ hn_)),Or.elim hk_ (fun hs_=>Or.elim hs_ (fun hs_=>hs_.1.2.2.1) (fun hs_=>hs_.2.2.2.1)) (fun hn_=>(Kd.fresh' (Kd.N_lt (nN Zf.out)) k_ hn_)),Or.elim hk_ (fun hs_=>Or.elim hs_ (fun hs_=>hs_.1.2.2.2) (fun hs_=>hs_.2.2.2.2)) (fun hn_=>(Kd.freshB (nB Za.out) k_ hn_))⟩)) (below_size bB))
    replace Zh:=aQ (Kd.N_elder' (nN Zh.out) (Kd.N_base ho0) hb)
    replace Zd:=aQ (Kd.N_elder' (nN Zd.out) (Kd.N_base ho0) hb)
    replace Zf:=aQ (Kd.N_elder' (nN Zf.out) (Kd.N_base ho0) hb)
    replace Za:=aQ (blk_below (nB Za.out) hb)
    replace XH:=aQ (Kd.C_below (nC XH.out) hb)
    replace XK:=aQ (Kd.C_below (nC XK.out) hb)
    replace XN:=aQ (Kd.C_below (nC XN.out) hb)
    replace HB:=aQ (below_step bB hb)
    (try clear hb)
    (try clear ho0)
    obtain ⟨Xj,Xk,UA⟩:=Kd.N_slice Wg.out
    (first | subst UA | (injection UA with f1_ f2_ f3_;have f4_:=f1_.symm;have f5_:=f3_.symm;clear f1_ f2_ f3_;subst f4_;subst f5_))
    refine hK.out _ _ ⟨(blk_cell Za.out 0).trans rfl,(blk_cell Za.out 1).trans rfl,(blk_cell Za.out 2).trans rfl,HS3_,HS4_,HS5_,HS6_,HS7_,HS8_,HS9_,HS10_,HS11_,HS12_,HS13_⟩ (fun hHeld=>?_)
    clear hK K
    refine nrm (N:=some 71) ?_
    refine pur (i:=18) (N:=some 72) (bn 22 524287) ?_
    refine last_ (i:=19) (N:=some 73) (bn 22 1048575) rfl rfl (one_of HT_.out (by kernel_rfl)) (by decide) (fun K hK=>?_)
    refine value_ (w1:=?_) (v:=?_) (by rfl) rfl ?_ ?_
    rotate_left 2
    ·go_simp
     constructor
     ·rfl
     ·rfl
    refine hK.out _ _ ?_
    clear hK K
    refine nrm (N:=some 73) ?_
    refine last_ (i:=20) (N:=some 74) (bn 22 2097151) rfl rfl (one_of HT_.out (by kernel_rfl)) (by decide) (fun K hK=>?_)
    refine Kd.N_append_step k44 (w0:=w) w.heap.size (by rfl) (.tmp 54) (.tmp 73) 35 44 (.agg #[(.int .i64 0),(.int .i64 0),(.int .i64 0),(.slice none 0 0)]) 48 rfl Try.underlying35 info44 rfl (by decide) (by omega) u3 x3_1 (⟨(rd_T44 t463 x6_1).f0,(⟨t473,t474,t475⟩:S29)⟩:S44) [.int .i64 ((rd_T44 t463 x6_1).f0),.int .i64 t473,.int .i64 t474,.slice Xj t475.length Xk] (fun k_=>(P0_2_ k_ ∨ w.heap.size ≤ k_)∧some k_ ≠ (.slice (some Zk) t463.length ZX:Value).ownBlock∧some k_ ≠ (v468:Value).ownBlock∧k_ ≠ Zb) (fun k_=>((fun k_=>(P0_2_ k_ ∨ w.heap.size ≤ k_)∧some k_ ≠ (.slice (some Zk) t463.length ZX:Value).ownBlock∧some k_ ≠ (v468:Value).ownBlock∧k_ ≠ Zb)) k_∧some k_ ≠ (u3:Value).ownBlock) rfl rfl ?aP (fun _ hk=>hk) ?aF ?aO ?aB ?aS ?aL ?_
    (case aP=>exact (k44_mkF _ _ (⟨(rd_T44 t463 x6_1).f0,(⟨t473,t474,t475⟩:S29)⟩:S44) (Kd.N_reads' (Kd.N_mono (ok':=(fun k_=>((fun k_=>(P0_2_ k_ ∨ w.heap.size ≤ k_)∧some k_ ≠ (.slice (some Zk) t463.length ZX:Value).ownBlock∧some k_ ≠ (v468:Value).ownBlock∧k_ ≠ Zb)) k_∧some k_ ≠ (u3:Value).ownBlock)) (Wg.out) (fun k_ hk=>⟨⟨hk.1,⟨hk.2.2.1,⟨hk.2.2.2.1,hk.2.2.2.2⟩⟩⟩,hk.2.1⟩))).2.1 (Kd.N_F (Kd.N_mono (ok':=(fun k_=>((fun k_=>(P0_2_ k_ ∨ w.heap.size ≤ k_)∧some k_ ≠ (.slice (some Zk) t463.length ZX:Value).ownBlock∧some k_ ≠ (v468:Value).ownBlock∧k_ ≠ Zb)) k_∧some k_ ≠ (u3:Value).ownBlock)) (Wg.out) (fun k_ hk=>⟨⟨hk.1,⟨hk.2.2.1,⟨hk.2.2.2.1,hk.2.2.2.2⟩⟩⟩,hk.2.1⟩)))))
    (case aB=>exact bB)
    (case aF=>exact (fun k_ hk=>⟨(.inr (Nat.le_trans (below_size bB) hk)),Kd.fresh' (Kd.N_lt (nN Zd.out)) k_ hk,Kd.fresh' (Kd.N_lt (nN Zf.out)) k_ hk,Kd.freshB (nB Za.out) k_ hk⟩))
    (case aO=>exact (nN (Kd.N_mono Zh.out (fun _ hk=>⟨hk.1.1,⟨hk.1.2.1,⟨hk.1.2.2.1,hk.1.2.2.2⟩⟩⟩))))
    (case aS=>exact (below_size bB))
    (case aL=>have:=LMc39.out;omega)
    intro v479 w44 ho hb hg hat
    rw [← UU.out] at ho
    have n0_:=aQ (Kd.N_afterv (ok:=(fun k_=>(P0_2_ k_ ∨ w.heap.size ≤ k_)∧some k_ ≠ (v468:Value).ownBlock∧some k_ ≠ (.slice Xj t475.length Xk:Value).ownBlock∧k_ ≠ Zb)) (nN (Kd.N_mono Zd.out (fun _ hk=>⟨⟨hk.1.1,⟨hk.1.2.2.1,⟨hk.2,hk.1.2.2.2⟩⟩⟩,hk.1.2.1⟩))) hg hat)
    have n1_:=aQ (Kd.N_afterv (ok:=(fun k_=>(P0_2_ k_ ∨ w.heap.size ≤ k_)∧some k_ ≠ (.slice (some Zk) t463.length ZX:Value).ownBlock∧some k_ ≠ (.slice Xj t475.length Xk:Value).ownBlock∧k_ ≠ Zb)) (nN (Kd.N_mono Zf.out (fun _ hk=>⟨⟨hk.1.1,⟨hk.1.2.2.1,⟨hk.2,hk.1.2.2.2⟩⟩⟩,hk.1.2.1⟩))) hg hat)
    have n2_:=aQ (Kd.V_afterv (ok:=(fun k_=>(P0_2_ k_ ∨ w.heap.size ≤ k_)∧some k_ ≠ (.slice (some Zk) t463.length ZX:Value).ownBlock∧some k_ ≠ (v468:Value).ownBlock∧some k_ ≠ (.slice Xj t475.length Xk:Value).ownBlock∧k_ ≠ Zb)) (nV (Kd.V_mono Zc.out (fun _ hk=>⟨⟨hk.1.1,⟨hk.1.2.2.1,⟨hk.1.2.2.2.1,⟨hk.2,hk.1.2.2.2.2⟩⟩⟩⟩,hk.1.2.1⟩))) hg hat)
    have n3_:=aQ (blk_grown (nB Za.out) hg (Kd.N_ne Zh.out Za.out (by decide)))
    have n4_:=aQ (Kd.V_afterv (ok:=(fun k_=>(P0_2_ k_ ∨ w.heap.size ≤ k_)∧some k_ ≠ (.slice (some Zk) t463.length ZX:Value).ownBlock∧some k_ ≠ (v468:Value).ownBlock∧some k_ ≠ (.slice Xj t475.length Xk:Value).ownBlock∧k_ ≠ Zb)) (nV (Kd.V_mono ZZ.out (fun _ hk=>⟨⟨hk.1.1.1,⟨hk.1.2,⟨hk.1.1.2.2.1,⟨hk.2,hk.1.1.2.2.2⟩⟩⟩⟩,hk.1.1.2.1⟩))) hg hat)
    have n5_:=aQ (Kd.V_afterv (ok:=(fun k_=>(P0_2_ k_ ∨ w.heap.size ≤ k_)∧some k_ ≠ (.slice (some Zk) t463.length ZX:Value).ownBlock∧some k_ ≠ (v468:Value).ownBlock∧some k_ ≠ (.slice Xj t475.length Xk:Value).ownBlock∧k_ ≠ Zb)) (nV (Kd.V_mono ZL.out (fun _ hk=>⟨⟨hk.1.1.1,⟨hk.1.2,⟨hk.1.1.2.2.1,⟨hk.2,hk.1.1.2.2.2⟩⟩⟩⟩,hk.1.1.2.1⟩))) hg hat)
    have n6_:=aQ (Kd.V_afterv (ok:=(fun k_=>(P0_2_ k_ ∨ w.heap.size ≤ k_)∧some k_ ≠ (.slice (some Zk) t463.length ZX:Value).ownBlock∧some k_ ≠ (v468:Value).ownBlock∧some k_ ≠ (.slice Xj t475.length Xk:Value).ownBlock∧k_ ≠ Zb)) (nV (Kd.V_mono ZM.out (fun _ hk=>⟨⟨hk.1.1,⟨hk.1.2.2.1,⟨hk.1.2.2.2.1,⟨hk.2,hk.1.2.2.2.2⟩⟩⟩⟩,hk.1.2.1⟩))) hg hat)
    have n7_:=aQ (hb)
    have n8_:=aQ (ho)
    clear Zd Zf Zc Za ZZ ZL ZM HB Zh Wg
    have Zd:=n0_
    have Zf:=n1_
    have Zc:=n2_
    have Za:=n3_
    have ZZ:=n4_
    have ZL:=n5_
    have ZM:=n6_
    have HB:=n7_
    have UX:=n8_
    clear n0_ n1_ n2_ n3_ n4_ n5_ n6_ n7_ n8_
    clear ho hb hg hat
    refine hK.out _ _ ?_
    clear hK K
    refine nrm (N:=some 74) ?_
    refine pur (i:=21) (N:=some 3) (bn 22 4194303) ?_
    refine done_ (done_of HT_.out (by kernel_rfl)) ?_
    try go_wp2
    go_roundg k1
    case measure=>have:=HK1.out;omega
    case rel=>exact ⟨(y478),(wrap64 (x6_1 + 1)),rfl,H',⟨by have:=HK1.out;omega⟩,⟨nN UX.out⟩,⟨nN (Kd.N_mono Zd.out (fun _ hk=>⟨hk.1.1,⟨hk.2,⟨hk.1.2.1,hk.1.2.2.2⟩⟩⟩))⟩,⟨nN (Kd.N_mono Zf.out (fun _ hk=>⟨hk.1.1,⟨hk.2,⟨hk.1.2.1,hk.1.2.2.2⟩⟩⟩))⟩,⟨nV (Kd.V_mono Zc.out (fun _ hk=>⟨hk.1.1,⟨hk.2,⟨hk.1.2.1,⟨hk.1.2.2.1,hk.1.2.2.2.2⟩⟩⟩⟩))⟩,⟨nB Za.out⟩,⟨bB⟩⟩
   rw [if_neg c35] at H
   have c35b0:decide (x6_1 < (t463.length:Int)) = false:=decide_eq_false c35
   clear c35
   have H':=aQ H
   clear H
   obtain ⟨Zo,Zj,Tj⟩:=Kd.N_slice Zd.out
   subst Tj
   go_wp2
   go_loopg [3,7] k1 (fun kq v3 v7 w'=>∃ (x3_2:List (S44)) (x7_2:Int),v7 = .int .i64 x7_2∧Aside0 (spec_l17Steps.l1 kq x3_2 t463 t467 x7_2 a0_0 a0_1 l0_2 = some r)∧Aside0 (kq ≤ k1)∧Aside0 (Kd.N k44 44 w' w.heap.size (fun k_=>(P0_2_ k_ ∨ w.heap.size ≤ k_)∧some k_ ≠ ((.slice Zo t463.length Zj):Value).ownBlock∧some k_ ≠ (v468:Value).ownBlock∧k_ ≠ Zb) v3 x3_2)∧Aside0 (Kd.N k44 44 w' w.heap.size (fun k_=>(P0_2_ k_ ∨ w.heap.size ≤ k_)∧some k_ ≠ (v3:Value).ownBlock∧some k_ ≠ (v468:Value).ownBlock∧k_ ≠ Zb) (.slice Zo t463.length Zj) t463)∧Aside0 (Kd.N k44 44 w' w.heap.size (fun k_=>(P0_2_ k_ ∨ w.heap.size ≤ k_)∧some k_ ≠ (v3:Value).ownBlock∧some k_ ≠ ((.slice Zo t463.length Zj):Value).ownBlock∧k_ ≠ Zb) v468 t467)∧Aside0 (Kd.V k29 29 w' w.heap.size (fun k_=>(P0_2_ k_ ∨ w.heap.size ≤ k_)∧some k_ ≠ (v3:Value).ownBlock∧some k_ ≠ ((.slice Zo t463.length Zj):Value).ownBlock∧some k_ ≠ (v468:Value).ownBlock∧k_ ≠ Zb) (.slice (some Zm) l0_2.length c0_2) l0_2)∧Aside0 (w'.heap[Zb]? = some (.cells #[.int .i64 a0_0,.int .i64 a0_1,(.slice (some Zm) l0_2.length c0_2)] 29 (0,0)))∧Aside0 (Below w.heap.size w w'))
   case atStart=>exact ⟨(x3_1),(0),rfl,H',⟨Nat.le_refl _⟩,⟨nN Zh.out⟩,⟨nN Zd.out⟩,⟨nN Zf.out⟩,⟨nV Zc.out⟩,⟨nB Za.out⟩,⟨bB⟩⟩
   case round =>
    clear H'
    try clear c35b0
    repeat (first | clear Zh | clear Zd | clear Zf | clear Zc | clear Za | clear HB)
    obtain ⟨x3_2,x7_2,rfl,HA,HK2,Zh,Zd,Zf,Zc,Za,HB⟩:=hrel
    cases gk with
    | zero=>exact absurd HA.out (by simp [spec_l17Steps.l1])
    | succ k2 =>
     have H:=HA.out
     clear HA
     simp only [spec_l17Steps.l1] at H
     by_cases c46:x7_2 < (t467.length:Int)
     ·rw [if_pos c46] at H
      have c46b0:decide (x7_2 < (t467.length:Int)) = true:=decide_eq_true c46
      clear c46
      by_cases c47:0 ≤ x7_2;rotate_left
      ·rw [if_neg c47] at H
       exact absurd H (by simp)
      rw [if_pos c47] at H
      have c47b0:decide (0 ≤ x7_2) = true:=decide_eq_true c47
      clear c47
      by_cases c48:0 < (l0_2.length:Int);rotate_left
      ·rw [if_neg c48] at H
       exact absurd H (by simp)
      rw [if_pos c48] at H
      have c48b0:decide (0 < (l0_2.length:Int)) = true:=decide_eq_true c48
      have c48b1:decide (0 < l0_2.length) = true:=decide_eq_true (by omega)
      clear c48
      obtain ⟨⟨t484,t485,t486⟩,A49,H⟩:=bQ H
      dsimp only at H
      by_cases c50:x3_2.length < 2932031007402;rotate_left
      ·rw [if_neg c50] at H
       exact absurd H (by simp)
      rw [if_pos c50] at H
      have LMc50:=aQ c50
      clear c50
      obtain ⟨y489,Vp⟩:∃ y_:List (S44),y_ = (x3_2 ++ [(⟨(rd_T44 t467 x7_2).f0,(⟨t484,t485,t486⟩:S29)⟩:S44)]):=⟨_,rfl⟩
      replace H:(spec_l17Steps.l1 k2 y489 t463 t467 (wrap64 (x7_2 + 1)) a0_0 a0_1 l0_2) = some r:=by rw [Vp];exact H
      have UY:=aQ Vp
      clear Vp
      have H':=aQ H
      clear H
      obtain ⟨SF,ZY,Tk⟩:=Kd.N_slice Zf.out
      subst Tk
      try go_wp2
      replace Zh:=aQ (Kd.N_drew Zh.out)
      replace Zd:=aQ (Kd.N_drew Zd.out)
      replace Zf:=aQ (Kd.N_drew Zf.out)
      replace Zc:=aQ (Kd.V_drew Zc.out)
      replace Za:=aQ (blk_drew Za.out)
      replace HB:=aQ (below_drew1 HB.out)
      have p481:0 ≤ (x7_2:Int):=of_decide_eq_true (by first | (with_reducible assumption) | assumption)
      have q481:x7_2 < (t467.length:Int):=of_decide_eq_true (by first | (with_reducible assumption) | assumption)
      obtain ⟨Zl,A481_3,c481_3,e481,WK,WL,WM,Xa,WN,WO⟩:=at_T44 (Kd.N_reads' Zf.out).2.2 x7_2 p481 q481
      cases e481
      obtain ⟨Sz,UB,UC,VA⟩:=Kd.N_get Zf.out z44 x7_2 p481 (by first | exact q481 | exact of_decide_eq_true (by first | (with_reducible assumption) | assumption) | (have e_:=(Kd.N_reads' Zf.out).1;omega))
      obtain ⟨TW,TX,rfl,XO,XP⟩:=k44_openF UC
      have Xb:=VA 3 _ rfl
      rw [add_field _ _ 3 (by omega)] at Xb
      replace Xb:=Option.some.inj (Xb.symm.trans Xa)
      injection Xb with hva_ hvn_ hvc_
      rw [hva_] at XP
      rw [hvc_] at XO
      have Ya:=aQ (show Kd.V k29 29 _ w.heap.size _ _ ((rd_T44 t467 x7_2).f1.f2) from Kd.V_mk XO XP)
      clear hva_ hvn_ hvc_ XP XO
      clear VA UB
      have XQ:=aQ WO
      have TY:=aQ WN
      clear WO WN
      replace p481:=eq_true p481
      replace q481:=eq_true q481
      have p482:0 ≤ (0:Int):=(by omega)
      have q482:0 < (l0_2.length:Int):=of_decide_eq_true (by first | (with_reducible assumption) | assumption)
      obtain ⟨UZ,A482_2,c482_2,e482,Xc,Xd,Yj,WP,WQ⟩:=at_T29 (Kd.V_reads' Zc.out).2.2 0 p482 q482
      obtain rfl:Zm = UZ:=(by injection e482)
      obtain ⟨SA,UD,UE,VB⟩:=Kd.V_get Zc.out z29 0 p482 (by first | exact q482 | exact of_decide_eq_true (by first | (with_reducible assumption) | assumption) | (have e_:=(Kd.V_reads' Zc.out).1;omega))
      obtain ⟨TZ,Sa,rfl,XR,XS⟩:=k29_openF UE
      have Xe:=VB 2 _ rfl
      rw [add_field _ _ 2 (by omega)] at Xe
      replace Xe:=Option.some.inj (Xe.symm.trans Yj)
      injection Xe with hva_ hvn_ hvc_
      rw [hva_] at XS
      rw [hvc_] at XR
      have ZN:=aQ (show Kd.V k29 29 _ w.heap.size _ _ ((rd_T29 l0_2 0).f2) from Kd.V_mk XR XS)
      clear hva_ hvn_ hvc_ XS XR
      clear VB UD
      have qi482:(0 < l0_2.length) = True:=eq_true (by omega)
      (try rw [show ((0:Int)).toNat = 0 from rfl,show 0 * 3 = 0 from rfl] at Xc Xd Yj)
      (try rw [Addr.add_zero'] at Xc)
      (try rw [Addr.add_zero'] at Xd)
      (try rw [Addr.add_zero'] at Yj)
      have XT:=aQ WQ
      have Sb:=aQ WP
      clear WQ WP
      replace p482:=eq_true p482
      replace q482:=eq_true q482
      have p483:0 ≤ (x7_2:Int):=of_decide_eq_true (by first | (with_reducible assumption) | assumption)
      have q483:x7_2 < (t467.length:Int):=of_decide_eq_true (by first | (with_reducible assumption) | assumption)
      obtain ⟨Ta,A483_3,c483_3,e483,WR,WS,WT,Xf,WU,WV⟩:=at_T44 (Kd.N_reads' Zf.out).2.2 x7_2 p483 q483
      obtain rfl:Zl = Ta:=(by injection e483)
      obtain ⟨SB,UF,UG,VC⟩:=Kd.N_get Zf.out z44 x7_2 p483 (by first | exact q483 | exact of_decide_eq_true (by first | (with_reducible assumption) | assumption) | (have e_:=(Kd.N_reads' Zf.out).1;omega))
      obtain ⟨Sc,Sd,rfl,XU,XV⟩:=k44_openF UG
      have Xg:=VC 3 _ rfl
      rw [add_field _ _ 3 (by omega)] at Xg
      replace Xg:=Option.some.inj (Xg.symm.trans Xf)
      injection Xg with hva_ hvn_ hvc_
      rw [hva_] at XV
      rw [hvc_] at XU
      have ZO:=aQ (show Kd.V k29 29 _ w.heap.size _ _ ((rd_T44 t467 x7_2).f1.f2) from Kd.V_mk XU XV)
      clear hva_ hvn_ hvc_ XV XU
      clear VC UF
      have XW:=aQ WV
      have Se:=aQ WU
      clear WV WU
      replace p483:=eq_true p483
      replace q483:=eq_true q483
      have ea_:=Option.some.inj (Xa.symm.trans Xf)
      injection ea_ with ea_ en_ ec_
      subst ea_
      subst ec_
      clear en_
      refine start_ (n:=22) (S:=fun w'=>w'.cell? ⟨Zb,0,none⟩ = some (.int .i64 a0_0)∧w'.cell? ⟨Zb,1,none⟩ = some (.int .i64 a0_1)∧w'.cell? ⟨Zb,2,none⟩ = some (.slice (some Zm) l0_2.length c0_2)∧w'.cell? (Zl.add ((x7_2).toNat * 4)) = some (.int .i64 ((rd_T44 t467 x7_2).f0))∧w'.cell? ⟨(Zl.add ((x7_2).toNat * 4)).block,(Zl.add ((x7_2).toNat * 4)).off + 1,none⟩ = some (.int .i64 ((rd_T44 t467 x7_2).f1.f0))∧w'.cell? ⟨(Zl.add ((x7_2).toNat * 4)).block,(Zl.add ((x7_2).toNat * 4)).off + 2,none⟩ = some (.int .i64 ((rd_T44 t467 x7_2).f1.f1))∧w'.cell? ⟨(Zl.add ((x7_2).toNat * 4)).block,(Zl.add ((x7_2).toNat * 4)).off + 3,none⟩ = some (.slice A481_3 ((rd_T44 t467 x7_2).f1.f2).length c481_3)∧w'.cell? Zm = some (.int .i64 ((rd_T29 l0_2 0).f0))∧w'.cell? ⟨Zm.block,Zm.off + 1,none⟩ = some (.int .i64 ((rd_T29 l0_2 0).f1))∧w'.cell? ⟨Zm.block,Zm.off + 2,none⟩ = some (.slice A482_2 ((rd_T29 l0_2 0).f2).length c482_2)∧w'.cell? (Zl.add ((x7_2).toNat * 4)) = some (.int .i64 ((rd_T44 t467 x7_2).f0))∧w'.cell? ⟨(Zl.add ((x7_2).toNat * 4)).block,(Zl.add ((x7_2).toNat * 4)).off + 1,none⟩ = some (.int .i64 ((rd_T44 t467 x7_2).f1.f0))∧w'.cell? ⟨(Zl.add ((x7_2).toNat * 4)).block,(Zl.add ((x7_2).toNat * 4)).off + 2,none⟩ = some (.int .i64 ((rd_T44 t467 x7_2).f1.f1))∧w'.cell? ⟨(Zl.add ((x7_2).toNat * 4)).block,(Zl.add ((x7_2).toNat * 4)).off + 3,none⟩ = some (.slice A481_3 ((rd_T44 t467 x7_2).f1.f2).length c481_3)) (ds:=[19,20]) (bn 22 0) (by kernel_rfl) rfl rfl ⟨(blk_cell Za.out 0).trans rfl,(blk_cell Za.out 1).trans rfl,(blk_cell Za.out 2).trans rfl,WK,WL,WM,Xa,Xc,Xd,Yj,WR,WS,WT,Xf⟩ (fun hHeld=>?_);refine with_tabW spec_l17Steps.tab17 spec_l17Steps.bits17 (fun HT_ HW_=>?_)
      generalize wr.drew = w52 at Zh Zd Zf Zc Za HB Ya ZN ZO XQ XT XW WK WL WM Xa Xc Xd Yj WR WS WT Xf hHeld ⊢
      refine pur (i:=0) (N:=some 81) (bn 22 1) ?_
      refine pur (i:=1) (N:=some 82) (bn 22 3) ?_
      refine pur (i:=2) (N:=some 83) (bn 22 7) ?_
      refine pur (i:=3) (N:=some 84) (bn 22 15) ?_
      refine pur (i:=4) (N:=some 85) (bn 22 31) ?_
      refine pur (i:=6) (N:=some 87) (bn 22 95) ?_
      refine pur (i:=8) (N:=some 89) (bn 22 351) ?_
      refine pur (i:=12) (N:=some 93) (bn 22 4447) ?_
      refine pur (i:=13) (N:=some 94) (bn 22 12639) ?_
      refine pur (i:=14) (N:=some 95) (bn 22 29023) ?_
      refine pur (i:=15) (N:=some 96) (bn 22 61791) ?_
      refine tak (i:=5) (N:=some 86) (bn 22 61823) ?_
      refine tak (i:=7) (N:=some 88) (bn 22 61951) ?_
      refine tak (i:=9) (N:=some 90) (bn 22 62463) ?_
      refine pur (i:=10) (N:=some 91) (bn 22 63487) ?_
      refine tak (i:=11) (N:=some 92) (bn 22 65535) ?_
      refine tak (i:=16) (N:=some 97) (bn 22 131071) ?_
      refine one_ (i:=17) (N:=some 98) (bn 22 262143) rfl rfl (one_of HT_.out (by kernel_rfl)) (by decide) (fun K hK=>?_)
      refine goes1 Try.func66 #[.int .i64 a0_0,.agg #[.int .i64 ((rd_T29 l0_2 0).f0),.int .i64 ((rd_T29 l0_2 0).f1),.slice A482_2 ((rd_T29 l0_2 0).f2).length c482_2],.agg #[.int .i64 ((rd_T44 t467 x7_2).f1.f0),.int .i64 ((rd_T44 t467 x7_2).f1.f1),.slice A481_3 ((rd_T44 t467 x7_2).f1.f2).length c481_3]] ?_
      with_reducible refine (spec_l17Two.calls a0_0 ((rd_T29 l0_2 0).f0) ((rd_T29 l0_2 0).f1) (fun k_=>((P0_2_ k_ ∨ w.heap.size ≤ k_)∧(some k_ ≠ (u3:Value).ownBlock∧(some k_ ≠ (.slice Zo t463.length Zj:Value).ownBlock∧(some k_ ≠ (.slice (some Zl) t467.length ZY:Value).ownBlock∧k_ ≠ Zb))))) _ _ ((rd_T29 l0_2 0).f2) ((rd_T44 t467 x7_2).f1.f0) ((rd_T44 t467 x7_2).f1.f1) (fun k_=>(((P0_2_ k_ ∨ w.heap.size ≤ k_)∧(some k_ ≠ (u3:Value).ownBlock∧(some k_ ≠ (.slice Zo t463.length Zj:Value).ownBlock∧k_ ≠ Zb)))∧some k_ ≠ (.slice (some Zl) t467.length ZY:Value).ownBlock)) _ _ ((rd_T44 t467 x7_2).f1.f2) t484 t485 t486 _ ?ZA ?Xo A49.out).mono ?_
      (case ZA=>exact ZN.out)
      (case Xo=>exact ZO.out)
      rintro e w53 ⟨v487,rfl,ho0,hb⟩
      have HS3_:=(hb.cell (World.block_lt_of_cell? _ _ (hHeld.2.2.2.1))).trans (hHeld.2.2.2.1)
      have HS4_:=(hb.cell (World.block_lt_of_cell? _ _ (hHeld.2.2.2.2.1))).trans (hHeld.2.2.2.2.1)
      have HS5_:=(hb.cell (World.block_lt_of_cell? _ _ (hHeld.2.2.2.2.2.1))).trans (hHeld.2.2.2.2.2.1)
      have HS6_:=(hb.cell (World.block_lt_of_cell? _ _ (hHeld.2.2.2.2.2.2.1))).trans (hHeld.2.2.2.2.2.2.1)
      have HS7_:=(hb.cell (World.block_lt_of_cell? _ _ (hHeld.2.2.2.2.2.2.2.1))).trans (hHeld.2.2.2.2.2.2.2.1)
      have HS8_:=(hb.cell (World.block_lt_of_cell? _ _ (hHeld.2.2.2.2.2.2.2.2.1))).trans (hHeld.2.2.2.2.2.2.2.2.1)
      have HS9_:=(hb.cell (World.block_lt_of_cell? _ _ (hHeld.2.2.2.2.2.2.2.2.2.1))).trans (hHeld.2.2.2.2.2.2.2.2.2.1)
      have HS10_:=(hb.cell (World.block_lt_of_cell? _ _ (hHeld.2.2.2.2.2.2.2.2.2.2.1))).trans (hHeld.2.2.2.2.2.2.2.2.2.2.1)
      have HS11_:=(hb.cell (World.block_lt_of_cell? _ _ (hHeld.2.2.2.2.2.2.2.2.2.2.2.1))).trans (hHeld.2.2.2.2.2.2.2.2.2.2.2.1)
      have HS12_:=(hb.cell (World.block_lt_of_cell? _ _ (hHeld.2.2.2.2.2.2.2.2.2.2.2.2.1))).trans (hHeld.2.2.2.2.2.2.2.2.2.2.2.2.1)
      have HS13_:=(hb.cell (World.block_lt_of_cell? _ _ (hHeld.2.2.2.2.2.2.2.2.2.2.2.2.2))).trans (hHeld.2.2.2.2.2.2.2.2.2.2.2.2.2)
      refine ⟨_,rfl,?_⟩
      replace Zc:=aQ (Kd.V_elder' (nV Zc.out) (Kd.N_base ho0) hb)
      replace Ya:=aQ (Kd.V_elder' (nV Ya.out) (Kd.N_base ho0) hb)
      replace ZN:=aQ (Kd.V_elder' (nV ZN.out) (Kd.N_base ho0) hb)
      replace ZO:=aQ (Kd.V_elder' (nV ZO.out) (Kd.N_base ho0) hb)
      have Wh:=aQ (Kd.N_lower (Kd.N_mono (ok':=fun k_=>(P0_2_ k_ ∨ w.heap.size ≤ k_)∧some k_ ≠ (u3:Value).ownBlock∧some k_ ≠ (.slice Zo t463.length Zj:Value).ownBlock∧some k_ ≠ (.slice (some Zl) t467.length ZY:Value).ownBlock∧k_ ≠ Zb) ho0 (fun k_ hk_=>⟨Or.elim hk_ (fun hs_=>Or.elim hs_ (fun hs_=>hs_.1) (fun hs_=>hs_.1.1)) (fun hn_=>(.inr (Nat.le_trans (below_size bB) hn_))),Or.elim hk_ (fun hs_=>Or.elim hs_ (fun hs_=>hs_.2.1) (fun hs_=>hs_.1.2.1)) (fun hn_=>(Kd.fresh' (Kd.N_lt (nN Zh.out)) k_ hn_)),Or.elim hk_ (fun hs_=>Or.elim hs_ (fun hs_=>hs_.2.2.1) (fun hs_=>hs_.1.2.2.1)) (fun hn_=>(Kd.fresh' (Kd.N_lt (nN Zd.out)) k_ hn_)),Or.elim hk_ (fun hs_=>Or.elim hs_ (fun hs_=>hs_.2.2.2.1) (fun hs_=>hs_.2)) (fun hn_=>(Kd.fresh' (Kd.N_lt (nN Zf.out)) k_ hn_)),Or.elim hk_ (fun hs_=>Or.elim hs_ (fun hs_=>hs_.2.2.2.2) (fun hs_=>hs_.1.2.2.2)) (fun hn_=>(Kd.freshB (nB Za.out) k_ hn_))⟩)) (below_size bB))
      replace Zh:=aQ (Kd.N_elder' (nN Zh.out) (Kd.N_base ho0) hb)
      replace Zd:=aQ (Kd.N_elder' (nN Zd.out) (Kd.N_base ho0) hb)
      replace Zf:=aQ (Kd.N_elder' (nN Zf.out) (Kd.N_base ho0) hb)
      replace Za:=aQ (blk_below (nB Za.out) hb)
      replace XQ:=aQ (Kd.C_below (nC XQ.out) hb)
      replace XT:=aQ (Kd.C_below (nC XT.out) hb)
      replace XW:=aQ (Kd.C_below (nC XW.out) hb)
      replace HB:=aQ (below_step bB hb)
      (try clear hb)
      (try clear ho0)
      obtain ⟨Xl,Xm,UH⟩:=Kd.N_slice Wh.out
      (first | subst UH | (injection UH with f1_ f2_ f3_;have f4_:=f1_.symm;have f5_:=f3_.symm;clear f1_ f2_ f3_;subst f4_;subst f5_))
      refine hK.out _ _ ⟨(blk_cell Za.out 0).trans rfl,(blk_cell Za.out 1).trans rfl,(blk_cell Za.out 2).trans rfl,HS3_,HS4_,HS5_,HS6_,HS7_,HS8_,HS9_,HS10_,HS11_,HS12_,HS13_⟩ (fun hHeld=>?_)
      clear hK K
      refine nrm (N:=some 98) ?_
      refine pur (i:=18) (N:=some 99) (bn 22 524287) ?_
      refine last_ (i:=19) (N:=some 100) (bn 22 1048575) rfl rfl (one_of HT_.out (by kernel_rfl)) (by decide) (fun K hK=>?_)
      refine value_ (w1:=?_) (v:=?_) (by rfl) rfl ?_ ?_
      rotate_left 2
      ·go_simp
       constructor
       ·rfl
       ·rfl
      refine hK.out _ _ ?_
      clear hK K
      refine nrm (N:=some 100) ?_
      refine last_ (i:=20) (N:=some 101) (bn 22 2097151) rfl rfl (one_of HT_.out (by kernel_rfl)) (by decide) (fun K hK=>?_)
      refine Kd.N_append_step k44 (w0:=w) w.heap.size (by rfl) (.tmp 81) (.tmp 100) 35 44 (.agg #[(.int .i64 0),(.int .i64 0),(.int .i64 0),(.slice none 0 0)]) 48 rfl Try.underlying35 info44 rfl (by decide) (by omega) u3 x3_2 (⟨(rd_T44 t467 x7_2).f0,(⟨t484,t485,t486⟩:S29)⟩:S44) [.int .i64 ((rd_T44 t467 x7_2).f0),.int .i64 t484,.int .i64 t485,.slice Xl t486.length Xm] (fun k_=>(P0_2_ k_ ∨ w.heap.size ≤ k_)∧some k_ ≠ (.slice Zo t463.length Zj:Value).ownBlock∧some k_ ≠ (.slice (some Zl) t467.length ZY:Value).ownBlock∧k_ ≠ Zb) (fun k_=>((fun k_=>(P0_2_ k_ ∨ w.heap.size ≤ k_)∧some k_ ≠ (.slice Zo t463.length Zj:Value).ownBlock∧some k_ ≠ (.slice (some Zl) t467.length ZY:Value).ownBlock∧k_ ≠ Zb)) k_∧some k_ ≠ (u3:Value).ownBlock) rfl rfl ?aP (fun _ hk=>hk) ?aF ?aO ?aB ?aS ?aL ?_
      (case aP=>exact (k44_mkF _ _ (⟨(rd_T44 t467 x7_2).f0,(⟨t484,t485,t486⟩:S29)⟩:S44) (Kd.N_reads' (Kd.N_mono (ok':=(fun k_=>((fun k_=>(P0_2_ k_ ∨ w.heap.size ≤ k_)∧some k_ ≠ (.slice Zo t463.length Zj:Value).ownBlock∧some k_ ≠ (.slice (some Zl) t467.length ZY:Value).ownBlock∧k_ ≠ Zb)) k_∧some k_ ≠ (u3:Value).ownBlock)) (Wh.out) (fun k_ hk=>⟨⟨hk.1,⟨hk.2.2.1,⟨hk.2.2.2.1,hk.2.2.2.2⟩⟩⟩,hk.2.1⟩))).2.1 (Kd.N_F (Kd.N_mono (ok':=(fun k_=>((fun k_=>(P0_2_ k_ ∨ w.heap.size ≤ k_)∧some k_ ≠ (.slice Zo t463.length Zj:Value).ownBlock∧some k_ ≠ (.slice (some Zl) t467.length ZY:Value).ownBlock∧k_ ≠ Zb)) k_∧some k_ ≠ (u3:Value).ownBlock)) (Wh.out) (fun k_ hk=>⟨⟨hk.1,⟨hk.2.2.1,⟨hk.2.2.2.1,hk.2.2.2.2⟩⟩⟩,hk.2.1⟩)))))
      (case aB=>exact bB)
      (case aF=>exact (fun k_ hk=>⟨(.inr (Nat.le_trans (below_size bB) hk)),Kd.fresh' (Kd.N_lt (nN Zd.out)) k_ hk,Kd.fresh' (Kd.N_lt (nN Zf.out)) k_ hk,Kd.freshB (nB Za.out) k_ hk⟩))
      (case aO=>exact (nN (Kd.N_mono Zh.out (fun _ hk=>⟨hk.1.1,⟨hk.1.2.1,⟨hk.1.2.2.1,hk.1.2.2.2⟩⟩⟩))))
      (case aS=>exact (below_size bB))
      (case aL=>have:=LMc50.out;omega)
      intro v490 w55 ho hb hg hat
      rw [← UY.out] at ho
      have n0_:=aQ (Kd.N_afterv (ok:=(fun k_=>(P0_2_ k_ ∨ w.heap.size ≤ k_)∧some k_ ≠ (.slice (some Zl) t467.length ZY:Value).ownBlock∧some k_ ≠ (.slice Xl t486.length Xm:Value).ownBlock∧k_ ≠ Zb)) (nN (Kd.N_mono Zd.out (fun _ hk=>⟨⟨hk.1.1,⟨hk.1.2.2.1,⟨hk.2,hk.1.2.2.2⟩⟩⟩,hk.1.2.1⟩))) hg hat)
      have n1_:=aQ (Kd.N_afterv (ok:=(fun k_=>(P0_2_ k_ ∨ w.heap.size ≤ k_)∧some k_ ≠ (.slice Zo t463.length Zj:Value).ownBlock∧some k_ ≠ (.slice Xl t486.length Xm:Value).ownBlock∧k_ ≠ Zb)) (nN (Kd.N_mono Zf.out (fun _ hk=>⟨⟨hk.1.1,⟨hk.1.2.2.1,⟨hk.2,hk.1.2.2.2⟩⟩⟩,hk.1.2.1⟩))) hg hat)
      have n2_:=aQ (Kd.V_afterv (ok:=(fun k_=>(P0_2_ k_ ∨ w.heap.size ≤ k_)∧some k_ ≠ (.slice Zo t463.length Zj:Value).ownBlock∧some k_ ≠ (.slice (some Zl) t467.length ZY:Value).ownBlock∧some k_ ≠ (.slice Xl t486.length Xm:Value).ownBlock∧k_ ≠ Zb)) (nV (Kd.V_mono Zc.out (fun _ hk=>⟨⟨hk.1.1,⟨hk.1.2.2.1,⟨hk.1.2.2.2.1,⟨hk.2,hk.1.2.2.2.2⟩⟩⟩⟩,hk.1.2.1⟩))) hg hat)
      have n3_:=aQ (blk_grown (nB Za.out) hg (Kd.N_ne Zh.out Za.out (by decide)))
      have n4_:=aQ (Kd.V_afterv (ok:=(fun k_=>(P0_2_ k_ ∨ w.heap.size ≤ k_)∧some k_ ≠ (.slice Zo t463.length Zj:Value).ownBlock∧some k_ ≠ (.slice (some Zl) t467.length ZY:Value).ownBlock∧some k_ ≠ (.slice Xl t486.length Xm:Value).ownBlock∧k_ ≠ Zb)) (nV (Kd.V_mono Ya.out (fun _ hk=>⟨⟨hk.1.1.1,⟨hk.1.1.2.2.1,⟨hk.1.2,⟨hk.2,hk.1.1.2.2.2⟩⟩⟩⟩,hk.1.1.2.1⟩))) hg hat)
      have n5_:=aQ (Kd.V_afterv (ok:=(fun k_=>(P0_2_ k_ ∨ w.heap.size ≤ k_)∧some k_ ≠ (.slice Zo t463.length Zj:Value).ownBlock∧some k_ ≠ (.slice (some Zl) t467.length ZY:Value).ownBlock∧some k_ ≠ (.slice Xl t486.length Xm:Value).ownBlock∧k_ ≠ Zb)) (nV (Kd.V_mono ZN.out (fun _ hk=>⟨⟨hk.1.1,⟨hk.1.2.2.1,⟨hk.1.2.2.2.1,⟨hk.2,hk.1.2.2.2.2⟩⟩⟩⟩,hk.1.2.1⟩))) hg hat)
      have n6_:=aQ (Kd.V_afterv (ok:=(fun k_=>(P0_2_ k_ ∨ w.heap.size ≤ k_)∧some k_ ≠ (.slice Zo t463.length Zj:Value).ownBlock∧some k_ ≠ (.slice (some Zl) t467.length ZY:Value).ownBlock∧some k_ ≠ (.slice Xl t486.length Xm:Value).ownBlock∧k_ ≠ Zb)) (nV (Kd.V_mono ZO.out (fun _ hk=>⟨⟨hk.1.1.1,⟨hk.1.1.2.2.1,⟨hk.1.2,⟨hk.2,hk.1.1.2.2.2⟩⟩⟩⟩,hk.1.1.2.1⟩))) hg hat)
      have n7_:=aQ (hb)
      have n8_:=aQ (ho)
      clear Zd Zf Zc Za Ya ZN ZO HB Zh Wh
      have Zd:=n0_
      have Zf:=n1_
      have Zc:=n2_
      have Za:=n3_
      have Ya:=n4_
      have ZN:=n5_
      have ZO:=n6_
      have HB:=n7_
      have Tb:=n8_
      clear n0_ n1_ n2_ n3_ n4_ n5_ n6_ n7_ n8_
      clear ho hb hg hat
      refine hK.out _ _ ?_
      clear hK K
      refine nrm (N:=some 101) ?_
      refine pur (i:=21) (N:=some 3) (bn 22 4194303) ?_
      refine done_ (done_of HT_.out (by kernel_rfl)) ?_
      try go_wp2
      go_roundg k2
      case measure=>have:=HK1.out;have:=HK2.out;omega
      case rel=>exact ⟨(y489),(wrap64 (x7_2 + 1)),rfl,H',⟨by have:=HK1.out;have:=HK2.out;omega⟩,⟨nN Tb.out⟩,⟨nN (Kd.N_mono Zd.out (fun _ hk=>⟨hk.1.1,⟨hk.2,⟨hk.1.2.1,hk.1.2.2.2⟩⟩⟩))⟩,⟨nN (Kd.N_mono Zf.out (fun _ hk=>⟨hk.1.1,⟨hk.2,⟨hk.1.2.1,hk.1.2.2.2⟩⟩⟩))⟩,⟨nV (Kd.V_mono Zc.out (fun _ hk=>⟨hk.1.1,⟨hk.2,⟨hk.1.2.1,⟨hk.1.2.2.1,hk.1.2.2.2.2⟩⟩⟩⟩))⟩,⟨nB Za.out⟩,⟨bB⟩⟩
     rw [if_neg c46] at H
     have c46b0:decide (x7_2 < (t467.length:Int)) = false:=decide_eq_false c46
     clear c46
     have H':=aQ H
     clear H
     obtain ⟨Yy,Zr,Tl⟩:=Kd.N_slice Zf.out
     subst Tl
     go_wp2
     go_loopg [3,8] k2 (fun kq v3 v8 w'=>∃ (x3_3:List (S44)) (x8_3:Int),v8 = .int .i64 x8_3∧Aside0 (spec_l17Steps.l2 kq x3_3 t463 t467 x8_3 a0_0 a0_1 l0_2 = some r)∧Aside0 (kq ≤ k2)∧Aside0 (Kd.N k44 44 w' w.heap.size (fun k_=>(P0_2_ k_ ∨ w.heap.size ≤ k_)∧some k_ ≠ ((.slice Zo t463.length Zj):Value).ownBlock∧some k_ ≠ ((.slice Yy t467.length Zr):Value).ownBlock∧k_ ≠ Zb) v3 x3_3)∧Aside0 (Kd.N k44 44 w' w.heap.size (fun k_=>(P0_2_ k_ ∨ w.heap.size ≤ k_)∧some k_ ≠ (v3:Value).ownBlock∧some k_ ≠ ((.slice Yy t467.length Zr):Value).ownBlock∧k_ ≠ Zb) (.slice Zo t463.length Zj) t463)∧Aside0 (Kd.N k44 44 w' w.heap.size (fun k_=>(P0_2_ k_ ∨ w.heap.size ≤ k_)∧some k_ ≠ (v3:Value).ownBlock∧some k_ ≠ ((.slice Zo t463.length Zj):Value).ownBlock∧k_ ≠ Zb) (.slice Yy t467.length Zr) t467)∧Aside0 (Kd.V k29 29 w' w.heap.size (fun k_=>(P0_2_ k_ ∨ w.heap.size ≤ k_)∧some k_ ≠ (v3:Value).ownBlock∧some k_ ≠ ((.slice Zo t463.length Zj):Value).ownBlock∧some k_ ≠ ((.slice Yy t467.length Zr):Value).ownBlock∧k_ ≠ Zb) (.slice (some Zm) l0_2.length c0_2) l0_2)∧Aside0 (w'.heap[Zb]? = some (.cells #[.int .i64 a0_0,.int .i64 a0_1,(.slice (some Zm) l0_2.length c0_2)] 29 (0,0)))∧Aside0 (Below w.heap.size w w'))
     case atStart=>exact ⟨(x3_2),(0),rfl,H',⟨Nat.le_refl _⟩,⟨nN Zh.out⟩,⟨nN Zd.out⟩,⟨nN Zf.out⟩,⟨nV Zc.out⟩,⟨nB Za.out⟩,⟨bB⟩⟩
     case round =>
      clear H'
      try clear c46b0
      repeat (first | clear Zh | clear Zd | clear Zf | clear Zc | clear Za | clear HB)
      obtain ⟨x3_3,x8_3,rfl,HA,HK3,Zh,Zd,Zf,Zc,Za,HB⟩:=hrel
      cases gk with
      | zero=>exact absurd HA.out (by simp [spec_l17Steps.l2])
      | succ k3 =>
       have H:=HA.out
       clear HA
       simp only [spec_l17Steps.l2] at H
       by_cases c57:x8_3 < (t463.length:Int);rotate_left
       ·rw [if_neg c57] at H
        have c57b0:decide (x8_3 < (t463.length:Int)) = false:=decide_eq_false c57
        clear c57
        obtain rfl:=Option.some.inj H
        go_wp2
        go_ret
        exact ⟨_,rfl,by (with_reducible repeat (first | apply Kd.N_alloc | apply Kd.N_drewN | apply Kd.N_drew));exact Kd.N_mono Zh.out (fun _ hk=>hk.1),bB⟩
       rw [if_pos c57] at H
       have c57b0:decide (x8_3 < (t463.length:Int)) = true:=decide_eq_true c57
       clear c57
       have H':=aQ H
       clear H
       go_wp2
       go_loopg [3,9] k3 (fun kq v3 v9 w'=>∃ (x3_4:List (S44)) (x9_4:Int),v9 = .int .i64 x9_4∧Aside0 (spec_l17Steps.l3 kq x3_4 t463 t467 x8_3 x9_4 a0_0 a0_1 l0_2 = some r)∧Aside0 (kq ≤ k3)∧Aside0 (Kd.N k44 44 w' w.heap.size (fun k_=>(P0_2_ k_ ∨ w.heap.size ≤ k_)∧some k_ ≠ ((.slice Zo t463.length Zj):Value).ownBlock∧some k_ ≠ ((.slice Yy t467.length Zr):Value).ownBlock∧k_ ≠ Zb) v3 x3_4)∧Aside0 (Kd.N k44 44 w' w.heap.size (fun k_=>(P0_2_ k_ ∨ w.heap.size ≤ k_)∧some k_ ≠ (v3:Value).ownBlock∧some k_ ≠ ((.slice Yy t467.length Zr):Value).ownBlock∧k_ ≠ Zb) (.slice Zo t463.length Zj) t463)∧Aside0 (Kd.N k44 44 w' w.heap.size (fun k_=>(P0_2_ k_ ∨ w.heap.size ≤ k_)∧some k_ ≠ (v3:Value).ownBlock∧some k_ ≠ ((.slice Zo t463.length Zj):Value).ownBlock∧k_ ≠ Zb) (.slice Yy t467.length Zr) t467)∧Aside0 (Kd.V k29 29 w' w.heap.size (fun k_=>(P0_2_ k_ ∨ w.heap.size ≤ k_)∧some k_ ≠ (v3:Value).ownBlock∧some k_ ≠ ((.slice Zo t463.length Zj):Value).ownBlock∧some k_ ≠ ((.slice Yy t467.length Zr):Value).ownBlock∧k_ ≠ Zb) (.slice (some Zm) l0_2.length c0_2) l0_2)∧Aside0 (w'.heap[Zb]? = some (.cells #[.int .i64 a0_0,.int .i64 a0_1,(.slice (some Zm) l0_2.length c0_2)] 29 (0,0)))∧Aside0 (Below w.heap.size w w'))
       case atStart=>exact ⟨(x3_3),(0),rfl,H',⟨Nat.le_refl _⟩,⟨nN Zh.out⟩,⟨nN Zd.out⟩,⟨nN Zf.out⟩,⟨nV Zc.out⟩,⟨nB Za.out⟩,⟨bB⟩⟩
       case round =>
        clear H'
        try clear c57b0
        repeat (first | clear Zh | clear Zd | clear Zf | clear Zc | clear Za | clear HB)
        obtain ⟨x3_4,x9_4,rfl,HA,HK4,Zh,Zd,Zf,Zc,Za,HB⟩:=hrel
        cases gk with
        | zero=>exact absurd HA.out (by simp [spec_l17Steps.l3])
        | succ k4 =>
         have H:=HA.out
         clear HA
         simp only [spec_l17Steps.l3] at H
         by_cases c58:x9_4 < (t467.length:Int);rotate_left
         ·rw [if_neg c58] at H
          have c58b0:decide (x9_4 < (t467.length:Int)) = false:=decide_eq_false c58
          clear c58
          have H':=aQ H
          clear H
          go_wp2
          go_roundg k4
          case measure=>have:=HK1.out;have:=HK2.out;have:=HK3.out;have:=HK4.out;omega
          case rel=>exact ⟨(x3_4),(wrap64 (x8_3 + 1)),rfl,H',⟨by have:=HK1.out;have:=HK2.out;have:=HK3.out;have:=HK4.out;omega⟩,⟨nN Zh.out⟩,⟨nN Zd.out⟩,⟨nN Zf.out⟩,⟨nV Zc.out⟩,⟨nB Za.out⟩,⟨bB⟩⟩
         rw [if_pos c58] at H
         have c58b0:decide (x9_4 < (t467.length:Int)) = true:=decide_eq_true c58
         clear c58
         by_cases c59:0 ≤ x8_3;rotate_left
         ·rw [if_neg c59] at H
          exact absurd H (by simp)
         rw [if_pos c59] at H
         have c59b0:decide (0 ≤ x8_3) = true:=decide_eq_true c59
         clear c59
         by_cases c60:x8_3 < (t463.length:Int);rotate_left
         ·rw [if_neg c60] at H
          exact absurd H (by simp)
         rw [if_pos c60] at H
         have c60b0:decide (x8_3 < (t463.length:Int)) = true:=decide_eq_true c60
         clear c60
         by_cases c61:((rd_T44 t463 x8_3).f0) = 0
         ·rw [if_pos c61] at H
          have c61b0:(((rd_T44 t463 x8_3).f0) == 0) = true:=beq_iff_eq.mpr c61
          have c61b1:(((rd_T44 t463 x8_3).f0) != 0) = false:=bne_eq_false_iff_eq.mpr c61
          clear c61
          have H':=aQ H
          clear H
          try go_wp2
          replace Zh:=aQ (Kd.N_drew Zh.out)
          replace Zd:=aQ (Kd.N_drew Zd.out)
          replace Zf:=aQ (Kd.N_drew Zf.out)
          replace Zc:=aQ (Kd.V_drew Zc.out)
          replace Za:=aQ (blk_drew Za.out)
          replace HB:=aQ (below_drew1 HB.out)
          have p492:0 ≤ (x8_3:Int):=of_decide_eq_true (by first | (with_reducible assumption) | assumption)
          have q492:x8_3 < (t463.length:Int):=of_decide_eq_true (by first | (with_reducible assumption) | assumption)
          obtain ⟨Ze,A492_3,c492_3,e492,ZE,ZF,ZG,Zp,ZH,ZI⟩:=at_T44 (Kd.N_reads' Zd.out).2.2 x8_3 p492 q492
          cases e492
          obtain ⟨VK,Yz,YA,ZW⟩:=Kd.N_get Zd.out z44 x8_3 p492 (by first | exact q492 | exact of_decide_eq_true (by first | (with_reducible assumption) | assumption) | (have e_:=(Kd.N_reads' Zd.out).1;omega))
          obtain ⟨WW,WX,rfl,Zs,Zt⟩:=k44_openF YA
          have Zn:=ZW 3 _ rfl
          rw [add_field _ _ 3 (by omega)] at Zn
          replace Zn:=Option.some.inj (Zn.symm.trans Zp)
          injection Zn with hva_ hvn_ hvc_
          rw [hva_] at Zt
          rw [hvc_] at Zs
          have Zq:=aQ (show Kd.V k29 29 _ w.heap.size _ _ ((rd_T44 t463 x8_3).f1.f2) from Kd.V_mk Zs Zt)
          clear hva_ hvn_ hvc_ Zt Zs
          clear ZW Yz
          have Zw:=aQ ZI
          have WY:=aQ ZH
          clear ZI ZH
          replace p492:=eq_true p492
          replace q492:=eq_true q492
          refine start_ (n:=20) (S:=fun w'=>w'.cell? (Ze.add ((x8_3).toNat * 4)) = some (.int .i64 ((rd_T44 t463 x8_3).f0))∧w'.cell? ⟨(Ze.add ((x8_3).toNat * 4)).block,(Ze.add ((x8_3).toNat * 4)).off + 1,none⟩ = some (.int .i64 ((rd_T44 t463 x8_3).f1.f0))∧w'.cell? ⟨(Ze.add ((x8_3).toNat * 4)).block,(Ze.add ((x8_3).toNat * 4)).off + 2,none⟩ = some (.int .i64 ((rd_T44 t463 x8_3).f1.f1))∧w'.cell? ⟨(Ze.add ((x8_3).toNat * 4)).block,(Ze.add ((x8_3).toNat * 4)).off + 3,none⟩ = some (.slice A492_3 ((rd_T44 t463 x8_3).f1.f2).length c492_3)) (ds:=[]) (bn 20 0) (by kernel_rfl) rfl rfl ⟨ZE,ZF,ZG,Zp⟩ (fun hHeld=>?_);refine with_tabW spec_l17Steps.tab24 spec_l17Steps.bits24 (fun HT_ HW_=>?_)
          generalize wr.drew = w62 at Zh Zd Zf Zc Za HB Zq Zw ZE ZF ZG Zp hHeld ⊢
          refine pur (i:=0) (N:=some 114) (bn 20 1) ?_
          refine pur (i:=1) (N:=some 115) (bn 20 3) ?_
          refine pur (i:=2) (N:=some 116) (bn 20 7) ?_
          refine pur (i:=3) (N:=some 117) (bn 20 15) ?_
          refine tak (i:=4) (N:=some 118) (bn 20 31) ?_
          refine pur (i:=5) (N:=some 119) (bn 20 63) ?_
          refine pur (i:=6) (N:=some 120) (bn 20 127) ?_
          refine pur (i:=7) (N:=some 121) (v:=undef) (bn 20 255) ?_
          refine pur (i:=8) (N:=some 122) (v:=undef) (bn 20 511) ?_
          refine pur (i:=9) (N:=some 123) (v:=undef) (bn 20 1023) ?_
          refine pur (i:=10) (N:=some 124) (v:=undef) (bn 20 2047) ?_
          refine pur (i:=11) (N:=some 125) (v:=undef) (bn 20 4095) ?_
          refine pur (i:=12) (N:=some 126) (v:=undef) (bn 20 8191) ?_
          refine pur (i:=13) (N:=some 127) (v:=undef) (bn 20 16383) ?_
          refine pur (i:=14) (N:=some 128) (v:=undef) (bn 20 32767) ?_
          refine pur (i:=15) (N:=some 129) (v:=undef) (bn 20 65535) ?_
          refine pur (i:=16) (N:=some 130) (v:=undef) (bn 20 131071) ?_
          refine pur (i:=17) (N:=some 131) (v:=undef) (bn 20 262143) ?_
          refine pur (i:=18) (N:=some 132) (v:=undef) (bn 20 524287) ?_
          refine pur (i:=19) (N:=some 133) (bn 20 1048575) ?_
          refine done_ (done_of HT_.out (by kernel_rfl)) ?_
          try go_wp2
          go_roundg k4
          case measure=>have:=HK1.out;have:=HK2.out;have:=HK3.out;have:=HK4.out;omega
          case rel=>exact ⟨(x3_4),(wrap64 (x9_4 + 1)),rfl,H',⟨by have:=HK1.out;have:=HK2.out;have:=HK3.out;have:=HK4.out;omega⟩,⟨nN Zh.out⟩,⟨nN Zd.out⟩,⟨nN Zf.out⟩,⟨nV Zc.out⟩,⟨nB Za.out⟩,⟨bB⟩⟩
         rw [if_neg c61] at H
         have c61b0:(((rd_T44 t463 x8_3).f0) == 0) = false:=beq_eq_false_iff_ne.mpr c61
         have c61b1:(((rd_T44 t463 x8_3).f0) != 0) = true:=bne_iff_ne.mpr c61
         by_cases c63:0 ≤ x9_4;rotate_left
         ·rw [if_neg c63] at H
          exact absurd H (by simp)
         rw [if_pos c63] at H
         have c63b0:decide (0 ≤ x9_4) = true:=decide_eq_true c63
         clear c63
         by_cases c64:((rd_T44 t463 x8_3).f0) = (wrap64 (-((rd_T44 t467 x9_4).f0)));rotate_left
         ·rw [if_neg c64] at H
          have c64b0:(((rd_T44 t463 x8_3).f0) == (wrap64 (-((rd_T44 t467 x9_4).f0)))) = false:=beq_eq_false_iff_ne.mpr c64
          have c64b1:(((rd_T44 t463 x8_3).f0) != (wrap64 (-((rd_T44 t467 x9_4).f0)))) = true:=bne_iff_ne.mpr c64
          have H':=aQ H
          clear H
          try go_wp2
          replace Zh:=aQ (Kd.N_drew Zh.out)
          replace Zd:=aQ (Kd.N_drew Zd.out)
          replace Zf:=aQ (Kd.N_drew Zf.out)
          replace Zc:=aQ (Kd.V_drew Zc.out)
          replace Za:=aQ (blk_drew Za.out)
          replace HB:=aQ (below_drew1 HB.out)
          have p492:0 ≤ (x8_3:Int):=of_decide_eq_true (by first | (with_reducible assumption) | assumption)
          have q492:x8_3 < (t463.length:Int):=of_decide_eq_true (by first | (with_reducible assumption) | assumption)
          obtain ⟨Ze,A492_3,c492_3,e492,ZE,ZF,ZG,Zp,ZH,ZI⟩:=at_T44 (Kd.N_reads' Zd.out).2.2 x8_3 p492 q492
          cases e492
          obtain ⟨VK,Yz,YA,ZW⟩:=Kd.N_get Zd.out z44 x8_3 p492 (by first | exact q492 | exact of_decide_eq_true (by first | (with_reducible assumption) | assumption) | (have e_:=(Kd.N_reads' Zd.out).1;omega))
          obtain ⟨WW,WX,rfl,Zs,Zt⟩:=k44_openF YA
          have Zn:=ZW 3 _ rfl
          rw [add_field _ _ 3 (by omega)] at Zn
          replace Zn:=Option.some.inj (Zn.symm.trans Zp)
          injection Zn with hva_ hvn_ hvc_
          rw [hva_] at Zt
          rw [hvc_] at Zs
          have Zq:=aQ (show Kd.V k29 29 _ w.heap.size _ _ ((rd_T44 t463 x8_3).f1.f2) from Kd.V_mk Zs Zt)
          clear hva_ hvn_ hvc_ Zt Zs
          clear ZW Yz
          have Zw:=aQ ZI
          have WY:=aQ ZH
          clear ZI ZH
          replace p492:=eq_true p492
          replace q492:=eq_true q492
          have p493:0 ≤ (x8_3:Int):=of_decide_eq_true (by first | (with_reducible assumption) | assumption)
          have q493:x8_3 < (t463.length:Int):=of_decide_eq_true (by first | (with_reducible assumption) | assumption)
          obtain ⟨Vq,A493_3,c493_3,e493,Yk,Yl,Ym,ZB,Yn,Yo⟩:=at_T44 (Kd.N_reads' Zd.out).2.2 x8_3 p493 q493
          obtain rfl:Ze = Vq:=(by injection e493)
          obtain ⟨Tc,Wj,Wk,YB⟩:=Kd.N_get Zd.out z44 x8_3 p493 (by first | exact q493 | exact of_decide_eq_true (by first | (with_reducible assumption) | assumption) | (have e_:=(Kd.N_reads' Zd.out).1;omega))
          obtain ⟨Ud,Ue,rfl,ZP,ZQ⟩:=k44_openF Wk
          have ZC:=YB 3 _ rfl
          rw [add_field _ _ 3 (by omega)] at ZC
          replace ZC:=Option.some.inj (ZC.symm.trans ZB)
          injection ZC with hva_ hvn_ hvc_
          rw [hva_] at ZQ
          rw [hvc_] at ZP
          have Zu:=aQ (show Kd.V k29 29 _ w.heap.size _ _ ((rd_T44 t463 x8_3).f1.f2) from Kd.V_mk ZP ZQ)
          clear hva_ hvn_ hvc_ ZQ ZP
          clear YB Wj
          have ZJ:=aQ Yo
          have Uf:=aQ Yn
          clear Yo Yn
          replace p493:=eq_true p493
          replace q493:=eq_true q493
          have ea_:=Option.some.inj (Zp.symm.trans ZB)
          injection ea_ with ea_ en_ ec_
          subst ea_
          subst ec_
          clear en_
          have p494:0 ≤ (x9_4:Int):=of_decide_eq_true (by first | (with_reducible assumption) | assumption)
          have q494:x9_4 < (t467.length:Int):=of_decide_eq_true (by first | (with_reducible assumption) | assumption)
          obtain ⟨Zi,A494_3,c494_3,e494,Yp,Yq,Yr,ZR,Ys,Yt⟩:=at_T44 (Kd.N_reads' Zf.out).2.2 x9_4 p494 q494
          cases e494
          obtain ⟨Td,Wl,Wm,YC⟩:=Kd.N_get Zf.out z44 x9_4 p494 (by first | exact q494 | exact of_decide_eq_true (by first | (with_reducible assumption) | assumption) | (have e_:=(Kd.N_reads' Zf.out).1;omega))
          obtain ⟨Ug,Uh,rfl,ZS,ZT⟩:=k44_openF Wm
          have ZD:=YC 3 _ rfl
          rw [add_field _ _ 3 (by omega)] at ZD
          replace ZD:=Option.some.inj (ZD.symm.trans ZR)
          injection ZD with hva_ hvn_ hvc_
          rw [hva_] at ZT
          rw [hvc_] at ZS
          have Zv:=aQ (show Kd.V k29 29 _ w.heap.size _ _ ((rd_T44 t467 x9_4).f1.f2) from Kd.V_mk ZS ZT)
          clear hva_ hvn_ hvc_ ZT ZS
          clear YC Wl
          have ZK:=aQ Yt
          have Ui:=aQ Ys
          clear Yt Ys
          replace p494:=eq_true p494
          replace q494:=eq_true q494
          refine start_ (n:=20) (S:=fun w'=>w'.cell? (Ze.add ((x8_3).toNat * 4)) = some (.int .i64 ((rd_T44 t463 x8_3).f0))∧w'.cell? ⟨(Ze.add ((x8_3).toNat * 4)).block,(Ze.add ((x8_3).toNat * 4)).off + 1,none⟩ = some (.int .i64 ((rd_T44 t463 x8_3).f1.f0))∧w'.cell? ⟨(Ze.add ((x8_3).toNat * 4)).block,(Ze.add ((x8_3).toNat * 4)).off + 2,none⟩ = some (.int .i64 ((rd_T44 t463 x8_3).f1.f1))∧w'.cell? ⟨(Ze.add ((x8_3).toNat * 4)).block,(Ze.add ((x8_3).toNat * 4)).off + 3,none⟩ = some (.slice A492_3 ((rd_T44 t463 x8_3).f1.f2).length c492_3)∧w'.cell? (Ze.add ((x8_3).toNat * 4)) = some (.int .i64 ((rd_T44 t463 x8_3).f0))∧w'.cell? ⟨(Ze.add ((x8_3).toNat * 4)).block,(Ze.add ((x8_3).toNat * 4)).off + 1,none⟩ = some (.int .i64 ((rd_T44 t463 x8_3).f1.f0))∧w'.cell? ⟨(Ze.add ((x8_3).toNat * 4)).block,(Ze.add ((x8_3).toNat * 4)).off + 2,none⟩ = some (.int .i64 ((rd_T44 t463 x8_3).f1.f1))∧w'.cell? ⟨(Ze.add ((x8_3).toNat * 4)).block,(Ze.add ((x8_3).toNat * 4)).off + 3,none⟩ = some (.slice A492_3 ((rd_T44 t463 x8_3).f1.f2).length c492_3)∧w'.cell? (Zi.add ((x9_4).toNat * 4)) = some (.int .i64 ((rd_T44 t467 x9_4).f0))∧w'.cell? ⟨(Zi.add ((x9_4).toNat * 4)).block,(Zi.add ((x9_4).toNat * 4)).off + 1,none⟩ = some (.int .i64 ((rd_T44 t467 x9_4).f1.f0))∧w'.cell? ⟨(Zi.add ((x9_4).toNat * 4)).block,(Zi.add ((x9_4).toNat * 4)).off + 2,none⟩ = some (.int .i64 ((rd_T44 t467 x9_4).f1.f1))∧w'.cell? ⟨(Zi.add ((x9_4).toNat * 4)).block,(Zi.add ((x9_4).toNat * 4)).off + 3,none⟩ = some (.slice A494_3 ((rd_T44 t467 x9_4).f1.f2).length c494_3)) (ds:=[]) (bn 20 0) (by kernel_rfl) rfl rfl ⟨ZE,ZF,ZG,Zp,Yk,Yl,Ym,ZB,Yp,Yq,Yr,ZR⟩ (fun hHeld=>?_);refine with_tabW spec_l17Steps.tab24 spec_l17Steps.bits24 (fun HT_ HW_=>?_)
          generalize wr.drew = w72 at Zh Zd Zf Zc Za HB Zq Zu Zv Zw ZJ ZK ZE ZF ZG Zp Yk Yl Ym ZB Yp Yq Yr ZR hHeld ⊢
          refine pur (i:=0) (N:=some 114) (bn 20 1) ?_
          refine pur (i:=1) (N:=some 115) (bn 20 3) ?_
          refine pur (i:=2) (N:=some 116) (bn 20 7) ?_
          refine pur (i:=3) (N:=some 117) (bn 20 15) ?_
          refine tak (i:=4) (N:=some 118) (bn 20 31) ?_
          refine pur (i:=5) (N:=some 119) (bn 20 63) ?_
          refine pur (i:=6) (N:=some 120) (bn 20 127) ?_
          refine pur (i:=7) (N:=some 121) (bn 20 255) ?_
          refine pur (i:=8) (N:=some 122) (bn 20 511) ?_
          refine pur (i:=9) (N:=some 123) (bn 20 1023) ?_
          refine pur (i:=10) (N:=some 124) (bn 20 2047) ?_
          refine pur (i:=12) (N:=some 126) (bn 20 6143) ?_
          refine pur (i:=13) (N:=some 127) (bn 20 14335) ?_
          refine pur (i:=14) (N:=some 128) (bn 20 30719) ?_
          refine pur (i:=15) (N:=some 129) (bn 20 63487) ?_
          refine tak (i:=11) (N:=some 125) (bn 20 65535) ?_
          refine tak (i:=16) (N:=some 130) (bn 20 131071) ?_
          refine pur (i:=17) (N:=some 131) (bn 20 262143) ?_
          refine pur (i:=18) (N:=some 132) (bn 20 524287) ?_
          refine pur (i:=19) (N:=some 133) (bn 20 1048575) ?_
          refine done_ (done_of HT_.out (by kernel_rfl)) ?_
          try go_wp2
          go_roundg k4
          case measure=>have:=HK1.out;have:=HK2.out;have:=HK3.out;have:=HK4.out;omega
          case rel=>exact ⟨(x3_4),(wrap64 (x9_4 + 1)),rfl,H',⟨by have:=HK1.out;have:=HK2.out;have:=HK3.out;have:=HK4.out;omega⟩,⟨nN Zh.out⟩,⟨nN Zd.out⟩,⟨nN Zf.out⟩,⟨nV Zc.out⟩,⟨nB Za.out⟩,⟨bB⟩⟩
         rw [if_pos c64] at H
         have c64b0:(((rd_T44 t463 x8_3).f0) == (wrap64 (-((rd_T44 t467 x9_4).f0)))) = true:=beq_iff_eq.mpr c64
         have c64b1:(((rd_T44 t463 x8_3).f0) != (wrap64 (-((rd_T44 t467 x9_4).f0)))) = false:=bne_eq_false_iff_eq.mpr c64
         clear c64
         obtain ⟨⟨t497,t498,t499⟩,A65,H⟩:=bQ H
         dsimp only at H
         by_cases c66:x3_4.length < 2932031007402;rotate_left
         ·rw [if_neg c66] at H
          exact absurd H (by simp)
         rw [if_pos c66] at H
         have LMc66:=aQ c66
         clear c66
         obtain ⟨y502,Vr⟩:∃ y_:List (S44),y_ = (x3_4 ++ [(⟨0,(⟨t497,t498,t499⟩:S29)⟩:S44)]):=⟨_,rfl⟩
         replace H:(spec_l17Steps.l3 k4 y502 t463 t467 x8_3 (wrap64 (x9_4 + 1)) a0_0 a0_1 l0_2) = some r:=by rw [Vr];exact H
         have Te:=aQ Vr
         clear Vr
         have H':=aQ H
         clear H
         try go_wp2
         replace Zh:=aQ (Kd.N_drew Zh.out)
         replace Zd:=aQ (Kd.N_drew Zd.out)
         replace Zf:=aQ (Kd.N_drew Zf.out)
         replace Zc:=aQ (Kd.V_drew Zc.out)
         replace Za:=aQ (blk_drew Za.out)
         replace HB:=aQ (below_drew1 HB.out)
         have p492:0 ≤ (x8_3:Int):=of_decide_eq_true (by first | (with_reducible assumption) | assumption)
         have q492:x8_3 < (t463.length:Int):=of_decide_eq_true (by first | (with_reducible assumption) | assumption)
         obtain ⟨Ze,A492_3,c492_3,e492,ZE,ZF,ZG,Zp,ZH,ZI⟩:=at_T44 (Kd.N_reads' Zd.out).2.2 x8_3 p492 q492
         cases e492
         obtain ⟨VK,Yz,YA,ZW⟩:=Kd.N_get Zd.out z44 x8_3 p492 (by first | exact q492 | exact of_decide_eq_true (by first | (with_reducible assumption) | assumption) | (have e_:=(Kd.N_reads' Zd.out).1;omega))
         obtain ⟨WW,WX,rfl,Zs,Zt⟩:=k44_openF YA
         have Zn:=ZW 3 _ rfl
         rw [add_field _ _ 3 (by omega)] at Zn
         replace Zn:=Option.some.inj (Zn.symm.trans Zp)
         injection Zn with hva_ hvn_ hvc_
         rw [hva_] at Zt
         rw [hvc_] at Zs
         have Zq:=aQ (show Kd.V k29 29 _ w.heap.size _ _ ((rd_T44 t463 x8_3).f1.f2) from Kd.V_mk Zs Zt)
         clear hva_ hvn_ hvc_ Zt Zs
         clear ZW Yz
         have Zw:=aQ ZI
         have WY:=aQ ZH
         clear ZI ZH
         replace p492:=eq_true p492
         replace q492:=eq_true q492
         have p493:0 ≤ (x8_3:Int):=of_decide_eq_true (by first | (with_reducible assumption) | assumption)
         have q493:x8_3 < (t463.length:Int):=of_decide_eq_true (by first | (with_reducible assumption) | assumption)
         obtain ⟨Vq,A493_3,c493_3,e493,Yk,Yl,Ym,ZB,Yn,Yo⟩:=at_T44 (Kd.N_reads' Zd.out).2.2 x8_3 p493 q493
         obtain rfl:Ze = Vq:=(by injection e493)
         obtain ⟨Tc,Wj,Wk,YB⟩:=Kd.N_get Zd.out z44 x8_3 p493 (by first | exact q493 | exact of_decide_eq_true (by first | (with_reducible assumption) | assumption) | (have e_:=(Kd.N_reads' Zd.out).1;omega))
         obtain ⟨Ud,Ue,rfl,ZP,ZQ⟩:=k44_openF Wk
         have ZC:=YB 3 _ rfl
         rw [add_field _ _ 3 (by omega)] at ZC
         replace ZC:=Option.some.inj (ZC.symm.trans ZB)
         injection ZC with hva_ hvn_ hvc_
         rw [hva_] at ZQ
         rw [hvc_] at ZP
         have Zu:=aQ (show Kd.V k29 29 _ w.heap.size _ _ ((rd_T44 t463 x8_3).f1.f2) from Kd.V_mk ZP ZQ)
         clear hva_ hvn_ hvc_ ZQ ZP
         clear YB Wj
         have ZJ:=aQ Yo
         have Uf:=aQ Yn
         clear Yo Yn
         replace p493:=eq_true p493
         replace q493:=eq_true q493
         have ea_:=Option.some.inj (Zp.symm.trans ZB)
         injection ea_ with ea_ en_ ec_
         subst ea_
         subst ec_
         clear en_
         have p494:0 ≤ (x9_4:Int):=of_decide_eq_true (by first | (with_reducible assumption) | assumption)
         have q494:x9_4 < (t467.length:Int):=of_decide_eq_true (by first | (with_reducible assumption) | assumption)
         obtain ⟨Zi,A494_3,c494_3,e494,Yp,Yq,Yr,ZR,Ys,Yt⟩:=at_T44 (Kd.N_reads' Zf.out).2.2 x9_4 p494 q494
         cases e494
         obtain ⟨Td,Wl,Wm,YC⟩:=Kd.N_get Zf.out z44 x9_4 p494 (by first | exact q494 | exact of_decide_eq_true (by first | (with_reducible assumption) | assumption) | (have e_:=(Kd.N_reads' Zf.out).1;omega))
         obtain ⟨Ug,Uh,rfl,ZS,ZT⟩:=k44_openF Wm
         have ZD:=YC 3 _ rfl
         rw [add_field _ _ 3 (by omega)] at ZD
         replace ZD:=Option.some.inj (ZD.symm.trans ZR)
         injection ZD with hva_ hvn_ hvc_
         rw [hva_] at ZT
         rw [hvc_] at ZS
         have Zv:=aQ (show Kd.V k29 29 _ w.heap.size _ _ ((rd_T44 t467 x9_4).f1.f2) from Kd.V_mk ZS ZT)
         clear hva_ hvn_ hvc_ ZT ZS
         clear YC Wl
         have ZK:=aQ Yt
         have Ui:=aQ Ys
         clear Yt Ys
         replace p494:=eq_true p494
         replace q494:=eq_true q494
         refine start_ (n:=20) (S:=fun w'=>w'.cell? (Ze.add ((x8_3).toNat * 4)) = some (.int .i64 ((rd_T44 t463 x8_3).f0))∧w'.cell? ⟨(Ze.add ((x8_3).toNat * 4)).block,(Ze.add ((x8_3).toNat * 4)).off + 1,none⟩ = some (.int .i64 ((rd_T44 t463 x8_3).f1.f0))∧w'.cell? ⟨(Ze.add ((x8_3).toNat * 4)).block,(Ze.add ((x8_3).toNat * 4)).off + 2,none⟩ = some (.int .i64 ((rd_T44 t463 x8_3).f1.f1))∧w'.cell? ⟨(Ze.add ((x8_3).toNat * 4)).block,(Ze.add ((x8_3).toNat * 4)).off + 3,none⟩ = some (.slice A492_3 ((rd_T44 t463 x8_3).f1.f2).length c492_3)∧w'.cell? (Ze.add ((x8_3).toNat * 4)) = some (.int .i64 ((rd_T44 t463 x8_3).f0))∧w'.cell? ⟨(Ze.add ((x8_3).toNat * 4)).block,(Ze.add ((x8_3).toNat * 4)).off + 1,none⟩ = some (.int .i64 ((rd_T44 t463 x8_3).f1.f0))∧w'.cell? ⟨(Ze.add ((x8_3).toNat * 4)).block,(Ze.add ((x8_3).toNat * 4)).off + 2,none⟩ = some (.int .i64 ((rd_T44 t463 x8_3).f1.f1))∧w'.cell? ⟨(Ze.add ((x8_3).toNat * 4)).block,(Ze.add ((x8_3).toNat * 4)).off + 3,none⟩ = some (.slice A492_3 ((rd_T44 t463 x8_3).f1.f2).length c492_3)∧w'.cell? (Zi.add ((x9_4).toNat * 4)) = some (.int .i64 ((rd_T44 t467 x9_4).f0))∧w'.cell? ⟨(Zi.add ((x9_4).toNat * 4)).block,(Zi.add ((x9_4).toNat * 4)).off + 1,none⟩ = some (.int .i64 ((rd_T44 t467 x9_4).f1.f0))∧w'.cell? ⟨(Zi.add ((x9_4).toNat * 4)).block,(Zi.add ((x9_4).toNat * 4)).off + 2,none⟩ = some (.int .i64 ((rd_T44 t467 x9_4).f1.f1))∧w'.cell? ⟨(Zi.add ((x9_4).toNat * 4)).block,(Zi.add ((x9_4).toNat * 4)).off + 3,none⟩ = some (.slice A494_3 ((rd_T44 t467 x9_4).f1.f2).length c494_3)) (ds:=[]) (bn 20 0) (by kernel_rfl) rfl rfl ⟨ZE,ZF,ZG,Zp,Yk,Yl,Ym,ZB,Yp,Yq,Yr,ZR⟩ (fun hHeld=>?_);refine with_tabW spec_l17Steps.tab24 spec_l17Steps.bits24 (fun HT_ HW_=>?_)
         generalize wr.drew = w67 at Zh Zd Zf Zc Za HB Zq Zu Zv Zw ZJ ZK ZE ZF ZG Zp Yk Yl Ym ZB Yp Yq Yr ZR hHeld ⊢
         refine pur (i:=0) (N:=some 114) (bn 20 1) ?_
         refine pur (i:=1) (N:=some 115) (bn 20 3) ?_
         refine pur (i:=2) (N:=some 116) (bn 20 7) ?_
         refine pur (i:=3) (N:=some 117) (bn 20 15) ?_
         refine tak (i:=4) (N:=some 118) (bn 20 31) ?_
         refine pur (i:=5) (N:=some 119) (bn 20 63) ?_
         refine pur (i:=6) (N:=some 120) (bn 20 127) ?_
         refine pur (i:=7) (N:=some 121) (bn 20 255) ?_
         refine pur (i:=8) (N:=some 122) (bn 20 511) ?_
         refine pur (i:=9) (N:=some 123) (bn 20 1023) ?_
         refine pur (i:=10) (N:=some 124) (bn 20 2047) ?_
         refine pur (i:=12) (N:=some 126) (bn 20 6143) ?_
         refine pur (i:=13) (N:=some 127) (bn 20 14335) ?_
         refine pur (i:=14) (N:=some 128) (bn 20 30719) ?_
         refine pur (i:=15) (N:=some 129) (bn 20 63487) ?_
         refine tak (i:=11) (N:=some 125) (bn 20 65535) ?_
         refine tak (i:=16) (N:=some 130) (bn 20 131071) ?_
         refine pur (i:=17) (N:=some 131) (bn 20 262143) ?_
         refine pur (i:=18) (N:=some 132) (bn 20 524287) ?_
         refine pur (i:=19) (N:=some 133) (bn 20 1048575) ?_
         refine done_ (done_of HT_.out (by kernel_rfl)) ?_
         try go_wp2
         replace Zh:=aQ (Kd.N_drew Zh.out)
         replace Zd:=aQ (Kd.N_drew Zd.out)
         replace Zf:=aQ (Kd.N_drew Zf.out)
         replace Zc:=aQ (Kd.V_drew Zc.out)
         replace Zq:=aQ (Kd.V_drew Zq.out)
         replace Zu:=aQ (Kd.V_drew Zu.out)
         replace Zv:=aQ (Kd.V_drew Zv.out)
         replace Za:=aQ (blk_drew Za.out)
         replace Zw:=aQ (Kd.C_drew Zw.out)
         replace ZJ:=aQ (Kd.C_drew ZJ.out)
         replace ZK:=aQ (Kd.C_drew ZK.out)
         replace HB:=aQ (below_drew1 HB.out)
         have p495:0 ≤ (x8_3:Int):=of_decide_eq_true (by first | (with_reducible assumption) | assumption)
         have q495:x8_3 < (t463.length:Int):=of_decide_eq_true (by first | (with_reducible assumption) | assumption)
         obtain ⟨Tf,A495_3,c495_3,e495,WZ,Va,Vb,XX,Vc,Vd⟩:=at_T44 (Kd.N_reads' Zd.out).2.2 x8_3 p495 q495
         obtain rfl:Ze = Tf:=(by injection e495)
         obtain ⟨SC,UI,UJ,VD⟩:=Kd.N_get Zd.out z44 x8_3 p495 (by first | exact q495 | exact of_decide_eq_true (by first | (with_reducible assumption) | assumption) | (have e_:=(Kd.N_reads' Zd.out).1;omega))
         obtain ⟨Sf,Sg,rfl,XY,XZ⟩:=k44_openF UJ
         have Xh:=VD 3 _ rfl
         rw [add_field _ _ 3 (by omega)] at Xh
         replace Xh:=Option.some.inj (Xh.symm.trans XX)
         injection Xh with hva_ hvn_ hvc_
         rw [hva_] at XZ
         rw [hvc_] at XY
         have ZU:=aQ (show Kd.V k29 29 _ w.heap.size _ _ ((rd_T44 t463 x8_3).f1.f2) from Kd.V_mk XY XZ)
         clear hva_ hvn_ hvc_ XZ XY
         clear VD UI
         have Wa:=aQ Vd
         have Sh:=aQ Vc
         clear Vd Vc
         replace p495:=eq_true p495
         replace q495:=eq_true q495
         have p496:0 ≤ (x9_4:Int):=of_decide_eq_true (by first | (with_reducible assumption) | assumption)
         have q496:x9_4 < (t467.length:Int):=of_decide_eq_true (by first | (with_reducible assumption) | assumption)
         obtain ⟨Tg,A496_3,c496_3,e496,Ve,Vf,Vg,Wb,Vh,Vi⟩:=at_T44 (Kd.N_reads' Zf.out).2.2 x9_4 p496 q496
         obtain rfl:Zi = Tg:=(by injection e496)
         obtain ⟨SD,UK,UL,VE⟩:=Kd.N_get Zf.out z44 x9_4 p496 (by first | exact q496 | exact of_decide_eq_true (by first | (with_reducible assumption) | assumption) | (have e_:=(Kd.N_reads' Zf.out).1;omega))
         obtain ⟨Si,Sj,rfl,Wc,Wd⟩:=k44_openF UL
         have Xi:=VE 3 _ rfl
         rw [add_field _ _ 3 (by omega)] at Xi
         replace Xi:=Option.some.inj (Xi.symm.trans Wb)
         injection Xi with hva_ hvn_ hvc_
         rw [hva_] at Wd
         rw [hvc_] at Wc
         have ZV:=aQ (show Kd.V k29 29 _ w.heap.size _ _ ((rd_T44 t467 x9_4).f1.f2) from Kd.V_mk Wc Wd)
         clear hva_ hvn_ hvc_ Wd Wc
         clear VE UK
         have We:=aQ Vi
         have Sk:=aQ Vh
         clear Vi Vh
         replace p496:=eq_true p496
         replace q496:=eq_true q496
         refine start_ (n:=18) (S:=fun w'=>w'.cell? ⟨Zb,0,none⟩ = some (.int .i64 a0_0)∧w'.cell? ⟨Zb,1,none⟩ = some (.int .i64 a0_1)∧w'.cell? ⟨Zb,2,none⟩ = some (.slice (some Zm) l0_2.length c0_2)∧w'.cell? (Ze.add ((x8_3).toNat * 4)) = some (.int .i64 ((rd_T44 t463 x8_3).f0))∧w'.cell? ⟨(Ze.add ((x8_3).toNat * 4)).block,(Ze.add ((x8_3).toNat * 4)).off + 1,none⟩ = some (.int .i64 ((rd_T44 t463 x8_3).f1.f0))∧w'.cell? ⟨(Ze.add ((x8_3).toNat * 4)).block,(Ze.add ((x8_3).toNat * 4)).off + 2,none⟩ = some (.int .i64 ((rd_T44 t463 x8_3).f1.f1))∧w'.cell? ⟨(Ze.add ((x8_3).toNat * 4)).block,(Ze.add ((x8_3).toNat * 4)).off + 3,none⟩ = some (.slice A495_3 ((rd_T44 t463 x8_3).f1.f2).length c495_3)∧w'.cell? (Zi.add ((x9_4).toNat * 4)) = some (.int .i64 ((rd_T44 t467 x9_4).f0))∧w'.cell? ⟨(Zi.add ((x9_4).toNat * 4)).block,(Zi.add ((x9_4).toNat * 4)).off + 1,none⟩ = some (.int .i64 ((rd_T44 t467 x9_4).f1.f0))∧w'.cell? ⟨(Zi.add ((x9_4).toNat * 4)).block,(Zi.add ((x9_4).toNat * 4)).off + 2,none⟩ = some (.int .i64 ((rd_T44 t467 x9_4).f1.f1))∧w'.cell? ⟨(Zi.add ((x9_4).toNat * 4)).block,(Zi.add ((x9_4).toNat * 4)).off + 3,none⟩ = some (.slice A496_3 ((rd_T44 t467 x9_4).f1.f2).length c496_3)) (ds:=[15,16]) (bn 18 0) (by kernel_rfl) rfl rfl ⟨(blk_cell Za.out 0).trans rfl,(blk_cell Za.out 1).trans rfl,(blk_cell Za.out 2).trans rfl,WZ,Va,Vb,XX,Ve,Vf,Vg,Wb⟩ (fun hHeld=>?_);refine with_tabW spec_l17Steps.tab25 spec_l17Steps.bits25 (fun HT_ HW_=>?_)
         generalize w67.drew = w68 at Zh Zd Zf Zc Zq Zu Zv Za Zw ZJ ZK HB ZU ZV Wa We WZ Va Vb XX Ve Vf Vg Wb hHeld ⊢
         refine pur (i:=0) (N:=some 134) (bn 18 1) ?_
         refine pur (i:=1) (N:=some 135) (bn 18 3) ?_
         refine pur (i:=3) (N:=some 137) (bn 18 11) ?_
         refine pur (i:=4) (N:=some 138) (bn 18 27) ?_
         refine pur (i:=5) (N:=some 139) (bn 18 59) ?_
         refine pur (i:=6) (N:=some 140) (bn 18 123) ?_
         refine pur (i:=8) (N:=some 142) (bn 18 379) ?_
         refine pur (i:=9) (N:=some 143) (bn 18 891) ?_
         refine pur (i:=10) (N:=some 144) (bn 18 1915) ?_
         refine pur (i:=11) (N:=some 145) (bn 18 3963) ?_
         refine tak (i:=2) (N:=some 136) (bn 18 3967) ?_
         refine tak (i:=7) (N:=some 141) (bn 18 4095) ?_
         refine tak (i:=12) (N:=some 146) (bn 18 8191) ?_
         refine one_ (i:=13) (N:=some 147) (bn 18 16383) rfl rfl (one_of HT_.out (by kernel_rfl)) (by decide) (fun K hK=>?_)
         refine goes1 Try.func66 #[.int .i64 a0_0,.agg #[.int .i64 ((rd_T44 t463 x8_3).f1.f0),.int .i64 ((rd_T44 t463 x8_3).f1.f1),.slice A495_3 ((rd_T44 t463 x8_3).f1.f2).length c495_3],.agg #[.int .i64 ((rd_T44 t467 x9_4).f1.f0),.int .i64 ((rd_T44 t467 x9_4).f1.f1),.slice A496_3 ((rd_T44 t467 x9_4).f1.f2).length c496_3]] ?_
         with_reducible refine (spec_l17Two.calls a0_0 ((rd_T44 t463 x8_3).f1.f0) ((rd_T44 t463 x8_3).f1.f1) (fun k_=>(((P0_2_ k_ ∨ w.heap.size ≤ k_)∧(some k_ ≠ (u3:Value).ownBlock∧(some k_ ≠ (.slice (some Zi) t467.length Zr:Value).ownBlock∧k_ ≠ Zb)))∧some k_ ≠ (.slice (some Ze) t463.length Zj:Value).ownBlock)) _ _ ((rd_T44 t463 x8_3).f1.f2) ((rd_T44 t467 x9_4).f1.f0) ((rd_T44 t467 x9_4).f1.f1) (fun k_=>(((P0_2_ k_ ∨ w.heap.size ≤ k_)∧(some k_ ≠ (u3:Value).ownBlock∧(some k_ ≠ (.slice (some Ze) t463.length Zj:Value).ownBlock∧k_ ≠ Zb)))∧some k_ ≠ (.slice (some Zi) t467.length Zr:Value).ownBlock)) _ _ ((rd_T44 t467 x9_4).f1.f2) t497 t498 t499 _ ?ZA ?Xo A65.out).mono ?_
         (case ZA=>exact ZU.out)
         (case Xo=>exact ZV.out)
         rintro e w69 ⟨v500,rfl,ho0,hb⟩
         have HS3_:=(hb.cell (World.block_lt_of_cell? _ _ (hHeld.2.2.2.1))).trans (hHeld.2.2.2.1)
         have HS4_:=(hb.cell (World.block_lt_of_cell? _ _ (hHeld.2.2.2.2.1))).trans (hHeld.2.2.2.2.1)
         have HS5_:=(hb.cell (World.block_lt_of_cell? _ _ (hHeld.2.2.2.2.2.1))).trans (hHeld.2.2.2.2.2.1)
         have HS6_:=(hb.cell (World.block_lt_of_cell? _ _ (hHeld.2.2.2.2.2.2.1))).trans (hHeld.2.2.2.2.2.2.1)
         have HS7_:=(hb.cell (World.block_lt_of_cell? _ _ (hHeld.2.2.2.2.2.2.2.1))).trans (hHeld.2.2.2.2.2.2.2.1)
         have HS8_:=(hb.cell (World.block_lt_of_cell? _ _ (hHeld.2.2.2.2.2.2.2.2.1))).trans (hHeld.2.2.2.2.2.2.2.2.1)
         have HS9_:=(hb.cell (World.block_lt_of_cell? _ _ (hHeld.2.2.2.2.2.2.2.2.2.1))).trans (hHeld.2.2.2.2.2.2.2.2.2.1)
         have HS10_:=(hb.cell (World.block_lt_of_cell? _ _ (hHeld.2.2.2.2.2.2.2.2.2.2))).trans (hHeld.2.2.2.2.2.2.2.2.2.2)
         refine ⟨_,rfl,?_⟩
         replace Zc:=aQ (Kd.V_elder' (nV Zc.out) (Kd.N_base ho0) hb)
         replace Zq:=aQ (Kd.V_elder' (nV Zq.out) (Kd.N_base ho0) hb)
         replace Zu:=aQ (Kd.V_elder' (nV Zu.out) (Kd.N_base ho0) hb)
         replace Zv:=aQ (Kd.V_elder' (nV Zv.out) (Kd.N_base ho0) hb)
         replace ZU:=aQ (Kd.V_elder' (nV ZU.out) (Kd.N_base ho0) hb)
         replace ZV:=aQ (Kd.V_elder' (nV ZV.out) (Kd.N_base ho0) hb)
         have Wi:=aQ (Kd.N_lower (Kd.N_mono (ok':=fun k_=>(P0_2_ k_ ∨ w.heap.size ≤ k_)∧some k_ ≠ (u3:Value).ownBlock∧some k_ ≠ (.slice (some Ze) t463.length Zj:Value).ownBlock∧some k_ ≠ (.slice (some Zi) t467.length Zr:Value).ownBlock∧k_ ≠ Zb) ho0 (fun k_ hk_=>⟨Or.elim hk_ (fun hs_=>Or.elim hs_ (fun hs_=>hs_.1.1) (fun hs_=>hs_.1.1)) (fun hn_=>(.inr (Nat.le_trans (below_size bB) hn_))),Or.elim hk_ (fun hs_=>Or.elim hs_ (fun hs_=>hs_.1.2.1) (fun hs_=>hs_.1.2.1)) (fun hn_=>(Kd.fresh' (Kd.N_lt (nN Zh.out)) k_ hn_)),Or.elim hk_ (fun hs_=>Or.elim hs_ (fun hs_=>hs_.2) (fun hs_=>hs_.1.2.2.1)) (fun hn_=>(Kd.fresh' (Kd.N_lt (nN Zd.out)) k_ hn_)),Or.elim hk_ (fun hs_=>Or.elim hs_ (fun hs_=>hs_.1.2.2.1) (fun hs_=>hs_.2)) (fun hn_=>(Kd.fresh' (Kd.N_lt (nN Zf.out)) k_ hn_)),Or.elim hk_ (fun hs_=>Or.elim hs_ (fun hs_=>hs_.1.2.2.2) (fun hs_=>hs_.1.2.2.2)) (fun hn_=>(Kd.freshB (nB Za.out) k_ hn_))⟩)) (below_size bB))
         replace Zh:=aQ (Kd.N_elder' (nN Zh.out) (Kd.N_base ho0) hb)
         replace Zd:=aQ (Kd.N_elder' (nN Zd.out) (Kd.N_base ho0) hb)
         replace Zf:=aQ (Kd.N_elder' (nN Zf.out) (Kd.N_base ho0) hb)
         replace Za:=aQ (blk_below (nB Za.out) hb)
         replace Zw:=aQ (Kd.C_below (nC Zw.out) hb)
         replace ZJ:=aQ (Kd.C_below (nC ZJ.out) hb)
         replace ZK:=aQ (Kd.C_below (nC ZK.out) hb)
         replace Wa:=aQ (Kd.C_below (nC Wa.out) hb)
         replace We:=aQ (Kd.C_below (nC We.out) hb)
         replace HB:=aQ (below_step bB hb)
         (try clear hb)
         (try clear ho0)
         obtain ⟨Yw,Yx,UM⟩:=Kd.N_slice Wi.out
         (first | subst UM | (injection UM with f1_ f2_ f3_;have f4_:=f1_.symm;have f5_:=f3_.symm;clear f1_ f2_ f3_;subst f4_;subst f5_))
         refine hK.out _ _ ⟨(blk_cell Za.out 0).trans rfl,(blk_cell Za.out 1).trans rfl,(blk_cell Za.out 2).trans rfl,HS3_,HS4_,HS5_,HS6_,HS7_,HS8_,HS9_,HS10_⟩ (fun hHeld=>?_)
         clear hK K
         refine nrm (N:=some 147) ?_
         refine pur (i:=14) (N:=some 148) (bn 18 32767) ?_
         refine last_ (i:=15) (N:=some 149) (bn 18 65535) rfl rfl (one_of HT_.out (by kernel_rfl)) (by decide) (fun K hK=>?_)
         refine value_ (w1:=?_) (v:=?_) (by rfl) rfl ?_ ?_
         rotate_left 2
         ·go_simp
          constructor
          ·rfl
          ·rfl
         refine hK.out _ _ ?_
         clear hK K
         refine nrm (N:=some 149) ?_
         refine last_ (i:=16) (N:=some 150) (bn 18 131071) rfl rfl (one_of HT_.out (by kernel_rfl)) (by decide) (fun K hK=>?_)
         refine Kd.N_append_step k44 (w0:=w) w.heap.size (by rfl) (.tmp 134) (.tmp 149) 35 44 (.agg #[(.int .i64 0),(.int .i64 0),(.int .i64 0),(.slice none 0 0)]) 48 rfl Try.underlying35 info44 rfl (by decide) (by omega) u3 x3_4 (⟨0,(⟨t497,t498,t499⟩:S29)⟩:S44) [.int .i64 0,.int .i64 t497,.int .i64 t498,.slice Yw t499.length Yx] (fun k_=>(P0_2_ k_ ∨ w.heap.size ≤ k_)∧some k_ ≠ (.slice (some Ze) t463.length Zj:Value).ownBlock∧some k_ ≠ (.slice (some Zi) t467.length Zr:Value).ownBlock∧k_ ≠ Zb) (fun k_=>((fun k_=>(P0_2_ k_ ∨ w.heap.size ≤ k_)∧some k_ ≠ (.slice (some Ze) t463.length Zj:Value).ownBlock∧some k_ ≠ (.slice (some Zi) t467.length Zr:Value).ownBlock∧k_ ≠ Zb)) k_∧some k_ ≠ (u3:Value).ownBlock) rfl rfl ?aP (fun _ hk=>hk) ?aF ?aO ?aB ?aS ?aL ?_
         (case aP=>exact (k44_mkF _ _ (⟨0,(⟨t497,t498,t499⟩:S29)⟩:S44) (Kd.N_reads' (Kd.N_mono (ok':=(fun k_=>((fun k_=>(P0_2_ k_ ∨ w.heap.size ≤ k_)∧some k_ ≠ (.slice (some Ze) t463.length Zj:Value).ownBlock∧some k_ ≠ (.slice (some Zi) t467.length Zr:Value).ownBlock∧k_ ≠ Zb)) k_∧some k_ ≠ (u3:Value).ownBlock)) (Wi.out) (fun k_ hk=>⟨⟨hk.1,⟨hk.2.2.1,⟨hk.2.2.2.1,hk.2.2.2.2⟩⟩⟩,hk.2.1⟩))).2.1 (Kd.N_F (Kd.N_mono (ok':=(fun k_=>((fun k_=>(P0_2_ k_ ∨ w.heap.size ≤ k_)∧some k_ ≠ (.slice (some Ze) t463.length Zj:Value).ownBlock∧some k_ ≠ (.slice (some Zi) t467.length Zr:Value).ownBlock∧k_ ≠ Zb)) k_∧some k_ ≠ (u3:Value).ownBlock)) (Wi.out) (fun k_ hk=>⟨⟨hk.1,⟨hk.2.2.1,⟨hk.2.2.2.1,hk.2.2.2.2⟩⟩⟩,hk.2.1⟩)))))
         (case aB=>exact bB)
         (case aF=>exact (fun k_ hk=>⟨(.inr (Nat.le_trans (below_size bB) hk)),Kd.fresh' (Kd.N_lt (nN Zd.out)) k_ hk,Kd.fresh' (Kd.N_lt (nN Zf.out)) k_ hk,Kd.freshB (nB Za.out) k_ hk⟩))
         (case aO=>exact (nN (Kd.N_mono Zh.out (fun _ hk=>⟨hk.1.1,⟨hk.1.2.1,⟨hk.1.2.2.1,hk.1.2.2.2⟩⟩⟩))))
         (case aS=>exact (below_size bB))
         (case aL=>have:=LMc66.out;omega)
         intro v503 w71 ho hb hg hat
         rw [← Te.out] at ho
         have n0_:=aQ (Kd.N_afterv (ok:=(fun k_=>(P0_2_ k_ ∨ w.heap.size ≤ k_)∧some k_ ≠ (.slice (some Zi) t467.length Zr:Value).ownBlock∧some k_ ≠ (.slice Yw t499.length Yx:Value).ownBlock∧k_ ≠ Zb)) (nN (Kd.N_mono Zd.out (fun _ hk=>⟨⟨hk.1.1,⟨hk.1.2.2.1,⟨hk.2,hk.1.2.2.2⟩⟩⟩,hk.1.2.1⟩))) hg hat)
         have n1_:=aQ (Kd.N_afterv (ok:=(fun k_=>(P0_2_ k_ ∨ w.heap.size ≤ k_)∧some k_ ≠ (.slice (some Ze) t463.length Zj:Value).ownBlock∧some k_ ≠ (.slice Yw t499.length Yx:Value).ownBlock∧k_ ≠ Zb)) (nN (Kd.N_mono Zf.out (fun _ hk=>⟨⟨hk.1.1,⟨hk.1.2.2.1,⟨hk.2,hk.1.2.2.2⟩⟩⟩,hk.1.2.1⟩))) hg hat)
         have n2_:=aQ (Kd.V_afterv (ok:=(fun k_=>(P0_2_ k_ ∨ w.heap.size ≤ k_)∧some k_ ≠ (.slice (some Ze) t463.length Zj:Value).ownBlock∧some k_ ≠ (.slice (some Zi) t467.length Zr:Value).ownBlock∧some k_ ≠ (.slice Yw t499.length Yx:Value).ownBlock∧k_ ≠ Zb)) (nV (Kd.V_mono Zc.out (fun _ hk=>⟨⟨hk.1.1,⟨hk.1.2.2.1,⟨hk.1.2.2.2.1,⟨hk.2,hk.1.2.2.2.2⟩⟩⟩⟩,hk.1.2.1⟩))) hg hat)
         have n3_:=aQ (blk_grown (nB Za.out) hg (Kd.N_ne Zh.out Za.out (by decide)))
         have n4_:=aQ (Kd.V_afterv (ok:=(fun k_=>(P0_2_ k_ ∨ w.heap.size ≤ k_)∧some k_ ≠ (.slice (some Ze) t463.length Zj:Value).ownBlock∧some k_ ≠ (.slice (some Zi) t467.length Zr:Value).ownBlock∧some k_ ≠ (.slice Yw t499.length Yx:Value).ownBlock∧k_ ≠ Zb)) (nV (Kd.V_mono Zq.out (fun _ hk=>⟨⟨hk.1.1.1,⟨hk.1.2,⟨hk.1.1.2.2.1,⟨hk.2,hk.1.1.2.2.2⟩⟩⟩⟩,hk.1.1.2.1⟩))) hg hat)
         have n5_:=aQ (Kd.V_afterv (ok:=(fun k_=>(P0_2_ k_ ∨ w.heap.size ≤ k_)∧some k_ ≠ (.slice (some Ze) t463.length Zj:Value).ownBlock∧some k_ ≠ (.slice (some Zi) t467.length Zr:Value).ownBlock∧some k_ ≠ (.slice Yw t499.length Yx:Value).ownBlock∧k_ ≠ Zb)) (nV (Kd.V_mono Zu.out (fun _ hk=>⟨⟨hk.1.1.1,⟨hk.1.2,⟨hk.1.1.2.2.1,⟨hk.2,hk.1.1.2.2.2⟩⟩⟩⟩,hk.1.1.2.1⟩))) hg hat)
         have n6_:=aQ (Kd.V_afterv (ok:=(fun k_=>(P0_2_ k_ ∨ w.heap.size ≤ k_)∧some k_ ≠ (.slice (some Ze) t463.length Zj:Value).ownBlock∧some k_ ≠ (.slice (some Zi) t467.length Zr:Value).ownBlock∧some k_ ≠ (.slice Yw t499.length Yx:Value).ownBlock∧k_ ≠ Zb)) (nV (Kd.V_mono Zv.out (fun _ hk=>⟨⟨hk.1.1.1,⟨hk.1.1.2.2.1,⟨hk.1.2,⟨hk.2,hk.1.1.2.2.2⟩⟩⟩⟩,hk.1.1.2.1⟩))) hg hat)
         have n7_:=aQ (Kd.V_afterv (ok:=(fun k_=>(P0_2_ k_ ∨ w.heap.size ≤ k_)∧some k_ ≠ (.slice (some Ze) t463.length Zj:Value).ownBlock∧some k_ ≠ (.slice (some Zi) t467.length Zr:Value).ownBlock∧some k_ ≠ (.slice Yw t499.length Yx:Value).ownBlock∧k_ ≠ Zb)) (nV (Kd.V_mono ZU.out (fun _ hk=>⟨⟨hk.1.1.1,⟨hk.1.2,⟨hk.1.1.2.2.1,⟨hk.2,hk.1.1.2.2.2⟩⟩⟩⟩,hk.1.1.2.1⟩))) hg hat)
         have n8_:=aQ (Kd.V_afterv (ok:=(fun k_=>(P0_2_ k_ ∨ w.heap.size ≤ k_)∧some k_ ≠ (.slice (some Ze) t463.length Zj:Value).ownBlock∧some k_ ≠ (.slice (some Zi) t467.length Zr:Value).ownBlock∧some k_ ≠ (.slice Yw t499.length Yx:Value).ownBlock∧k_ ≠ Zb)) (nV (Kd.V_mono ZV.out (fun _ hk=>⟨⟨hk.1.1.1,⟨hk.1.1.2.2.1,⟨hk.1.2,⟨hk.2,hk.1.1.2.2.2⟩⟩⟩⟩,hk.1.1.2.1⟩))) hg hat)
         have n9_:=aQ (hb)
         have n10_:=aQ (ho)
         clear Zd Zf Zc Za Zq Zu Zv ZU ZV HB Zh Wi
         have Zd:=n0_
         have Zf:=n1_
         have Zc:=n2_
         have Za:=n3_
         have Zq:=n4_
         have Zu:=n5_
         have Zv:=n6_
         have ZU:=n7_
         have ZV:=n8_
         have HB:=n9_
         have Th:=n10_
         clear n0_ n1_ n2_ n3_ n4_ n5_ n6_ n7_ n8_ n9_ n10_
         clear ho hb hg hat
         refine hK.out _ _ ?_
         clear hK K
         refine nrm (N:=some 150) ?_
         refine pur (i:=17) (N:=some 3) (bn 18 262143) ?_
         refine done_ (done_of HT_.out (by kernel_rfl)) ?_
         try go_wp2
         go_roundg k4
         case measure=>have:=HK1.out;have:=HK2.out;have:=HK3.out;have:=HK4.out;omega
         case rel=>exact ⟨(y502),(wrap64 (x9_4 + 1)),rfl,H',⟨by have:=HK1.out;have:=HK2.out;have:=HK3.out;have:=HK4.out;omega⟩,⟨nN Th.out⟩,⟨nN (Kd.N_mono Zd.out (fun _ hk=>⟨hk.1.1,⟨hk.2,⟨hk.1.2.1,hk.1.2.2.2⟩⟩⟩))⟩,⟨nN (Kd.N_mono Zf.out (fun _ hk=>⟨hk.1.1,⟨hk.2,⟨hk.1.2.1,hk.1.2.2.2⟩⟩⟩))⟩,⟨nV (Kd.V_mono Zc.out (fun _ hk=>⟨hk.1.1,⟨hk.2,⟨hk.1.2.1,⟨hk.1.2.2.1,hk.1.2.2.2.2⟩⟩⟩⟩))⟩,⟨nB Za.out⟩,⟨bB⟩⟩
mutual
def spec_l17Meet.l0:Nat → List (S44) → List (S44) → Int → Option (Bool)
 | 0,_,_,_=>none
 | k + 1,x5,x6,x7=>if x7 < (x5.length:Int) then (spec_l17Meet.l1 k x5 x6 x7 0) else (some false)
def spec_l17Meet.l1:Nat → List (S44) → List (S44) → Int → Int → Option (Bool)
 | 0,_,_,_,_=>none
 | k + 1,x5,x6,x7,x8=>if x8 < (x6.length:Int) then (if 0 ≤ x7 then (if x7 < (x5.length:Int) then (if ((rd_T44 x5 x7).f0) = 0 then (spec_l17Meet.l1 k x5 x6 x7 (wrap64 (x8 + 1))) else (if 0 ≤ x8 then (if ((rd_T44 x5 x7).f0) = (wrap64 (-((rd_T44 x6 x8).f0))) then (some true) else (spec_l17Meet.l1 k x5 x6 x7 (wrap64 (x8 + 1)))) else (none))) else (none)) else (none)) else (spec_l17Meet.l0 k x5 x6 (wrap64 (x7 + 1)))
end
def spec_l17Meet.f (k:Nat) (a0_0:Int) (a0_1:Int) (l0_2:List (S29)) (a1_0:Int) (a1_1:Int) (l1_2:List (S29)):Option (Bool):=(spec_l17Steps.f k a0_0 a0_1 l0_2).bind fun t510=>((spec_l17Steps.f k a1_0 a1_1 l1_2).bind fun t513=>(spec_l17Meet.l0 k t510 t513 0))
theorem spec_l17Meet.mono_l:∀ k,(∀ y0 y1 y2,LeO (spec_l17Meet.l0 k y0 y1 y2) (spec_l17Meet.l0 (k + 1) y0 y1 y2))∧(∀ y0 y1 y2 y3,LeO (spec_l17Meet.l1 k y0 y1 y2 y3) (spec_l17Meet.l1 (k + 1) y0 y1 y2 y3))
 | 0=>⟨fun _ _ _ r h=>by simp [spec_l17Meet.l0] at h,fun _ _ _ _ r h=>by simp [spec_l17Meet.l1] at h⟩
 | k + 1=>by
  obtain ⟨ih0,ih1⟩:=spec_l17Meet.mono_l k
  refine ⟨?_,?_⟩
  ·intro y0 y1 y2
   unfold spec_l17Meet.l0
   repeat' first
   | (with_reducible exact ih0 _ _ _)
   | (with_reducible exact ih1 _ _ _ _)
   | (with_reducible exact spec_l17Steps.mono _ _ _ _)
   | (with_reducible exact LeO.refl _)
   | (with_reducible exact LeO.none _)
   | (with_reducible refine LeO.ite ?_ ?_)
   | (with_reducible refine LeO.bind ?_ (fun _=>?_))
   | exact ih0 _ _ _
   | exact ih1 _ _ _ _
   | exact spec_l17Steps.mono _ _ _ _
   | exact LeO.none _
   | refine LeO.ite ?_ ?_
   | refine LeO.bind ?_ (fun _=>?_)
  ·intro y0 y1 y2 y3
   unfold spec_l17Meet.l1
   repeat' first
   | (with_reducible exact ih0 _ _ _)
   | (with_reducible exact ih1 _ _ _ _)
   | (with_reducible exact spec_l17Steps.mono _ _ _ _)
   | (with_reducible exact LeO.refl _)
   | (with_reducible exact LeO.none _)
   | (with_reducible refine LeO.ite ?_ ?_)
   | (with_reducible refine LeO.bind ?_ (fun _=>?_))
   | exact ih0 _ _ _
   | exact ih1 _ _ _ _
   | exact spec_l17Steps.mono _ _ _ _
   | exact LeO.none _
   | refine LeO.ite ?_ ?_
   | refine LeO.bind ?_ (fun _=>?_)
theorem spec_l17Meet.mono:∀ a0 a1 a2 a3 a4 a5 k,LeO (spec_l17Meet.f k a0 a1 a2 a3 a4 a5) (spec_l17Meet.f (k + 1) a0 a1 a2 a3 a4 a5):=by
 intro a0 a1 a2 a3 a4 a5 k
 obtain ⟨ih0,ih1⟩:=spec_l17Meet.mono_l k
 unfold spec_l17Meet.f
 repeat' first
   | (with_reducible exact ih0 _ _ _)
   | (with_reducible exact ih1 _ _ _ _)
   | (with_reducible exact spec_l17Steps.mono _ _ _ _)
   | (with_reducible exact LeO.refl _)
   | (with_reducible exact LeO.none _)
   | (with_reducible refine LeO.ite ?_ ?_)
   | (with_reducible refine LeO.bind ?_ (fun _=>?_))
   | exact ih0 _ _ _
   | exact ih1 _ _ _ _
   | exact spec_l17Steps.mono _ _ _ _
   | exact LeO.none _
   | refine LeO.ite ?_ ?_
   | refine LeO.bind ?_ (fun _=>?_)
set_option maxHeartbeats 8000000 in
set_option maxRecDepth 100000 in
theorem spec_l17Meet.calls (k:Nat) (a0_0:Int) (a0_1:Int) (A0_2:Option Addr) (c0_2:Nat) (l0_2:List (S29)) (a1_0:Int) (a1_1:Int) (A1_2:Option Addr) (c1_2:Nat) (l1_2:List (S29)) (r:Bool) (w:World) (hr0_2:Kd.C k29 w A0_2 l0_2.length l0_2) (hc0_2:l0_2.length ≤ c0_2) (hr1_2:Kd.C k29 w A1_2 l1_2.length l1_2) (hc1_2:l1_2.length ≤ c1_2) (h:spec_l17Meet.f k a0_0 a0_1 l0_2 a1_0 a1_1 l1_2 = some r) :
  Calls Try.prog 65 #[.agg #[.int .i64 a0_0,.int .i64 a0_1,.slice A0_2 l0_2.length c0_2],.agg #[.int .i64 a1_0,.int .i64 a1_1,.slice A1_2 l1_2.length c1_2]] w fun e w'=>e = .returned (.bool r)∧Below w.heap.size w w':=by
 have hu29:=Try.underlying29
 have Yi:=aQ hr0_2
 have Yj:=aQ hc0_2
 clear hr0_2 hc0_2
 have Yk:=aQ hr1_2
 have Yl:=aQ hc1_2
 clear hr1_2 hc1_2
 have HB:=aQ (Below.refl w.heap.size w)
 have H:=h
 clear h
 obtain ⟨t510,A3,H⟩:=bQ H
 (try dsimp only at H)
 obtain ⟨t513,A4,H⟩:=bQ H
 replace H:(spec_l17Meet.l0 k t510 t513 0) = some r:=H
 have H':=aQ H
 clear H
 go_enter Try.func65,Try.ntmps65
 go_wp2_with (first | ((with_reducible refine gate_dst (N:=2) rfl ?_);refine box1 (N:=2) (cs:=#[.int .i64 a0_0,.int .i64 a0_1,.slice A0_2 l0_2.length c0_2]) (t:=29) ?_;intro Zc hg w5 hbox hb;have Za:=aQ (hbox);have Zp:=aQ (gB:w.heap.size ≤ Zc);have Yo:=Zp;replace HB:=aQ (below_step bB hb);clear hb hbox hg) | ((with_reducible refine gate_dst (N:=3) rfl ?_);refine box1 (N:=3) (cs:=#[.int .i64 a1_0,.int .i64 a1_1,.slice A1_2 l1_2.length c1_2]) (t:=29) ?_;intro Zd hg w6 hbox hb;have Zb:=aQ (hbox);have Zq:=aQ (gB:w.heap.size ≤ Zd);have Yp:=Zq;replace HB:=aQ (below_step bB hb);have Zi:=aQ ((by rw [hg];exact Nat.ne_of_lt (blk_lt (nB Za.out)):Zc ≠ Zd));have Zx:=aQ Zi.out.symm;replace Za:=aQ (blk_below (nB Za.out) hb);clear hb hbox hg;have YH:=Zi.out;have YI:=Zx.out;obtain ⟨ZQ,ZR,ZS,ZT,ZU,ZV⟩:=cz3 Za.out) | (go_at_call 51;(with_reducible refine (spec_l17Steps.calls k a0_0 a0_1 (fun k_=>k_ < w.heap.size) _ _ l0_2 t510 _ ?Zr A3.out).mono ?_);(case Zr=>exact Kd.V_mk Yj.out (Kd.F_below (Kd.C_F k29_heap Yi.out) bB));rintro e w9 ⟨v511,rfl,ho0,hb⟩;have Zj:=aQ (Kd.N_lower (Kd.N_mono (ok':=fun k_=>k_ ≠ Zc∧k_ ≠ Zd) ho0 (fun k_ hk_=>⟨Or.elim hk_ (fun hs_=>fun e_=>Nat.not_le.2 hs_ (by rw [e_];exact Zp.out)) (fun hn_=>(Kd.freshB (nB Za.out) k_ hn_)),Or.elim hk_ (fun hs_=>fun e_=>Nat.not_le.2 hs_ (by rw [e_];exact Zq.out)) (fun hn_=>(Kd.freshB (nB Zb.out) k_ hn_))⟩)) (below_size bB));replace Za:=aQ (blk_below (nB Za.out) hb);replace Zb:=aQ (blk_below (nB Zb.out) hb);replace HB:=aQ (below_step bB hb);(try clear hb);(try clear ho0);obtain ⟨ZI,ZJ,ZK,ZL,ZM,ZN⟩:=cz3 Zb.out) | (go_at_call 51;(with_reducible refine (spec_l17Steps.calls k a1_0 a1_1 (fun k_=>k_ < w.heap.size) _ _ l1_2 t513 _ ?Zr A4.out).mono ?_);(case Zr=>exact Kd.V_mk Yl.out (Kd.F_below (Kd.C_F k29_heap Yk.out) bB));rintro e w11 ⟨v514,rfl,ho0,hb⟩;have Ym:=aQ (Kd.N_lower (Kd.N_mono (ok':=fun k_=>some k_ ≠ (v511:Value).ownBlock∧k_ ≠ Zc∧k_ ≠ Zd) ho0 (fun k_ hk_=>⟨Or.elim hk_ (fun hs_=>fun e_=>Nat.not_le.2 hs_ (Kd.N_base Zj.out k_ e_.symm)) (fun hn_=>(Kd.fresh' (Kd.N_lt (nN Zj.out)) k_ hn_)),Or.elim hk_ (fun hs_=>fun e_=>Nat.not_le.2 hs_ (by rw [e_];exact Zp.out)) (fun hn_=>(Kd.freshB (nB Za.out) k_ hn_)),Or.elim hk_ (fun hs_=>fun e_=>Nat.not_le.2 hs_ (by rw [e_];exact Zq.out)) (fun hn_=>(Kd.freshB (nB Zb.out) k_ hn_))⟩)) (below_size bB));replace Zj:=aQ (Kd.N_elder' (nN Zj.out) (Kd.N_base ho0) hb);replace Za:=aQ (blk_below (nB Za.out) hb);replace Zb:=aQ (blk_below (nB Zb.out) hb);replace HB:=aQ (below_step bB hb);(try clear hb);(try clear ho0)))
 repeat (go_quiet (first | ((with_reducible refine gate_dst (N:=2) rfl ?_);refine box1 (N:=2) (cs:=#[.int .i64 a0_0,.int .i64 a0_1,.slice A0_2 l0_2.length c0_2]) (t:=29) ?_;intro Zc hg w5 hbox hb;have Za:=aQ (hbox);have Zp:=aQ (gB:w.heap.size ≤ Zc);have Yo:=Zp;replace HB:=aQ (below_step bB hb);clear hb hbox hg) | ((with_reducible refine gate_dst (N:=3) rfl ?_);refine box1 (N:=3) (cs:=#[.int .i64 a1_0,.int .i64 a1_1,.slice A1_2 l1_2.length c1_2]) (t:=29) ?_;intro Zd hg w6 hbox hb;have Zb:=aQ (hbox);have Zq:=aQ (gB:w.heap.size ≤ Zd);have Yp:=Zq;replace HB:=aQ (below_step bB hb);have Zi:=aQ ((by rw [hg];exact Nat.ne_of_lt (blk_lt (nB Za.out)):Zc ≠ Zd));have Zx:=aQ Zi.out.symm;replace Za:=aQ (blk_below (nB Za.out) hb);clear hb hbox hg;have YH:=Zi.out;have YI:=Zx.out;obtain ⟨ZQ,ZR,ZS,ZT,ZU,ZV⟩:=cz3 Za.out) | (go_at_call 51;(with_reducible refine (spec_l17Steps.calls k a0_0 a0_1 (fun k_=>k_ < w.heap.size) _ _ l0_2 t510 _ ?Zr A3.out).mono ?_);(case Zr=>exact Kd.V_mk Yj.out (Kd.F_below (Kd.C_F k29_heap Yi.out) bB));rintro e w9 ⟨v511,rfl,ho0,hb⟩;have Zj:=aQ (Kd.N_lower (Kd.N_mono (ok':=fun k_=>k_ ≠ Zc∧k_ ≠ Zd) ho0 (fun k_ hk_=>⟨Or.elim hk_ (fun hs_=>fun e_=>Nat.not_le.2 hs_ (by rw [e_];exact Zp.out)) (fun hn_=>(Kd.freshB (nB Za.out) k_ hn_)),Or.elim hk_ (fun hs_=>fun e_=>Nat.not_le.2 hs_ (by rw [e_];exact Zq.out)) (fun hn_=>(Kd.freshB (nB Zb.out) k_ hn_))⟩)) (below_size bB));replace Za:=aQ (blk_below (nB Za.out) hb);replace Zb:=aQ (blk_below (nB Zb.out) hb);replace HB:=aQ (below_step bB hb);(try clear hb);(try clear hb2);(try clear hk);(try clear hi);(try clear ho0);obtain ⟨ZI,ZJ,ZK,ZL,ZM,ZN⟩:=cz3 Zb.out) | (go_at_call 51;(with_reducible refine (spec_l17Steps.calls k a1_0 a1_1 (fun k_=>k_ < w.heap.size) _ _ l1_2 t513 _ ?Zr A4.out).mono ?_);(case Zr=>exact Kd.V_mk Yl.out (Kd.F_below (Kd.C_F k29_heap Yk.out) bB));rintro e w11 ⟨v514,rfl,ho0,hb⟩;have Ym:=aQ (Kd.N_lower (Kd.N_mono (ok':=fun k_=>some k_ ≠ (v511:Value).ownBlock∧k_ ≠ Zc∧k_ ≠ Zd) ho0 (fun k_ hk_=>⟨Or.elim hk_ (fun hs_=>fun e_=>Nat.not_le.2 hs_ (Kd.N_base Zj.out k_ e_.symm)) (fun hn_=>(Kd.fresh' (Kd.N_lt (nN Zj.out)) k_ hn_)),Or.elim hk_ (fun hs_=>fun e_=>Nat.not_le.2 hs_ (by rw [e_];exact Zp.out)) (fun hn_=>(Kd.freshB (nB Za.out) k_ hn_)),Or.elim hk_ (fun hs_=>fun e_=>Nat.not_le.2 hs_ (by rw [e_];exact Zq.out)) (fun hn_=>(Kd.freshB (nB Zb.out) k_ hn_))⟩)) (below_size bB));replace Zj:=aQ (Kd.N_elder' (nN Zj.out) (Kd.N_base ho0) hb);replace Za:=aQ (blk_below (nB Za.out) hb);replace Zb:=aQ (blk_below (nB Zb.out) hb);replace HB:=aQ (below_step bB hb);(try clear hb);(try clear hb2);(try clear hk);(try clear hi);(try clear ho0)));try go_wp2_with (first | ((with_reducible refine gate_dst (N:=2) rfl ?_);refine box1 (N:=2) (cs:=#[.int .i64 a0_0,.int .i64 a0_1,.slice A0_2 l0_2.length c0_2]) (t:=29) ?_;intro Zc hg w5 hbox hb;have Za:=aQ (hbox);have Zp:=aQ (gB:w.heap.size ≤ Zc);have Yo:=Zp;replace HB:=aQ (below_step bB hb);clear hb hbox hg) | ((with_reducible refine gate_dst (N:=3) rfl ?_);refine box1 (N:=3) (cs:=#[.int .i64 a1_0,.int .i64 a1_1,.slice A1_2 l1_2.length c1_2]) (t:=29) ?_;intro Zd hg w6 hbox hb;have Zb:=aQ (hbox);have Zq:=aQ (gB:w.heap.size ≤ Zd);have Yp:=Zq;replace HB:=aQ (below_step bB hb);have Zi:=aQ ((by rw [hg];exact Nat.ne_of_lt (blk_lt (nB Za.out)):Zc ≠ Zd));have Zx:=aQ Zi.out.symm;replace Za:=aQ (blk_below (nB Za.out) hb);clear hb hbox hg;have YH:=Zi.out;have YI:=Zx.out;obtain ⟨ZQ,ZR,ZS,ZT,ZU,ZV⟩:=cz3 Za.out) | (go_at_call 51;(with_reducible refine (spec_l17Steps.calls k a0_0 a0_1 (fun k_=>k_ < w.heap.size) _ _ l0_2 t510 _ ?Zr A3.out).mono ?_);(case Zr=>exact Kd.V_mk Yj.out (Kd.F_below (Kd.C_F k29_heap Yi.out) bB));rintro e w9 ⟨v511,rfl,ho0,hb⟩;have Zj:=aQ (Kd.N_lower (Kd.N_mono (ok':=fun k_=>k_ ≠ Zc∧k_ ≠ Zd) ho0 (fun k_ hk_=>⟨Or.elim hk_ (fun hs_=>fun e_=>Nat.not_le.2 hs_ (by rw [e_];exact Zp.out)) (fun hn_=>(Kd.freshB (nB Za.out) k_ hn_)),Or.elim hk_ (fun hs_=>fun e_=>Nat.not_le.2 hs_ (by rw [e_];exact Zq.out)) (fun hn_=>(Kd.freshB (nB Zb.out) k_ hn_))⟩)) (below_size bB));replace Za:=aQ (blk_below (nB Za.out) hb);replace Zb:=aQ (blk_below (nB Zb.out) hb);replace HB:=aQ (below_step bB hb);(try clear hb);(try clear hb2);(try clear hk);(try clear hi);(try clear ho0);obtain ⟨ZI,ZJ,ZK,ZL,ZM,ZN⟩:=cz3 Zb.out) | (go_at_call 51;(with_reducible refine (spec_l17Steps.calls k a1_0 a1_1 (fun k_=>k_ < w.heap.size) _ _ l1_2 t513 _ ?Zr A4.out).mono ?_);(case Zr=>exact Kd.V_mk Yl.out (Kd.F_below (Kd.C_F k29_heap Yk.out) bB));rintro e w11 ⟨v514,rfl,ho0,hb⟩;have Ym:=aQ (Kd.N_lower (Kd.N_mono (ok':=fun k_=>some k_ ≠ (v511:Value).ownBlock∧k_ ≠ Zc∧k_ ≠ Zd) ho0 (fun k_ hk_=>⟨Or.elim hk_ (fun hs_=>fun e_=>Nat.not_le.2 hs_ (Kd.N_base Zj.out k_ e_.symm)) (fun hn_=>(Kd.fresh' (Kd.N_lt (nN Zj.out)) k_ hn_)),Or.elim hk_ (fun hs_=>fun e_=>Nat.not_le.2 hs_ (by rw [e_];exact Zp.out)) (fun hn_=>(Kd.freshB (nB Za.out) k_ hn_)),Or.elim hk_ (fun hs_=>fun e_=>Nat.not_le.2 hs_ (by rw [e_];exact Zq.out)) (fun hn_=>(Kd.freshB (nB Zb.out) k_ hn_))⟩)) (below_size bB));replace Zj:=aQ (Kd.N_elder' (nN Zj.out) (Kd.N_base ho0) hb);replace Za:=aQ (blk_below (nB Za.out) hb);replace Zb:=aQ (blk_below (nB Zb.out) hb);replace HB:=aQ (below_step bB hb);(try clear hb);(try clear hb2);(try clear hk);(try clear hi);(try clear ho0))))
 go_loopg [7] k (fun kq v7 w'=>∃ (x7_1:Int),v7 = .int .i64 x7_1∧Aside0 (spec_l17Meet.l0 kq t510 t513 x7_1 = some r)∧Aside0 (kq ≤ k)∧Aside0 (Kd.N k44 44 w' w.heap.size (fun k_=>some k_ ≠ (v514:Value).ownBlock∧k_ ≠ Zc∧k_ ≠ Zd) v511 t510)∧Aside0 (Kd.N k44 44 w' w.heap.size (fun k_=>some k_ ≠ (v511:Value).ownBlock∧k_ ≠ Zc∧k_ ≠ Zd) v514 t513)∧Aside0 (w'.heap[Zc]? = some (.cells #[.int .i64 a0_0,.int .i64 a0_1,(.slice A0_2 l0_2.length c0_2)] 29 (0,0)))∧Aside0 (w'.heap[Zd]? = some (.cells #[.int .i64 a1_0,.int .i64 a1_1,(.slice A1_2 l1_2.length c1_2)] 29 (0,0)))∧Aside0 (Below w.heap.size w w'))
 case atStart=>exact ⟨(0),rfl,H',⟨Nat.le_refl _⟩,⟨nN (Kd.N_mono Zj.out (fun _ hk=>⟨hk.2,⟨hk.1.1,hk.1.2⟩⟩))⟩,⟨nN Ym.out⟩,⟨nB Za.out⟩,⟨nB Zb.out⟩,⟨bB⟩⟩
 case round =>
  clear H'
  try clear ZI
  try clear ZJ
  try clear ZK
  try clear ZQ
  try clear ZR
  try clear ZS
  try clear ZL
  try clear ZM
  try clear ZN
  try clear ZT
  try clear ZU
  try clear ZV
  repeat (first | clear Zf | clear Zk | clear Za | clear Zb | clear HB)
  obtain ⟨x7_1,rfl,HA,HK1,Zf,Zk,Za,Zb,HB⟩:=hrel
  cases gk with
  | zero=>exact absurd HA.out (by simp [spec_l17Meet.l0])
  | succ k1 =>
   have H:=HA.out
   clear HA
   simp only [spec_l17Meet.l0] at H
   by_cases c12:x7_1 < (t510.length:Int);rotate_left
   ·rw [if_neg c12] at H
    have c12b0:decide (x7_1 < (t510.length:Int)) = false:=decide_eq_false c12
    clear c12
    obtain rfl:=Option.some.inj H
    obtain ⟨YU,YV,YO⟩:=Kd.N_slice Zf.out
    subst YO
    go_wp2
    repeat (go_quiet (fail);try go_wp2)
    go_ret
    exact ⟨rfl,bB⟩
   rw [if_pos c12] at H
   have c12b0:decide (x7_1 < (t510.length:Int)) = true:=decide_eq_true c12
   clear c12
   have H':=aQ H
   clear H
   obtain ⟨YJ,YK,YP⟩:=Kd.N_slice Zf.out
   subst YP
   go_wp2
   repeat (go_quiet (fail);try go_wp2)
   go_loopg [8] k1 (fun kq v8 w'=>∃ (x8_2:Int),v8 = .int .i64 x8_2∧Aside0 (spec_l17Meet.l1 kq t510 t513 x7_1 x8_2 = some r)∧Aside0 (kq ≤ k1)∧Aside0 (Kd.N k44 44 w' w.heap.size (fun k_=>some k_ ≠ (v514:Value).ownBlock∧k_ ≠ Zc∧k_ ≠ Zd) (.slice YJ t510.length YK) t510)∧Aside0 (Kd.N k44 44 w' w.heap.size (fun k_=>some k_ ≠ ((.slice YJ t510.length YK):Value).ownBlock∧k_ ≠ Zc∧k_ ≠ Zd) v514 t513)∧Aside0 (w'.heap[Zc]? = some (.cells #[.int .i64 a0_0,.int .i64 a0_1,(.slice A0_2 l0_2.length c0_2)] 29 (0,0)))∧Aside0 (w'.heap[Zd]? = some (.cells #[.int .i64 a1_0,.int .i64 a1_1,(.slice A1_2 l1_2.length c1_2)] 29 (0,0)))∧Aside0 (Below w.heap.size w w'))
   case atStart=>exact ⟨(0),rfl,H',⟨Nat.le_refl _⟩,⟨nN Zf.out⟩,⟨nN Zk.out⟩,⟨nB Za.out⟩,⟨nB Zb.out⟩,⟨bB⟩⟩
   case round =>
    clear H'
    try clear c12b0
    repeat (first | clear Zf | clear Zk | clear Za | clear Zb | clear HB)
    obtain ⟨x8_2,rfl,HA,HK2,Zf,Zk,Za,Zb,HB⟩:=hrel
    cases gk with
    | zero=>exact absurd HA.out (by simp [spec_l17Meet.l1])
    | succ k2 =>
     have H:=HA.out
     clear HA
     simp only [spec_l17Meet.l1] at H
     by_cases c14:x8_2 < (t513.length:Int);rotate_left
     ·rw [if_neg c14] at H
      have c14b0:decide (x8_2 < (t513.length:Int)) = false:=decide_eq_false c14
      clear c14
      have H':=aQ H
      clear H
      obtain ⟨YW,YX,YQ⟩:=Kd.N_slice Zk.out
      subst YQ
      go_wp2
      repeat (go_quiet (fail);try go_wp2)
      go_roundg k2
      case measure=>have:=HK1.out;have:=HK2.out;omega
      case rel=>exact ⟨(wrap64 (x7_1 + 1)),rfl,H',⟨by have:=HK1.out;have:=HK2.out;omega⟩,⟨nN Zf.out⟩,⟨nN Zk.out⟩,⟨nB Za.out⟩,⟨nB Zb.out⟩,⟨bB⟩⟩
     rw [if_pos c14] at H
     have c14b0:decide (x8_2 < (t513.length:Int)) = true:=decide_eq_true c14
     clear c14
     by_cases c15:0 ≤ x7_1;rotate_left
     ·rw [if_neg c15] at H
      exact absurd H (by simp)
     rw [if_pos c15] at H
     have c15b0:decide (0 ≤ x7_1) = true:=decide_eq_true c15
     clear c15
     by_cases c16:x7_1 < (t510.length:Int);rotate_left
     ·rw [if_neg c16] at H
      exact absurd H (by simp)
     rw [if_pos c16] at H
     have c16b0:decide (x7_1 < (t510.length:Int)) = true:=decide_eq_true c16
     clear c16
     by_cases c17:((rd_T44 t510 x7_1).f0) = 0
     ·rw [if_pos c17] at H
      have c17b0:(((rd_T44 t510 x7_1).f0) == 0) = true:=beq_iff_eq.mpr c17
      have c17b1:(((rd_T44 t510 x7_1).f0) != 0) = false:=bne_eq_false_iff_eq.mpr c17
      clear c17
      have H':=aQ H
      clear H
      obtain ⟨YY,YZ,YR⟩:=Kd.N_slice Zk.out
      subst YR
      have p516:0 ≤ (x7_1:Int):=of_decide_eq_true (by first | (with_reducible assumption) | assumption)
      have q516:x7_1 < (t510.length:Int):=of_decide_eq_true (by first | (with_reducible assumption) | assumption)
      obtain ⟨ZP,A516_3,c516_3,e516,Ya,Yb,Yc,Zs,Zn,Zo⟩:=at_T44 (Kd.N_reads' Zf.out).2.2 x7_1 p516 q516
      cases e516
      obtain ⟨Yq,ZE,ZF,Zy⟩:=Kd.N_get Zf.out z44 x7_1 p516 (by first | exact q516 | exact of_decide_eq_true (by first | (with_reducible assumption) | assumption) | (have e_:=(Kd.N_reads' Zf.out).1;omega))
      obtain ⟨Yd,Ye,rfl,Zg,Zh⟩:=k44_openF ZF
      have Ze:=Zy 3 _ rfl
      rw [add_field _ _ 3 (by omega)] at Ze
      replace Ze:=Option.some.inj (Ze.symm.trans Zs)
      injection Ze with hva_ hvn_ hvc_
      rw [hva_] at Zh
      rw [hvc_] at Zg
      have Yf:=aQ (show Kd.V k29 29 _ w.heap.size _ _ ((rd_T44 t510 x7_1).f1.f2) from Kd.V_mk Zg Zh)
      clear hva_ hvn_ hvc_ Zh Zg
      clear Zy ZE
      have Yg:=aQ Zo
      have Yh:=aQ Zn
      clear Zo Zn
      replace p516:=eq_true p516
      replace q516:=eq_true q516
      go_wp2
      repeat (go_quiet (fail);try go_wp2)
      go_roundg k2
      case measure=>have:=HK1.out;have:=HK2.out;omega
      case rel=>exact ⟨(wrap64 (x8_2 + 1)),rfl,H',⟨by have:=HK1.out;have:=HK2.out;omega⟩,⟨nN Zf.out⟩,⟨nN Zk.out⟩,⟨nB Za.out⟩,⟨nB Zb.out⟩,⟨bB⟩⟩
     rw [if_neg c17] at H
     have c17b0:(((rd_T44 t510 x7_1).f0) == 0) = false:=beq_eq_false_iff_ne.mpr c17
     have c17b1:(((rd_T44 t510 x7_1).f0) != 0) = true:=bne_iff_ne.mpr c17
     by_cases c19:0 ≤ x8_2;rotate_left
     ·rw [if_neg c19] at H
      exact absurd H (by simp)
     rw [if_pos c19] at H
     have c19b0:decide (0 ≤ x8_2) = true:=decide_eq_true c19
     clear c19
     by_cases c20:((rd_T44 t510 x7_1).f0) = (wrap64 (-((rd_T44 t513 x8_2).f0)))
     ·rw [if_pos c20] at H
      have c20b0:(((rd_T44 t510 x7_1).f0) == (wrap64 (-((rd_T44 t513 x8_2).f0)))) = true:=beq_iff_eq.mpr c20
      have c20b1:(((rd_T44 t510 x7_1).f0) != (wrap64 (-((rd_T44 t513 x8_2).f0)))) = false:=bne_eq_false_iff_eq.mpr c20
      clear c20
      obtain rfl:=Option.some.inj H
      obtain ⟨Xa,Xb,YS⟩:=Kd.N_slice Zk.out
      subst YS
      have p516:0 ≤ (x7_1:Int):=of_decide_eq_true (by first | (with_reducible assumption) | assumption)
      have q516:x7_1 < (t510.length:Int):=of_decide_eq_true (by first | (with_reducible assumption) | assumption)
      obtain ⟨ZP,A516_3,c516_3,e516,Ya,Yb,Yc,Zs,Zn,Zo⟩:=at_T44 (Kd.N_reads' Zf.out).2.2 x7_1 p516 q516
      cases e516
      obtain ⟨Yq,ZE,ZF,Zy⟩:=Kd.N_get Zf.out z44 x7_1 p516 (by first | exact q516 | exact of_decide_eq_true (by first | (with_reducible assumption) | assumption) | (have e_:=(Kd.N_reads' Zf.out).1;omega))
      obtain ⟨Yd,Ye,rfl,Zg,Zh⟩:=k44_openF ZF
      have Ze:=Zy 3 _ rfl
      rw [add_field _ _ 3 (by omega)] at Ze
      replace Ze:=Option.some.inj (Ze.symm.trans Zs)
      injection Ze with hva_ hvn_ hvc_
      rw [hva_] at Zh
      rw [hvc_] at Zg
      have Yf:=aQ (show Kd.V k29 29 _ w.heap.size _ _ ((rd_T44 t510 x7_1).f1.f2) from Kd.V_mk Zg Zh)
      clear hva_ hvn_ hvc_ Zh Zg
      clear Zy ZE
      have Yg:=aQ Zo
      have Yh:=aQ Zn
      clear Zo Zn
      replace p516:=eq_true p516
      replace q516:=eq_true q516
      have p517:0 ≤ (x7_1:Int):=of_decide_eq_true (by first | (with_reducible assumption) | assumption)
      have q517:x7_1 < (t510.length:Int):=of_decide_eq_true (by first | (with_reducible assumption) | assumption)
      obtain ⟨Yn,A517_3,c517_3,e517,Yr,Ys,Yt,Zz,ZA,ZB⟩:=at_T44 (Kd.N_reads' Zf.out).2.2 x7_1 p517 q517
      obtain rfl:ZP = Yn:=(by injection e517)
      obtain ⟨YL,ZW,ZX,ZG⟩:=Kd.N_get Zf.out z44 x7_1 p517 (by first | exact q517 | exact of_decide_eq_true (by first | (with_reducible assumption) | assumption) | (have e_:=(Kd.N_reads' Zf.out).1;omega))
      obtain ⟨Yu,Yv,rfl,Zt,Zu⟩:=k44_openF ZX
      have Zl:=ZG 3 _ rfl
      rw [add_field _ _ 3 (by omega)] at Zl
      replace Zl:=Option.some.inj (Zl.symm.trans Zz)
      injection Zl with hva_ hvn_ hvc_
      rw [hva_] at Zu
      rw [hvc_] at Zt
      have Yw:=aQ (show Kd.V k29 29 _ w.heap.size _ _ ((rd_T44 t510 x7_1).f1.f2) from Kd.V_mk Zt Zu)
      clear hva_ hvn_ hvc_ Zu Zt
      clear ZG ZW
      have Yx:=aQ ZB
      have Yy:=aQ ZA
      clear ZB ZA
      replace p517:=eq_true p517
      replace q517:=eq_true q517
      have ea_:=Option.some.inj (Zs.symm.trans Zz)
      injection ea_ with ea_ en_ ec_
      subst ea_
      subst ec_
      clear en_
      have p518:0 ≤ (x8_2:Int):=of_decide_eq_true (by first | (with_reducible assumption) | assumption)
      have q518:x8_2 < (t513.length:Int):=of_decide_eq_true (by first | (with_reducible assumption) | assumption)
      obtain ⟨YM,A518_3,c518_3,e518,Yz,YA,YB,ZO,ZC,ZD⟩:=at_T44 (Kd.N_reads' Zk.out).2.2 x8_2 p518 q518
      cases e518
      obtain ⟨YN,ZY,ZZ,ZH⟩:=Kd.N_get Zk.out z44 x8_2 p518 (by first | exact q518 | exact of_decide_eq_true (by first | (with_reducible assumption) | assumption) | (have e_:=(Kd.N_reads' Zk.out).1;omega))
      obtain ⟨YC,YD,rfl,Zv,Zw⟩:=k44_openF ZZ
      have Zm:=ZH 3 _ rfl
      rw [add_field _ _ 3 (by omega)] at Zm
      replace Zm:=Option.some.inj (Zm.symm.trans ZO)
      injection Zm with hva_ hvn_ hvc_
      rw [hva_] at Zw
      rw [hvc_] at Zv
      have YE:=aQ (show Kd.V k29 29 _ w.heap.size _ _ ((rd_T44 t513 x8_2).f1.f2) from Kd.V_mk Zv Zw)
      clear hva_ hvn_ hvc_ Zw Zv
      clear ZH ZY
      have YF:=aQ ZD
      have YG:=aQ ZC
      clear ZD ZC
      replace p518:=eq_true p518
      replace q518:=eq_true q518
      go_wp2
      repeat (go_quiet (fail);try go_wp2)
      go_ret
      exact ⟨rfl,bB⟩
     rw [if_neg c20] at H
     have c20b0:(((rd_T44 t510 x7_1).f0) == (wrap64 (-((rd_T44 t513 x8_2).f0)))) = false:=beq_eq_false_iff_ne.mpr c20
     have c20b1:(((rd_T44 t510 x7_1).f0) != (wrap64 (-((rd_T44 t513 x8_2).f0)))) = true:=bne_iff_ne.mpr c20
     have H':=aQ H
     clear H
     obtain ⟨Xc,Xd,YT⟩:=Kd.N_slice Zk.out
     subst YT
     have p516:0 ≤ (x7_1:Int):=of_decide_eq_true (by first | (with_reducible assumption) | assumption)
     have q516:x7_1 < (t510.length:Int):=of_decide_eq_true (by first | (with_reducible assumption) | assumption)
     obtain ⟨ZP,A516_3,c516_3,e516,Ya,Yb,Yc,Zs,Zn,Zo⟩:=at_T44 (Kd.N_reads' Zf.out).2.2 x7_1 p516 q516
     cases e516
     obtain ⟨Yq,ZE,ZF,Zy⟩:=Kd.N_get Zf.out z44 x7_1 p516 (by first | exact q516 | exact of_decide_eq_true (by first | (with_reducible assumption) | assumption) | (have e_:=(Kd.N_reads' Zf.out).1;omega))
     obtain ⟨Yd,Ye,rfl,Zg,Zh⟩:=k44_openF ZF
     have Ze:=Zy 3 _ rfl
     rw [add_field _ _ 3 (by omega)] at Ze
     replace Ze:=Option.some.inj (Ze.symm.trans Zs)
     injection Ze with hva_ hvn_ hvc_
     rw [hva_] at Zh
     rw [hvc_] at Zg
     have Yf:=aQ (show Kd.V k29 29 _ w.heap.size _ _ ((rd_T44 t510 x7_1).f1.f2) from Kd.V_mk Zg Zh)
     clear hva_ hvn_ hvc_ Zh Zg
     clear Zy ZE
     have Yg:=aQ Zo
     have Yh:=aQ Zn
     clear Zo Zn
     replace p516:=eq_true p516
     replace q516:=eq_true q516
     have p517:0 ≤ (x7_1:Int):=of_decide_eq_true (by first | (with_reducible assumption) | assumption)
     have q517:x7_1 < (t510.length:Int):=of_decide_eq_true (by first | (with_reducible assumption) | assumption)
     obtain ⟨Yn,A517_3,c517_3,e517,Yr,Ys,Yt,Zz,ZA,ZB⟩:=at_T44 (Kd.N_reads' Zf.out).2.2 x7_1 p517 q517
     obtain rfl:ZP = Yn:=(by injection e517)
     obtain ⟨YL,ZW,ZX,ZG⟩:=Kd.N_get Zf.out z44 x7_1 p517 (by first | exact q517 | exact of_decide_eq_true (by first | (with_reducible assumption) | assumption) | (have e_:=(Kd.N_reads' Zf.out).1;omega))
     obtain ⟨Yu,Yv,rfl,Zt,Zu⟩:=k44_openF ZX
     have Zl:=ZG 3 _ rfl
     rw [add_field _ _ 3 (by omega)] at Zl
     replace Zl:=Option.some.inj (Zl.symm.trans Zz)
     injection Zl with hva_ hvn_ hvc_
     rw [hva_] at Zu
     rw [hvc_] at Zt
     have Yw:=aQ (show Kd.V k29 29 _ w.heap.size _ _ ((rd_T44 t510 x7_1).f1.f2) from Kd.V_mk Zt Zu)
     clear hva_ hvn_ hvc_ Zu Zt
     clear ZG ZW
     have Yx:=aQ ZB
     have Yy:=aQ ZA
     clear ZB ZA
     replace p517:=eq_true p517
     replace q517:=eq_true q517
     have ea_:=Option.some.inj (Zs.symm.trans Zz)
     injection ea_ with ea_ en_ ec_
     subst ea_
     subst ec_
     clear en_
     have p518:0 ≤ (x8_2:Int):=of_decide_eq_true (by first | (with_reducible assumption) | assumption)
     have q518:x8_2 < (t513.length:Int):=of_decide_eq_true (by first | (with_reducible assumption) | assumption)
     obtain ⟨YM,A518_3,c518_3,e518,Yz,YA,YB,ZO,ZC,ZD⟩:=at_T44 (Kd.N_reads' Zk.out).2.2 x8_2 p518 q518
     cases e518
     obtain ⟨YN,ZY,ZZ,ZH⟩:=Kd.N_get Zk.out z44 x8_2 p518 (by first | exact q518 | exact of_decide_eq_true (by first | (with_reducible assumption) | assumption) | (have e_:=(Kd.N_reads' Zk.out).1;omega))
     obtain ⟨YC,YD,rfl,Zv,Zw⟩:=k44_openF ZZ
     have Zm:=ZH 3 _ rfl
     rw [add_field _ _ 3 (by omega)] at Zm
     replace Zm:=Option.some.inj (Zm.symm.trans ZO)
     injection Zm with hva_ hvn_ hvc_
     rw [hva_] at Zw
     rw [hvc_] at Zv
     have YE:=aQ (show Kd.V k29 29 _ w.heap.size _ _ ((rd_T44 t513 x8_2).f1.f2) from Kd.V_mk Zv Zw)
     clear hva_ hvn_ hvc_ Zw Zv
     clear ZH ZY
     have YF:=aQ ZD
     have YG:=aQ ZC
     clear ZD ZC
     replace p518:=eq_true p518
     replace q518:=eq_true q518
     go_wp2
     repeat (go_quiet (fail);try go_wp2)
     go_roundg k2
     case measure=>have:=HK1.out;have:=HK2.out;omega
     case rel=>exact ⟨(wrap64 (x8_2 + 1)),rfl,H',⟨by have:=HK1.out;have:=HK2.out;omega⟩,⟨nN Zf.out⟩,⟨nN Zk.out⟩,⟨nB Za.out⟩,⟨nB Zb.out⟩,⟨bB⟩⟩
def laws_szClock.body (g:List (S24) → Int → Option (Int)) (a0_0:Int) (a0_1:Int) (l0_2:List (S24)) (a1:Int):Option (Int):=(g l0_2 a1).bind fun t108=>(if t108 < 0 then (some (-1)) else (some t108))
theorem laws_szClock.body_mono {g g':List (S24) → Int → Option (Int)} (hg:∀ y0 y1,LeO (g y0 y1) (g' y0 y1)):∀ a0_0 a0_1 l0_2 a1,LeO (laws_szClock.body g a0_0 a0_1 l0_2 a1) (laws_szClock.body g' a0_0 a0_1 l0_2 a1):=by
 intro a0_0 a0_1 l0_2 a1
 unfold laws_szClock.body
 repeat' first
   | (with_reducible exact hg _ _)
   | (with_reducible exact LeO.refl _)
   | (with_reducible exact LeO.none _)
   | (with_reducible refine LeO.ite ?_ ?_)
   | (with_reducible refine LeO.bind ?_ (fun _=>?_))
   | exact hg _ _
   | exact LeO.none _
   | refine LeO.ite ?_ ?_
   | refine LeO.bind ?_ (fun _=>?_)
mutual
def laws_szClockS.l0:Nat → List (S24) → Int → Int → Option (Int)
 | 0,_,_,_=>none
 | k + 1,x0,x1,x5=>if x5 < (x0.length:Int) then (if 0 ≤ x5 then ((laws_szClock.body (fun y0 y1=>laws_szClockS.f k y0 y1) ((rd_T24 x0 x5).f0) ((rd_T24 x0 x5).f1) ((rd_T24 x0 x5).f2) x1).bind fun t106=>(if t106 < 0 then (some (-1)) else (laws_szClockS.l0 k x0 t106 (wrap64 (x5 + 1))))) else (none)) else (some x1)
def laws_szClockS.f:Nat → List (S24) → Int → Option (Int)
 | 0,_,_=>none
 | k + 1,l0,a1=>if (wrap64 (a1 - (l0.length:Int))) < 0 then (some (-1)) else (laws_szClockS.l0 k l0 (wrap64 (a1 - (l0.length:Int))) 0)
end
abbrev laws_szClock.f (k:Nat) (a0_0:Int) (a0_1:Int) (l0_2:List (S24)) (a1:Int):Option (Int):=laws_szClock.body (fun y0 y1=>laws_szClockS.f k y0 y1) a0_0 a0_1 l0_2 a1
theorem laws_szClockS.mono_l:∀ k,(∀ y0 y1,LeO (laws_szClockS.f k y0 y1) (laws_szClockS.f (k + 1) y0 y1))∧(∀ y0 y1 y2,LeO (laws_szClockS.l0 k y0 y1 y2) (laws_szClockS.l0 (k + 1) y0 y1 y2))
 | 0=>⟨fun _ _ r h=>by simp [laws_szClockS.f] at h,fun _ _ _ r h=>by simp [laws_szClockS.l0] at h⟩
 | k + 1=>by
  obtain ⟨ih0,ih1⟩:=laws_szClockS.mono_l k
  refine ⟨?_,?_⟩
  ·intro y0 y1
   unfold laws_szClockS.f
   repeat' first
   | (with_reducible exact ih0 _ _)
   | (with_reducible exact ih1 _ _ _)
   | (with_reducible exact laws_szClock.body_mono (fun y0 y1=>ih0 y0 y1) _ _ _ _)
   | (with_reducible exact LeO.refl _)
   | (with_reducible exact LeO.none _)
   | (with_reducible refine LeO.ite ?_ ?_)
   | (with_reducible refine LeO.bind ?_ (fun _=>?_))
   | exact ih0 _ _
   | exact ih1 _ _ _
   | exact LeO.none _
   | refine LeO.ite ?_ ?_
   | refine LeO.bind ?_ (fun _=>?_)
  ·intro y0 y1 y2
   unfold laws_szClockS.l0
   repeat' first
   | (with_reducible exact ih0 _ _)
   | (with_reducible exact ih1 _ _ _)
   | (with_reducible exact laws_szClock.body_mono (fun y0 y1=>ih0 y0 y1) _ _ _ _)
   | (with_reducible exact LeO.refl _)
   | (with_reducible exact LeO.none _)
   | (with_reducible refine LeO.ite ?_ ?_)
   | (with_reducible refine LeO.bind ?_ (fun _=>?_))
   | exact ih0 _ _
   | exact ih1 _ _ _
   | exact LeO.none _
   | refine LeO.ite ?_ ?_
   | refine LeO.bind ?_ (fun _=>?_)
theorem laws_szClockS.mono:∀ a0 a1 k,LeO (laws_szClockS.f k a0 a1) (laws_szClockS.f (k + 1) a0 a1):=by
 intro a0 a1 k
 obtain ⟨ih0,ih1⟩:=laws_szClockS.mono_l k
 exact ih0 a0 a1
theorem laws_szClock.mono:∀ a0_0 a0_1 l0_2 a1 k,LeO (laws_szClock.f k a0_0 a0_1 l0_2 a1) (laws_szClock.f (k + 1) a0_0 a0_1 l0_2 a1):=fun a0_0 a0_1 l0_2 a1 k=>laws_szClock.body_mono (fun y0 y1=>laws_szClockS.mono y0 y1 k) a0_0 a0_1 l0_2 a1
abbrev laws_szClockS.Con (k:Nat):Prop:=∀ (A0:Option Addr) (c0:Nat) (l0:List (S24)) (a1:Int) (r:Int) (w:World) (hr0:Kd.C k24 w A0 l0.length l0) (hc0:l0.length ≤ c0) (h:laws_szClockS.f k l0 a1 = some r),
  Calls Try.prog 38 #[.slice A0 l0.length c0,.int .i64 a1] w fun e w'=>e = .returned (.int .i64 r)∧Below w.heap.size w w'
set_option maxHeartbeats 8000000 in
set_option maxRecDepth 100000 in
theorem laws_szClock.calls_of (k:Nat) (ihS:∀ j_,j_ ≤ k → laws_szClockS.Con j_) (a0_0:Int) (a0_1:Int) (A0_2:Option Addr) (c0_2:Nat) (l0_2:List (S24)) (a1:Int) (r:Int) (w:World) (hr0_2:Kd.C k24 w A0_2 l0_2.length l0_2) (hc0_2:l0_2.length ≤ c0_2) (h:laws_szClock.f k a0_0 a0_1 l0_2 a1 = some r) :
  Calls Try.prog 13 #[.agg #[.int .i64 a0_0,.int .i64 a0_1,.slice A0_2 l0_2.length c0_2],.int .i64 a1] w fun e w'=>e = .returned (.int .i64 r)∧Below w.heap.size w w':=by
 have hu24:=Try.underlying24
 have Ze:=aQ hr0_2
 have Zf:=aQ hc0_2
 clear hr0_2 hc0_2
 have HB:=aQ (Below.refl w.heap.size w)
 have H:=h
 clear h
 obtain ⟨t108,A3,H⟩:=bQ H
 (try dsimp only at H)
 by_cases c4:t108 < 0
 ·rw [if_pos c4] at H
  have c4b0:decide (t108 < 0) = true:=decide_eq_true c4
  clear c4
  obtain rfl:=Option.some.inj H
  go_enter Try.func13,Try.ntmps13
  go_wp2_with (first | ((with_reducible refine gate_dst (N:=2) rfl ?_);refine box1 (N:=2) (cs:=#[.int .i64 a0_0,.int .i64 a0_1,.slice A0_2 l0_2.length c0_2]) (t:=24) ?_;intro Zb hg w5 hbox hb;have Za:=aQ (hbox);have Zg:=aQ ((by rw [hg];exact (below_size bB):w.heap.size ≤ Zb));have Zh:=aQ ((by rw [hg];exact (below_size bB):w.heap.size ≤ Zb));replace HB:=aQ (below_step bB hb);clear hb hbox hg;have Zi:w5.cell? ⟨Zb,0,none⟩ = some (.int .i64 a0_0):=(blk_cell Za.out 0).trans rfl;have Zj:w5.cell? ⟨Zb,1,none⟩ = some (.int .i64 a0_1):=(blk_cell Za.out 1).trans rfl;have Zk:w5.cell? ⟨Zb,2,none⟩ = some (.slice A0_2 l0_2.length c0_2):=(blk_cell Za.out 2).trans rfl;have Zl:=blk_frozen Za.out 0;have Zm:=blk_frozen Za.out 1;have Zn:=blk_frozen Za.out 2) | ((with_reducible refine gate_callee (f:=38) rfl ?_);refine goesL_ (some 8) rfl rfl Try.func38 (by kernel_rfl) rfl #[.slice A0_2 l0_2.length c0_2,.int .i64 a1] rfl mP ?_;(with_reducible refine (ihS k (Nat.le_refl _) _ _ l0_2 a1 t108 _ ?Zc ?Zd A3.out).mono ?_);(case Zc=>repeat (first | exact (Kd.C_below Ze.out HB.out) | (with_reducible refine Kd.C_alloc ?_ _) | (with_reducible refine Kd.C_drewN ?_ _) | (with_reducible refine Kd.C_drew ?_)));(case Zd=>exact Zf.out);rintro e w7 ⟨rfl,hb⟩;refine ⟨_,rfl,?_⟩;replace Za:=aQ (blk_below (g:=Zb) (o:=.cells #[.int .i64 a0_0,.int .i64 a0_1,.slice A0_2 l0_2.length c0_2] 24 (0,0)) (nB Za.out) hb);replace HB:=aQ (below_step bB hb);(try clear hb)))
  go_ret
  exact ⟨rfl,bB⟩
 rw [if_neg c4] at H
 have c4b0:decide (t108 < 0) = false:=decide_eq_false c4
 clear c4
 obtain rfl:=Option.some.inj H
 go_enter Try.func13,Try.ntmps13
 go_wp2_with (first | ((with_reducible refine gate_dst (N:=2) rfl ?_);refine box1 (N:=2) (cs:=#[.int .i64 a0_0,.int .i64 a0_1,.slice A0_2 l0_2.length c0_2]) (t:=24) ?_;intro Zb hg w8 hbox hb;have Za:=aQ (hbox);have Zg:=aQ ((by rw [hg];exact (below_size bB):w.heap.size ≤ Zb));have Zh:=aQ ((by rw [hg];exact (below_size bB):w.heap.size ≤ Zb));replace HB:=aQ (below_step bB hb);clear hb hbox hg;have Zo:w8.cell? ⟨Zb,0,none⟩ = some (.int .i64 a0_0):=(blk_cell Za.out 0).trans rfl;have Zp:w8.cell? ⟨Zb,1,none⟩ = some (.int .i64 a0_1):=(blk_cell Za.out 1).trans rfl;have Zq:w8.cell? ⟨Zb,2,none⟩ = some (.slice A0_2 l0_2.length c0_2):=(blk_cell Za.out 2).trans rfl;have Zr:=blk_frozen Za.out 0;have Zs:=blk_frozen Za.out 1;have Zt:=blk_frozen Za.out 2) | ((with_reducible refine gate_callee (f:=38) rfl ?_);refine goesL_ (some 8) rfl rfl Try.func38 (by kernel_rfl) rfl #[.slice A0_2 l0_2.length c0_2,.int .i64 a1] rfl mP ?_;(with_reducible refine (ihS k (Nat.le_refl _) _ _ l0_2 a1 t108 _ ?Zc ?Zd A3.out).mono ?_);(case Zc=>repeat (first | exact (Kd.C_below Ze.out HB.out) | (with_reducible refine Kd.C_alloc ?_ _) | (with_reducible refine Kd.C_drewN ?_ _) | (with_reducible refine Kd.C_drew ?_)));(case Zd=>exact Zf.out);rintro e w10 ⟨rfl,hb⟩;refine ⟨_,rfl,?_⟩;replace Za:=aQ (blk_below (g:=Zb) (o:=.cells #[.int .i64 a0_0,.int .i64 a0_1,.slice A0_2 l0_2.length c0_2] 24 (0,0)) (nB Za.out) hb);replace HB:=aQ (below_step bB hb);(try clear hb)))
 go_ret
 exact ⟨rfl,bB⟩
set_option maxHeartbeats 8000000 in
set_option maxRecDepth 100000 in
theorem laws_szClockS.calls (k:Nat):∀ (A0:Option Addr) (c0:Nat) (l0:List (S24)) (a1:Int) (r:Int) (w:World) (hr0:Kd.C k24 w A0 l0.length l0) (hc0:l0.length ≤ c0) (h:laws_szClockS.f k l0 a1 = some r),
  Calls Try.prog 38 #[.slice A0 l0.length c0,.int .i64 a1] w fun e w'=>e = .returned (.int .i64 r)∧Below w.heap.size w w':=by
 induction k using Nat.strongRecOn with
 | _ k ih =>
 intro A0 c0 l0 a1 r w hr0 hc0 h
 cases k with
 | zero=>exact absurd h (by simp [laws_szClockS.f])
 | succ k =>
 simp only [laws_szClockS.f] at h
 have hu24:=Try.underlying24
 have Zk:=aQ hr0
 have Zl:=aQ hc0
 clear hr0 hc0
 have HB:=aQ (Below.refl w.heap.size w)
 have H:=h
 clear h
 by_cases c3:(wrap64 (a1 - (l0.length:Int))) < 0
 ·rw [if_pos c3] at H
  have c3b0:decide ((wrap64 (a1 - (l0.length:Int))) < 0) = true:=decide_eq_true c3
  clear c3
  obtain rfl:=Option.some.inj H
  go_enter Try.func38,Try.ntmps38
  go_wp2
  go_ret
  exact ⟨rfl,bB⟩
 rw [if_neg c3] at H
 have c3b0:decide ((wrap64 (a1 - (l0.length:Int))) < 0) = false:=decide_eq_false c3
 clear c3
 have H':=aQ H
 clear H
 go_enter Try.func38,Try.ntmps38
 go_wp2
 go_loopg [1,5] k (fun kq v1 v5 w'=>∃ (x1_1:Int) (x5_1:Int),v1 = .int .i64 x1_1∧v5 = .int .i64 x5_1∧Aside0 (laws_szClockS.l0 kq l0 x1_1 x5_1 = some r)∧Aside0 (kq ≤ k)∧Aside0 (Below w.heap.size w w'))
 case atStart=>exact ⟨(wrap64 (a1 - (l0.length:Int))),(0),rfl,rfl,H',⟨Nat.le_refl _⟩,⟨bB⟩⟩
 case round =>
  clear H'
  try clear c3b0
  repeat (first | clear HB)
  obtain ⟨x1_1,x5_1,rfl,rfl,HA,HK1,HB⟩:=hrel
  cases gk with
  | zero=>exact absurd HA.out (by simp [laws_szClockS.l0])
  | succ k1 =>
   have H:=HA.out
   clear HA
   simp only [laws_szClockS.l0] at H
   by_cases c4:x5_1 < (l0.length:Int);rotate_left
   ·rw [if_neg c4] at H
    have c4b0:decide (x5_1 < (l0.length:Int)) = false:=decide_eq_false c4
    clear c4
    obtain rfl:=Option.some.inj H
    go_wp2
    go_ret
    exact ⟨rfl,bB⟩
   rw [if_pos c4] at H
   have c4b0:decide (x5_1 < (l0.length:Int)) = true:=decide_eq_true c4
   clear c4
   by_cases c5:0 ≤ x5_1;rotate_left
   ·rw [if_neg c5] at H
    exact absurd H (by simp)
   rw [if_pos c5] at H
   have c5b0:decide (0 ≤ x5_1) = true:=decide_eq_true c5
   clear c5
   obtain ⟨t106,A6,H⟩:=bQ H
   (try dsimp only at H)
   by_cases c7:t106 < 0
   ·rw [if_pos c7] at H
    have c7b0:decide (t106 < 0) = true:=decide_eq_true c7
    clear c7
    obtain rfl:=Option.some.inj H
    have p105:0 ≤ (x5_1:Int):=of_decide_eq_true (by first | (with_reducible assumption) | assumption)
    have q105:x5_1 < (l0.length:Int):=of_decide_eq_true (by first | (with_reducible assumption) | assumption)
    obtain ⟨Zj,A105_2,c105_2,e105,Za,Zb,Zc,Zd,Ze⟩:=at_T24 Zk.out x5_1 p105 q105
    cases e105
    replace Za:=(HB.out.cell (World.block_lt_of_cell? w _ Za)).trans Za
    replace Zb:=(HB.out.cell (World.block_lt_of_cell? w _ Zb)).trans Zb
    replace Zc:=(HB.out.cell (World.block_lt_of_cell? w _ Zc)).trans Zc
    have Zf:=aQ Ze
    have Zg:=aQ Zd
    clear Ze Zd
    replace p105:=eq_true p105
    replace q105:=eq_true q105
    go_wp2_with (first | ((with_reducible refine gate_callee (f:=13) rfl ?_);refine goesL_ (some 23) rfl rfl Try.func13 (by kernel_rfl) rfl #[.agg #[.int .i64 ((rd_T24 l0 x5_1).f0),.int .i64 ((rd_T24 l0 x5_1).f1),.slice A105_2 ((rd_T24 l0 x5_1).f2).length c105_2],.int .i64 x1_1] rfl mP ?_;(with_reducible refine (laws_szClock.calls_of k1 (fun j_ hj_=>ih j_ (by first | omega | (have:=HK1.out;omega) | (have:=HK1.out;have:=HK2.out;omega))) ((rd_T24 l0 x5_1).f0) ((rd_T24 l0 x5_1).f1) _ _ ((rd_T24 l0 x5_1).f2) x1_1 t106 _ ?Zh ?Zi A6.out).mono ?_);(case Zh=>repeat (first | exact (Kd.C_below Zf.out HB.out) | (with_reducible refine Kd.C_alloc ?_ _) | (with_reducible refine Kd.C_drewN ?_ _) | (with_reducible refine Kd.C_drew ?_)));(case Zi=>exact Zg.out);rintro e w8 ⟨rfl,hb⟩;refine ⟨_,rfl,?_⟩;replace HB:=aQ (below_step bB hb);(try clear hb)))
    go_ret
    exact ⟨rfl,bB⟩
   rw [if_neg c7] at H
   have c7b0:decide (t106 < 0) = false:=decide_eq_false c7
   clear c7
   have H':=aQ H
   clear H
   have p105:0 ≤ (x5_1:Int):=of_decide_eq_true (by first | (with_reducible assumption) | assumption)
   have q105:x5_1 < (l0.length:Int):=of_decide_eq_true (by first | (with_reducible assumption) | assumption)
   obtain ⟨Zj,A105_2,c105_2,e105,Za,Zb,Zc,Zd,Ze⟩:=at_T24 Zk.out x5_1 p105 q105
   cases e105
   replace Za:=(HB.out.cell (World.block_lt_of_cell? w _ Za)).trans Za
   replace Zb:=(HB.out.cell (World.block_lt_of_cell? w _ Zb)).trans Zb
   replace Zc:=(HB.out.cell (World.block_lt_of_cell? w _ Zc)).trans Zc
   have Zf:=aQ Ze
   have Zg:=aQ Zd
   clear Ze Zd
   replace p105:=eq_true p105
   replace q105:=eq_true q105
   go_wp2_with (first | ((with_reducible refine gate_callee (f:=13) rfl ?_);refine goesL_ (some 23) rfl rfl Try.func13 (by kernel_rfl) rfl #[.agg #[.int .i64 ((rd_T24 l0 x5_1).f0),.int .i64 ((rd_T24 l0 x5_1).f1),.slice A105_2 ((rd_T24 l0 x5_1).f2).length c105_2],.int .i64 x1_1] rfl mP ?_;(with_reducible refine (laws_szClock.calls_of k1 (fun j_ hj_=>ih j_ (by first | omega | (have:=HK1.out;omega) | (have:=HK1.out;have:=HK2.out;omega))) ((rd_T24 l0 x5_1).f0) ((rd_T24 l0 x5_1).f1) _ _ ((rd_T24 l0 x5_1).f2) x1_1 t106 _ ?Zh ?Zi A6.out).mono ?_);(case Zh=>repeat (first | exact (Kd.C_below Zf.out HB.out) | (with_reducible refine Kd.C_alloc ?_ _) | (with_reducible refine Kd.C_drewN ?_ _) | (with_reducible refine Kd.C_drew ?_)));(case Zi=>exact Zg.out);rintro e w9 ⟨rfl,hb⟩;refine ⟨_,rfl,?_⟩;replace HB:=aQ (below_step bB hb);(try clear hb)))
   go_roundg k1
   case measure=>have:=HK1.out;omega
   case rel=>exact ⟨(t106),(wrap64 (x5_1 + 1)),rfl,rfl,H',⟨by have:=HK1.out;omega⟩,⟨bB⟩⟩
theorem laws_szClock.calls (k:Nat) (a0_0:Int) (a0_1:Int) (A0_2:Option Addr) (c0_2:Nat) (l0_2:List (S24)) (a1:Int) (r:Int) (w:World) (hr0_2:Kd.C k24 w A0_2 l0_2.length l0_2) (hc0_2:l0_2.length ≤ c0_2) (h:laws_szClock.f k a0_0 a0_1 l0_2 a1 = some r) :
  Calls Try.prog 13 #[.agg #[.int .i64 a0_0,.int .i64 a0_1,.slice A0_2 l0_2.length c0_2],.int .i64 a1] w fun e w'=>e = .returned (.int .i64 r)∧Below w.heap.size w w':=laws_szClock.calls_of k (fun j_ _=>laws_szClockS.calls j_) a0_0 a0_1 A0_2 c0_2 l0_2 a1 r w hr0_2 hc0_2 h
def laws_toClock.body (g:List (S24) → Option ((List (S29)))) (a0_0:Int) (a0_1:Int) (l0_2:List (S24)):Option (Int × Int × (List (S29))):=(g l0_2).bind fun t147=>(some (a0_0,a0_1,t147))
theorem laws_toClock.body_mono {g g':List (S24) → Option ((List (S29)))} (hg:∀ y0,LeO (g y0) (g' y0)):∀ a0_0 a0_1 l0_2,LeO (laws_toClock.body g a0_0 a0_1 l0_2) (laws_toClock.body g' a0_0 a0_1 l0_2):=by
 intro a0_0 a0_1 l0_2
 unfold laws_toClock.body
 repeat' first
   | (with_reducible exact hg _)
   | (with_reducible exact LeO.refl _)
   | (with_reducible exact LeO.none _)
   | (with_reducible refine LeO.ite ?_ ?_)
   | (with_reducible refine LeO.bind ?_ (fun _=>?_))
   | exact hg _
   | exact LeO.none _
   | refine LeO.ite ?_ ?_
   | refine LeO.bind ?_ (fun _=>?_)
mutual
def laws_toClockS.l0:Nat → List (S24) → List (S29) → Int → Option ((List (S29)))
 | 0,_,_,_=>none
 | k + 1,x0,x3,x4=>if x4 < (x0.length:Int) then (if 0 ≤ x4 then ((laws_toClock.body (fun y0=>laws_toClockS.f k y0) ((rd_T24 x0 x4).f0) ((rd_T24 x0 x4).f1) ((rd_T24 x0 x4).f2)).bind fun bt138=>(if x4 < (x3.length:Int) then (laws_toClockS.l0 k x0 (x3.set (x4:Int).toNat (⟨bt138.1,bt138.2.1,bt138.2.2⟩:S29)) (wrap64 (x4 + 1))) else (none))) else (none)) else (some x3)
def laws_toClockS.f:Nat → List (S24) → Option ((List (S29)))
 | 0,_=>none
 | k + 1,l0=>if 0 ≤ (l0.length:Int) then (if ((l0.length:Int):Int).toNat ≤ 7036874417766 then (laws_toClockS.l0 k l0 (List.replicate ((l0.length:Int):Int).toNat z29) 0) else (none)) else (none)
end
abbrev laws_toClock.f (k:Nat) (a0_0:Int) (a0_1:Int) (l0_2:List (S24)):Option (Int × Int × (List (S29))):=laws_toClock.body (fun y0=>laws_toClockS.f k y0) a0_0 a0_1 l0_2
theorem laws_toClockS.mono_l:∀ k,(∀ y0,LeO (laws_toClockS.f k y0) (laws_toClockS.f (k + 1) y0))∧(∀ y0 y1 y2,LeO (laws_toClockS.l0 k y0 y1 y2) (laws_toClockS.l0 (k + 1) y0 y1 y2))
 | 0=>⟨fun _ r h=>by simp [laws_toClockS.f] at h,fun _ _ _ r h=>by simp [laws_toClockS.l0] at h⟩
 | k + 1=>by
  obtain ⟨ih0,ih1⟩:=laws_toClockS.mono_l k
  refine ⟨?_,?_⟩
  ·intro y0
   unfold laws_toClockS.f
   repeat' first
   | (with_reducible exact ih0 _)
   | (with_reducible exact ih1 _ _ _)
   | (with_reducible exact laws_toClock.body_mono (fun y0=>ih0 y0) _ _ _)
   | (with_reducible exact LeO.refl _)
   | (with_reducible exact LeO.none _)
   | (with_reducible refine LeO.ite ?_ ?_)
   | (with_reducible refine LeO.bind ?_ (fun _=>?_))
   | exact ih0 _
   | exact ih1 _ _ _
   | exact LeO.none _
   | refine LeO.ite ?_ ?_
   | refine LeO.bind ?_ (fun _=>?_)
  ·intro y0 y1 y2
   unfold laws_toClockS.l0
   repeat' first
   | (with_reducible exact ih0 _)
   | (with_reducible exact ih1 _ _ _)
   | (with_reducible exact laws_toClock.body_mono (fun y0=>ih0 y0) _ _ _)
   | (with_reducible exact LeO.refl _)
   | (with_reducible exact LeO.none _)
   | (with_reducible refine LeO.ite ?_ ?_)
   | (with_reducible refine LeO.bind ?_ (fun _=>?_))
   | exact ih0 _
   | exact ih1 _ _ _
   | exact LeO.none _
   | refine LeO.ite ?_ ?_
   | refine LeO.bind ?_ (fun _=>?_)
theorem laws_toClockS.mono:∀ a0 k,LeO (laws_toClockS.f k a0) (laws_toClockS.f (k + 1) a0):=by
 intro a0 k
 obtain ⟨ih0,ih1⟩:=laws_toClockS.mono_l k
 exact ih0 a0
theorem laws_toClock.mono:∀ a0_0 a0_1 l0_2 k,LeO (laws_toClock.f k a0_0 a0_1 l0_2) (laws_toClock.f (k + 1) a0_0 a0_1 l0_2):=fun a0_0 a0_1 l0_2 k=>laws_toClock.body_mono (fun y0=>laws_toClockS.mono y0 k) a0_0 a0_1 l0_2
abbrev laws_toClockS.Con (k:Nat):Prop:=∀ (A0:Option Addr) (c0:Nat) (l0:List (S24)) (r:List (S29)) (w:World) (hr0:Kd.C k24 w A0 l0.length l0) (hc0:l0.length ≤ c0) (h:laws_toClockS.f k l0 = some r),
  Calls Try.prog 41 #[.slice A0 l0.length c0] w fun e w'=>∃ v0_:Value,e = .returned (v0_)∧Kd.R k29 29 w' w.heap.size (fun _=>True) v0_ r∧Below w.heap.size w w'
set_option maxHeartbeats 8000000 in
set_option maxRecDepth 100000 in
theorem laws_toClock.calls_of (k:Nat) (ihS:∀ j_,j_ ≤ k → laws_toClockS.Con j_) (a0_0:Int) (a0_1:Int) (A0_2:Option Addr) (c0_2:Nat) (l0_2:List (S24)) (r1:Int) (r2:Int) (r3:List (S29)) (w:World) (hr0_2:Kd.C k24 w A0_2 l0_2.length l0_2) (hc0_2:l0_2.length ≤ c0_2) (h:laws_toClock.f k a0_0 a0_1 l0_2 = some (r1,r2,r3)) :
  Calls Try.prog 15 #[.agg #[.int .i64 a0_0,.int .i64 a0_1,.slice A0_2 l0_2.length c0_2]] w fun e w'=>∃ v2_:Value,e = .returned (.agg #[.int .i64 r1,.int .i64 r2,v2_])∧Kd.R k29 29 w' w.heap.size (fun _=>True) v2_ r3∧Below w.heap.size w w':=by
 have hu24:=Try.underlying24
 have hu29:=Try.underlying29
 have Zp:=aQ hr0_2
 have Zq:=aQ hc0_2
 clear hr0_2 hc0_2
 have HB:=aQ (Below.refl w.heap.size w)
 have H:=h
 clear h
 obtain ⟨t147,A2,H⟩:=bQ H
 (try dsimp only at H)
 simp only [Option.some.injEq,Prod.mk.injEq] at H
 obtain ⟨rfl,rfl,rfl⟩:=H
 go_enter Try.func15,Try.ntmps15
 go_wp2_with (first | ((with_reducible refine gate_dst (N:=1) rfl ?_);refine box1 (N:=1) (cs:=#[.int .i64 a0_0,.int .i64 a0_1,.slice A0_2 l0_2.length c0_2]) (t:=24) ?_;intro Zb hg w3 hbox hb;have Zd:=aQ (hbox);have ZS:=aQ ((by rw [hg];exact (below_size bB):w.heap.size ≤ Zb));have ZT:=aQ ((by rw [hg];exact (below_size bB):w.heap.size ≤ Zb));replace HB:=aQ (below_step bB hb);clear hb hbox hg) | ((with_reducible refine gate_dst (N:=2) rfl ?_);refine box1 (N:=2) (cs:=#[.int .i64 0,.int .i64 0,.slice none 0 0]) (t:=29) ?_;intro Za hg w4 hbox hb;have Zf:=aQ (hbox);have ZU:=aQ ((by rw [hg];exact (below_size bB):w.heap.size ≤ Za));have ZV:=aQ ((by rw [hg];exact (below_size bB):w.heap.size ≤ Za));replace HB:=aQ (below_step bB hb);have Zh:=aQ ((by rw [hg];exact Nat.ne_of_lt (blk_lt (g:=Zb) (o:=.cells #[.int .i64 a0_0,.int .i64 a0_1,.slice A0_2 l0_2.length c0_2] 24 (0,0)) (nB Zd.out)):Zb ≠ Za));have Zi:=aQ ((by rw [hg];exact Nat.ne_of_gt (blk_lt (g:=Zb) (o:=.cells #[.int .i64 a0_0,.int .i64 a0_1,.slice A0_2 l0_2.length c0_2] 24 (0,0)) (nB Zd.out)):Za ≠ Zb));replace Zd:=aQ (blk_below (g:=Zb) (o:=.cells #[.int .i64 a0_0,.int .i64 a0_1,.slice A0_2 l0_2.length c0_2] 24 (0,0)) (nB Zd.out) hb);clear hb hbox hg) | ((with_reducible refine gate_dst (N:=3) rfl ?_);refine box1 (N:=3) (cs:=#[.int .i64 0,.int .i64 0,.slice none 0 0]) (t:=29) ?_;intro Zc hg w5 hbox hb;have Ze:=aQ (hbox);have ZW:=aQ ((by rw [hg];exact (below_size bB):w.heap.size ≤ Zc));have ZX:=aQ ((by rw [hg];exact (below_size bB):w.heap.size ≤ Zc));replace HB:=aQ (below_step bB hb);have Zj:=aQ ((by rw [hg];exact Nat.ne_of_lt (blk_lt (g:=Zb) (o:=.cells #[.int .i64 a0_0,.int .i64 a0_1,.slice A0_2 l0_2.length c0_2] 24 (0,0)) (nB Zd.out)):Zb ≠ Zc));have Zk:=aQ ((by rw [hg];exact Nat.ne_of_gt (blk_lt (g:=Zb) (o:=.cells #[.int .i64 a0_0,.int .i64 a0_1,.slice A0_2 l0_2.length c0_2] 24 (0,0)) (nB Zd.out)):Zc ≠ Zb));replace Zd:=aQ (blk_below (g:=Zb) (o:=.cells #[.int .i64 a0_0,.int .i64 a0_1,.slice A0_2 l0_2.length c0_2] 24 (0,0)) (nB Zd.out) hb);have Zg:=aQ ((by rw [hg];exact Nat.ne_of_lt (blk_lt (g:=Za) (o:=.cells #[.int .i64 0,.int .i64 0,.slice none 0 0] 29 (0,0)) (nB Zf.out)):Za ≠ Zc));have Zl:=aQ ((by rw [hg];exact Nat.ne_of_gt (blk_lt (g:=Za) (o:=.cells #[.int .i64 0,.int .i64 0,.slice none 0 0] 29 (0,0)) (nB Zf.out)):Zc ≠ Za));replace Zf:=aQ (blk_below (g:=Za) (o:=.cells #[.int .i64 0,.int .i64 0,.slice none 0 0] 29 (0,0)) (nB Zf.out) hb);clear hb hbox hg;have ZY:=Zh.out;have ZZ:=Zi.out;have Ya:=Zj.out;have Yb:=Zk.out;have ZM:w5.cell? ⟨Zb,0,none⟩ = some (.int .i64 a0_0):=(blk_cell Zd.out 0).trans rfl;have ZN:w5.cell? ⟨Zb,1,none⟩ = some (.int .i64 a0_1):=(blk_cell Zd.out 1).trans rfl;have ZO:w5.cell? ⟨Zb,2,none⟩ = some (.slice A0_2 l0_2.length c0_2):=(blk_cell Zd.out 2).trans rfl;have ZP:=blk_frozen Zd.out 0;have ZQ:=blk_frozen Zd.out 1;have ZR:=blk_frozen Zd.out 2;have Yc:=Zl.out;have Yd:=Zg.out;have Zu:w5.cell? ⟨Zc,0,none⟩ = some (.int .i64 0):=(blk_cell Ze.out 0).trans rfl;have Zv:w5.cell? ⟨Zc,1,none⟩ = some (.int .i64 0):=(blk_cell Ze.out 1).trans rfl;have Zw:w5.cell? ⟨Zc,2,none⟩ = some (.slice none 0 0):=(blk_cell Ze.out 2).trans rfl;have Zx:=blk_frozen Ze.out 0;have Zy:=blk_frozen Ze.out 1;have Zz:=blk_frozen Ze.out 2) | ((with_reducible refine gate_callee (f:=41) rfl ?_);refine goesL_ (some 12) rfl rfl Try.func41 (by kernel_rfl) rfl #[.slice A0_2 l0_2.length c0_2] rfl mP ?_;(with_reducible refine (ihS k (Nat.le_refl _) _ _ l0_2 t147 _ ?Zr ?Zs A2.out).mono ?_);(case Zr=>exact Kd.C_below Zp.out bB);(case Zs=>exact Zq.out);rintro e w11 ⟨v148,rfl,ho0,hb⟩;refine ⟨_,rfl,?_⟩;have Zo:=aQ (Kd.R_lower (Kd.R_newB (Kd.R_newB ho0 (g:=Za) (o:=.cells #[.int .i64 0,.int .i64 0,.slice none 0 0] 29 (0,0)) bF) (g:=Zc) (o:=.cells #[.int .i64 a0_0,.int .i64 a0_1,.slice none 0 0] 29 (0,0)) bP) (below_size bB));replace Zd:=aQ (blk_below (g:=Zb) (o:=.cells #[.int .i64 a0_0,.int .i64 a0_1,.slice A0_2 l0_2.length c0_2] 24 (0,0)) bF hb);replace Zf:=aQ (blk_below (g:=Za) (o:=.cells #[.int .i64 0,.int .i64 0,.slice none 0 0] 29 (0,0)) bF hb);replace Ze:=aQ (blk_below (g:=Zc) (o:=.cells #[.int .i64 a0_0,.int .i64 a0_1,.slice none 0 0] 29 (0,0)) bP hb);replace HB:=aQ (below_step bB hb);(try clear hb);(try clear ho0);obtain ⟨Zm,Zn,Zt⟩:=Kd.R_slice Zo.out;subst Zt;have ZA:w11.cell? ⟨Zc,0,none⟩ = some (.int .i64 a0_0):=(blk_cell Ze.out 0).trans rfl;have ZB:w11.cell? ⟨Zc,1,none⟩ = some (.int .i64 a0_1):=(blk_cell Ze.out 1).trans rfl;have ZC:w11.cell? ⟨Zc,2,none⟩ = some (.slice none 0 0):=(blk_cell Ze.out 2).trans rfl;have ZD:=blk_frozen Ze.out 0;have ZE:=blk_frozen Ze.out 1;have ZF:=blk_frozen Ze.out 2;have ZG:w11.cell? ⟨Za,0,none⟩ = some (.int .i64 0):=(blk_cell Zf.out 0).trans rfl;have ZH:w11.cell? ⟨Za,1,none⟩ = some (.int .i64 0):=(blk_cell Zf.out 1).trans rfl;have ZI:w11.cell? ⟨Za,2,none⟩ = some (.slice none 0 0):=(blk_cell Zf.out 2).trans rfl;have ZJ:=blk_frozen Zf.out 0;have ZK:=blk_frozen Zf.out 1;have ZL:=blk_frozen Zf.out 2))
 refine bodyPost_ret (results_cell_row rfl _ _ Za 29 #[.int .i64 a0_0,.int .i64 a0_1,.slice Zm t147.length Zn] (0,0) _ rfl (by (with_reducible repeat (first | refine blk_drewN ?_ _ | refine blk_drew ?_ | refine blk_alloc ?_ _));refine blk_put (cs:=#[.int .i64 a0_0,.int .i64 a0_1,.slice none 0 0]) ?_ 2 _ rfl;(with_reducible repeat (first | refine blk_drewN ?_ _ | refine blk_drew ?_ | refine blk_alloc ?_ _));refine blk_put (cs:=#[.int .i64 a0_0,.int .i64 0,.slice none 0 0]) ?_ 1 _ rfl;(with_reducible repeat (first | refine blk_drewN ?_ _ | refine blk_drew ?_ | refine blk_alloc ?_ _));refine blk_put (cs:=#[.int .i64 0,.int .i64 0,.slice none 0 0]) ?_ 0 _ rfl;(with_reducible repeat (first | refine blk_drewN ?_ _ | refine blk_drew ?_ | refine blk_alloc ?_ _));refine blk_far ?_ Zg.out _;(with_reducible repeat (first | refine blk_drewN ?_ _ | refine blk_drew ?_ | refine blk_alloc ?_ _));exact Zf.out) Try.underlying29 rfl (by kernel_rfl)) rfl ?_
 exact ⟨_,rfl,by (with_reducible repeat (first | apply Kd.R_alloc | apply Kd.R_drewN | apply Kd.R_drew));exact Kd.R_mono (Kd.R_far (p:=⟨Za,2,none⟩) (Kd.R_far (p:=⟨Za,1,none⟩) (Kd.R_far (p:=⟨Za,0,none⟩) (Kd.R_far (p:=⟨Zc,2,none⟩) (Kd.R_mono (Kd.R_mono Zo.out (fun k_ hk=>(⟨hk,hk.2⟩:_∧k_ ≠ Zc))) (fun k_ hk=>(⟨hk,hk.1.1.2⟩:_∧k_ ≠ Za))) (fun _ hk=>hk.1.2) (.slice Zm t147.length Zn)) (fun _ hk=>hk.2) (.int .i64 a0_0)) (fun _ hk=>hk.2) (.int .i64 a0_1)) (fun _ hk=>hk.2) (.slice Zm t147.length Zn)) (fun _ hk=>trivial),bB⟩
set_option maxHeartbeats 8000000 in
set_option maxRecDepth 100000 in
theorem laws_toClockS.calls (k:Nat):∀ (A0:Option Addr) (c0:Nat) (l0:List (S24)) (r:List (S29)) (w:World) (hr0:Kd.C k24 w A0 l0.length l0) (hc0:l0.length ≤ c0) (h:laws_toClockS.f k l0 = some r),
  Calls Try.prog 41 #[.slice A0 l0.length c0] w fun e w'=>∃ v0_:Value,e = .returned (v0_)∧Kd.R k29 29 w' w.heap.size (fun _=>True) v0_ r∧Below w.heap.size w w':=by
 induction k using Nat.strongRecOn with
 | _ k ih =>
 intro A0 c0 l0 r w hr0 hc0 h
 cases k with
 | zero=>exact absurd h (by simp [laws_toClockS.f])
 | succ k =>
 simp only [laws_toClockS.f] at h
 have hu24:=Try.underlying24
 have hu29:=Try.underlying29
 have Zy:=aQ hr0
 have ZH:=aQ hc0
 clear hr0 hc0
 have HB:=aQ (Below.refl w.heap.size w)
 have H:=h
 clear h
 by_cases c2:0 ≤ (l0.length:Int);rotate_left
 ·rw [if_neg c2] at H
  exact absurd H (by simp)
 rw [if_pos c2] at H
 have c2b0:=eq_true c2
 have c2b1:decide (0 ≤ (l0.length:Int)) = true:=decide_eq_true c2
 clear c2
 by_cases c3:((l0.length:Int):Int).toNat ≤ 7036874417766;rotate_left
 ·rw [if_neg c3] at H
  exact absurd H (by simp)
 rw [if_pos c3] at H
 have c3b0:=eq_true c3
 have c3b1:decide (((l0.length:Int):Int).toNat ≤ 7036874417766) = true:=decide_eq_true c3
 clear c3
 obtain ⟨y134,Zi⟩:∃ y_:List (S29),y_ = (List.replicate ((l0.length:Int):Int).toNat z29):=⟨_,rfl⟩
 replace H:(laws_toClockS.l0 k l0 y134 0) = some r:=by rw [Zi];exact H
 have Zk:=aQ Zi
 clear Zi
 have H':=aQ H
 clear H
 go_enter Try.func41,Try.ntmps41
 go_wp2_with (first | ((with_reducible refine gate_dst (N:=7) rfl ?_);refine Kd.R_make k29 _ 29 rfl (N:=7) rfl 27 _ _ rfl (l0.length:Int) rfl rfl Try.underlying27 (.agg #[(.int .i64 0),(.int .i64 0),(.slice none 0 0)]) 40 info29 rfl (by decide) (by omega) z29 (ok:=fun _=>True) (okp:=fun _=>True) (k29_mkM _ _ _ z29 (Kd.R_nil _ _ _ _ _)) (fun _ hk=>hk) trivial (of_decide_eq_true (by first | (with_reducible assumption) | assumption)) (Nat.le_trans (Nat.mul_le_mul_right _ (of_decide_eq_true (by first | (with_reducible assumption) | assumption):(l0.length:Int).toNat ≤ 7036874417766)) (by omega)) (Below.refl _ _) (Nat.le_refl _) ?_;intro v135 w4 ho5 hb hg_ hnew_;clear hg_ hnew_;(first | rw [← Zk.out] at ho5 | (simp only [Int.reduceToNat] at ho5;rw [← Zk.out] at ho5));have Zu:=aQ (Kd.R_lower ho5 (below_size bB));replace HB:=aQ (below_step bB hb);clear hb ho5))
 go_loopg [4] k (fun kq v4 w'=>∃ (x3_1:List (S29)) (x4_1:Int),v4 = .int .i64 x4_1∧Aside0 (laws_toClockS.l0 kq l0 x3_1 x4_1 = some r)∧Aside0 (kq ≤ k)∧Aside0 (Kd.R k29 29 w' w.heap.size (fun _=>True) v135 x3_1)∧Aside0 (Below w.heap.size w w'))
 case atStart=>exact ⟨(y134),(0),rfl,H',⟨Nat.le_refl _⟩,⟨nR Zu.out⟩,⟨bB⟩⟩
 case round =>
  clear H'
  try clear c2b0
  try clear c2b1
  try clear c3b0
  try clear c3b1
  repeat (first | clear Za | clear HB)
  obtain ⟨x3_1,x4_1,rfl,HA,HK1,Za,HB⟩:=hrel
  cases gk with
  | zero=>exact absurd HA.out (by simp [laws_toClockS.l0])
  | succ k1 =>
   have H:=HA.out
   clear HA
   simp only [laws_toClockS.l0] at H
   by_cases c6:x4_1 < (l0.length:Int);rotate_left
   ·rw [if_neg c6] at H
    have c6b0:decide (x4_1 < (l0.length:Int)) = false:=decide_eq_false c6
    clear c6
    obtain rfl:=Option.some.inj H
    go_wp2
    go_ret
    exact ⟨_,rfl,by (with_reducible repeat (first | apply Kd.R_alloc | apply Kd.R_drewN | apply Kd.R_drew));exact Za.out,bB⟩
   rw [if_pos c6] at H
   have c6b0:decide (x4_1 < (l0.length:Int)) = true:=decide_eq_true c6
   clear c6
   by_cases c7:0 ≤ x4_1;rotate_left
   ·rw [if_neg c7] at H
    exact absurd H (by simp)
   rw [if_pos c7] at H
   have c7b0:decide (0 ≤ x4_1) = true:=decide_eq_true c7
   clear c7
   obtain ⟨⟨t138,t139,t140⟩,A8,H⟩:=bQ H
   dsimp only at H
   by_cases c9:x4_1 < (x3_1.length:Int);rotate_left
   ·rw [if_neg c9] at H
    exact absurd H (by simp)
   rw [if_pos c9] at H
   have c9b0:decide (x4_1 < (x3_1.length:Int)) = true:=decide_eq_true c9
   clear c9
   obtain ⟨y143,Zj⟩:∃ y_:List (S29),y_ = (x3_1.set (x4_1:Int).toNat (⟨t138,t139,t140⟩:S29)):=⟨_,rfl⟩
   replace H:(laws_toClockS.l0 k1 l0 y143 (wrap64 (x4_1 + 1))) = some r:=by rw [Zj];exact H
   have Zv:=aQ Zj
   clear Zj
   have H':=aQ H
   clear H
   have p137:0 ≤ (x4_1:Int):=of_decide_eq_true (by first | (with_reducible assumption) | assumption)
   have q137:x4_1 < (l0.length:Int):=of_decide_eq_true (by first | (with_reducible assumption) | assumption)
   obtain ⟨ZE,A137_2,c137_2,e137,Zc,Zd,Ze,Zg,Zh⟩:=at_T24 Zy.out x4_1 p137 q137
   cases e137
   replace Zc:=(HB.out.cell (World.block_lt_of_cell? w _ Zc)).trans Zc
   replace Zd:=(HB.out.cell (World.block_lt_of_cell? w _ Zd)).trans Zd
   replace Ze:=(HB.out.cell (World.block_lt_of_cell? w _ Ze)).trans Ze
   have Zm:=aQ Zh
   have Zn:=aQ Zg
   clear Zh Zg
   replace p137:=eq_true p137
   replace q137:=eq_true q137
   go_wp2_with (first | ((with_reducible refine gate_callee (f:=15) rfl ?_);refine goesL_ (some 20) rfl rfl Try.func15 (by kernel_rfl) rfl #[.agg #[.int .i64 ((rd_T24 l0 x4_1).f0),.int .i64 ((rd_T24 l0 x4_1).f1),.slice A137_2 ((rd_T24 l0 x4_1).f2).length c137_2]] rfl mP ?_;(with_reducible refine (laws_toClock.calls_of k1 (fun j_ hj_=>ih j_ (by first | omega | (have:=HK1.out;omega) | (have:=HK1.out;have:=HK2.out;omega))) ((rd_T24 l0 x4_1).f0) ((rd_T24 l0 x4_1).f1) _ _ ((rd_T24 l0 x4_1).f2) t138 t139 t140 _ ?Zw ?Zx A8.out).mono ?_);(case Zw=>repeat (first | exact (Kd.C_below Zm.out HB.out) | (with_reducible refine Kd.C_alloc ?_ _) | (with_reducible refine Kd.C_drewN ?_ _) | (with_reducible refine Kd.C_drew ?_)));(case Zx=>exact Zn.out);rintro e w11 ⟨v141,rfl,ho0,hb⟩;refine ⟨_,rfl,?_⟩;have Zl:=aQ (Kd.R_lower (Kd.R_new' ho0 (Kd.R_lt (nR Za.out))) (below_size bB));replace Za:=aQ (Kd.R_elder' (nR Za.out) (Kd.R_base ho0) hb);replace HB:=aQ (below_step bB hb);(try clear hb);(try clear ho0);have p10:0 ≤ (x4_1:Int):=of_decide_eq_true (by first | (with_reducible assumption) | assumption);have q10:(x4_1:Int) < ((x3_1.length:Int):Int):=of_decide_eq_true (by first | (with_reducible assumption) | assumption);obtain ⟨go10,Zo,Zp,Zq,gl10,cl10,HG10⟩:=Kd.R_form Za.out (by omega);(first | cases Zp | (injection Zp with ea_ en_ ec_;(first | subst ea_ | (injection ea_ with ea_;subst ea_));subst ec_;clear en_));have GB10:=aQ Zq;have GG10:=aQ HG10;clear Zq gl10 HG10;obtain ⟨ZF,hcl10,hM10,Zf,hfr10⟩:=Kd.R_elem Za.out z29 (x4_1:Int) p10 q10;obtain ⟨ve10_2,rfl,Zz⟩:=k29_openM hM10;have ZA:w11.cell? ⟨go10,(x4_1:Int).toNat * 3,none⟩ = some (.int .i64 ((rd_T29 x3_1 x4_1).f0)):=Zf 0 _ rfl;have ZB:w11.cell? ⟨go10,(x4_1:Int).toNat * 3 + 1,none⟩ = some (.int .i64 ((rd_T29 x3_1 x4_1).f1)):=Zf 1 _ rfl;have ZC:w11.cell? ⟨go10,(x4_1:Int).toNat * 3 + 2,none⟩ = some (ve10_2):=Zf 2 _ rfl;have hf10_0:w11.frozen? ⟨go10,(x4_1:Int).toNat * 3,none⟩ = false:=hfr10 0;have hf10_1:w11.frozen? ⟨go10,(x4_1:Int).toNat * 3 + 1,none⟩ = false:=hfr10 1;have hf10_2:w11.frozen? ⟨go10,(x4_1:Int).toNat * 3 + 2,none⟩ = false:=hfr10 2;clear hcl10 Zf hfr10;(try clear hM10);replace p10:=eq_true p10;replace q10:=eq_true q10;have n_:=aQ (Kd.R_mono (ok':=(fun k_=>some k_ ≠ (v141:Value).ownBlock)) Za.out (fun k_ hk=>hk.2));clear Za;have Za:=n_;clear n_;have HX12:=aQ (show Kd.R k29 29 w11 w.heap.size (fun _=>True) (.slice (some ⟨go10,0,none⟩) x3_1.length Zo) x3_1 from (nR (Kd.R_mono Za.out (fun _ hk=>trivial))));obtain ⟨ZG,hcl12,hM12,Zb,hfr12⟩:=Kd.R_elem HX12.out z29 (x4_1:Int) (of_decide_eq_true (by first | (with_reducible assumption) | assumption)) (by have h_:(x4_1:Int) < ((x3_1.length:Int):Int):=of_decide_eq_true (by first | (with_reducible assumption) | assumption);first | exact h_ | (have e_:=(Kd.R_reads' Za.out).1;omega) | simpa using h_);obtain ⟨ve12_2,rfl,ZD⟩:=k29_openM hM12;have HP12:=Kd.R_seg HX12.out (x4_1:Int) (of_decide_eq_true (by first | (with_reducible assumption) | assumption)) (by have h_:(x4_1:Int) < ((x3_1.length:Int):Int):=of_decide_eq_true (by first | (with_reducible assumption) | assumption);first | exact h_ | (have e_:=(Kd.R_reads' Za.out).1;omega) | simpa using h_) (seg:=[.int .i64 t138,.int .i64 t139,v141]) (j:=0) hcl12 Zb (show 3 ≤ 3 from by decide) (x':=(⟨t138,t139,t140⟩:S29)) (k29_mkM _ _ _ (⟨t138,t139,t140⟩:S29) (Kd.R_mono (Zl.out) (fun k_ hk=>⟨trivial,fun e_=>(hk.2) (by rw [e_];rfl)⟩))) (fun _ hk=>hk);have Zr:=Zb 0 _ rfl;(try simp only [show (k29).sz = 3 from rfl,Nat.mul_one,Nat.add_zero] at Zr);have hf12_0:=hfr12 0;(try simp only [show (k29).sz = 3 from rfl,Nat.mul_one,Nat.add_zero] at hf12_0);have Zs:=Zb 1 _ rfl;(try simp only [show (k29).sz = 3 from rfl,Nat.mul_one,Nat.add_zero] at Zs);have hf12_1:=hfr12 1;(try simp only [show (k29).sz = 3 from rfl,Nat.mul_one,Nat.add_zero] at hf12_1);have Zt:=Zb 2 _ rfl;(try simp only [show (k29).sz = 3 from rfl,Nat.mul_one,Nat.add_zero] at Zt);have hf12_2:=hfr12 2;(try simp only [show (k29).sz = 3 from rfl,Nat.mul_one,Nat.add_zero] at hf12_2);clear hcl12 Zb hfr12;(try clear hM12)) | ((with_reducible refine gate_store (t:=29) (p:=21) rfl ?_);refine store_event (t:=29) (p:=21) (v:=?vo_w13) (w1:=(((w11.setCell ⟨go10,(x4_1:Int).toNat * 3,none⟩ (.int .i64 t138)).setCell ⟨go10,(x4_1:Int).toNat * 3 + 1,none⟩ (.int .i64 t139)).setCell ⟨go10,(x4_1:Int).toNat * 3 + 2,none⟩ (v141))) ?hg ?ho ?hn ?hr ?_;(case ho=>rfl);(case hg=>rfl);(case hn=>rfl);(case hr=>first | (go_simp;done) | (go_simp;rfl) | (obtain ⟨Ax_,cx_,ex_⟩:=Kd.R_slice (v:=v141) (Aside0.out (by assumption));subst ex_;first | (go_simp;done) | (go_simp;rfl)) | (obtain ⟨Ax_,cx_,ex_⟩:=Kd.S_slice (v:=v141) (Aside0.out (by assumption));subst ex_;first | (go_simp;done) | (go_simp;rfl)));intro w13 hw;have hg:w11.grownBy w13 (some go10):=(by rw [hw];exact HP12.2);have hp_:Kd.R k29 29 w13 w.heap.size (fun _=>True) (.slice (some ⟨go10,0,none⟩) x3_1.length Zo) y143:=(by rw [hw,Zv.out];exact HP12.1);clear HP12;have n0_:=aQ (hp_);have n1_:=aQ ((by rw [hw];exact below_set (below_set (below_set (HB.out) GB10.out) GB10.out) GB10.out:Below w.heap.size w w13));clear Za;clear HB;clear Zl;have Za:=n0_;have HB:=n1_;clear n0_ n1_;clear hg hw hp_))
   go_roundg k1
   case measure=>have:=HK1.out;omega
   case rel=>exact ⟨(y143),(wrap64 (x4_1 + 1)),rfl,H',⟨by have:=HK1.out;omega⟩,⟨nR Za.out⟩,⟨bB⟩⟩
theorem laws_toClock.calls (k:Nat) (a0_0:Int) (a0_1:Int) (A0_2:Option Addr) (c0_2:Nat) (l0_2:List (S24)) (r1:Int) (r2:Int) (r3:List (S29)) (w:World) (hr0_2:Kd.C k24 w A0_2 l0_2.length l0_2) (hc0_2:l0_2.length ≤ c0_2) (h:laws_toClock.f k a0_0 a0_1 l0_2 = some (r1,r2,r3)) :
  Calls Try.prog 15 #[.agg #[.int .i64 a0_0,.int .i64 a0_1,.slice A0_2 l0_2.length c0_2]] w fun e w'=>∃ v2_:Value,e = .returned (.agg #[.int .i64 r1,.int .i64 r2,v2_])∧Kd.R k29 29 w' w.heap.size (fun _=>True) v2_ r3∧Below w.heap.size w w':=laws_toClock.calls_of k (fun j_ _=>laws_toClockS.calls j_) a0_0 a0_1 A0_2 c0_2 l0_2 r1 r2 r3 w hr0_2 hc0_2 h
def laws_eqClock.body (g:List (S29) → List (S29) → Option (Bool)) (a0_0:Int) (a0_1:Int) (l0_2:List (S29)) (a1_0:Int) (a1_1:Int) (l1_2:List (S29)):Option (Bool):=if a0_0 = a1_0 then (if a0_1 = a1_1 then ((g l0_2 l1_2).bind fun t168=>(if t168 = true then (some true) else (some false))) else (some false)) else (some false)
theorem laws_eqClock.body_mono {g g':List (S29) → List (S29) → Option (Bool)} (hg:∀ y0 y1,LeO (g y0 y1) (g' y0 y1)):∀ a0_0 a0_1 l0_2 a1_0 a1_1 l1_2,LeO (laws_eqClock.body g a0_0 a0_1 l0_2 a1_0 a1_1 l1_2) (laws_eqClock.body g' a0_0 a0_1 l0_2 a1_0 a1_1 l1_2):=by
 intro a0_0 a0_1 l0_2 a1_0 a1_1 l1_2
 unfold laws_eqClock.body
 repeat' first
   | (with_reducible exact hg _ _)
   | (with_reducible exact LeO.refl _)
   | (with_reducible exact LeO.none _)
   | (with_reducible refine LeO.ite ?_ ?_)
   | (with_reducible refine LeO.bind ?_ (fun _=>?_))
   | exact hg _ _
   | exact LeO.none _
   | refine LeO.ite ?_ ?_
   | refine LeO.bind ?_ (fun _=>?_)
mutual
def laws_eqClockS.l0:Nat → List (S29) → List (S29) → Int → Option (Bool)
 | 0,_,_,_=>none
 | k + 1,x0,x1,x5=>if x5 < (x0.length:Int) then (if 0 ≤ x5 then (if x5 < (x1.length:Int) then ((laws_eqClock.body (fun y0 y1=>laws_eqClockS.f k y0 y1) ((rd_T29 x0 x5).f0) ((rd_T29 x0 x5).f1) ((rd_T29 x0 x5).f2) ((rd_T29 x1 x5).f0) ((rd_T29 x1 x5).f1) ((rd_T29 x1 x5).f2)).bind fun t165=>(if t165 = true then (laws_eqClockS.l0 k x0 x1 (wrap64 (x5 + 1))) else (some false))) else (none)) else (none)) else (some true)
def laws_eqClockS.f:Nat → List (S29) → List (S29) → Option (Bool)
 | 0,_,_=>none
 | k + 1,l0,l1=>if (l0.length:Int) = (l1.length:Int) then (laws_eqClockS.l0 k l0 l1 0) else (some false)
end
abbrev laws_eqClock.f (k:Nat) (a0_0:Int) (a0_1:Int) (l0_2:List (S29)) (a1_0:Int) (a1_1:Int) (l1_2:List (S29)):Option (Bool):=laws_eqClock.body (fun y0 y1=>laws_eqClockS.f k y0 y1) a0_0 a0_1 l0_2 a1_0 a1_1 l1_2
theorem laws_eqClockS.mono_l:∀ k,(∀ y0 y1,LeO (laws_eqClockS.f k y0 y1) (laws_eqClockS.f (k + 1) y0 y1))∧(∀ y0 y1 y2,LeO (laws_eqClockS.l0 k y0 y1 y2) (laws_eqClockS.l0 (k + 1) y0 y1 y2))
 | 0=>⟨fun _ _ r h=>by simp [laws_eqClockS.f] at h,fun _ _ _ r h=>by simp [laws_eqClockS.l0] at h⟩
 | k + 1=>by
  obtain ⟨ih0,ih1⟩:=laws_eqClockS.mono_l k
  refine ⟨?_,?_⟩
  ·intro y0 y1
   unfold laws_eqClockS.f
   repeat' first
   | (with_reducible exact ih0 _ _)
   | (with_reducible exact ih1 _ _ _)
   | (with_reducible exact laws_eqClock.body_mono (fun y0 y1=>ih0 y0 y1) _ _ _ _ _ _)
   | (with_reducible exact LeO.refl _)
   | (with_reducible exact LeO.none _)
   | (with_reducible refine LeO.ite ?_ ?_)
   | (with_reducible refine LeO.bind ?_ (fun _=>?_))
   | exact ih0 _ _
   | exact ih1 _ _ _
   | exact LeO.none _
   | refine LeO.ite ?_ ?_
   | refine LeO.bind ?_ (fun _=>?_)
  ·intro y0 y1 y2
   unfold laws_eqClockS.l0
   repeat' first
   | (with_reducible exact ih0 _ _)
   | (with_reducible exact ih1 _ _ _)
   | (with_reducible exact laws_eqClock.body_mono (fun y0 y1=>ih0 y0 y1) _ _ _ _ _ _)
   | (with_reducible exact LeO.refl _)
   | (with_reducible exact LeO.none _)
   | (with_reducible refine LeO.ite ?_ ?_)
   | (with_reducible refine LeO.bind ?_ (fun _=>?_))
   | exact ih0 _ _
   | exact ih1 _ _ _
   | exact LeO.none _
   | refine LeO.ite ?_ ?_
   | refine LeO.bind ?_ (fun _=>?_)
theorem laws_eqClockS.mono:∀ a0 a1 k,LeO (laws_eqClockS.f k a0 a1) (laws_eqClockS.f (k + 1) a0 a1):=by
 intro a0 a1 k
 obtain ⟨ih0,ih1⟩:=laws_eqClockS.mono_l k
 exact ih0 a0 a1
def laws_eqClockS.T6:Bool × List (List Nat × List Nat):=(true,[([],[]),([],[]),([0,1],[0,1]),([2],[2]),([],[]),([],[]),([4,5],[4,5]),([6],[6]),([3,7],[3,7]),([8],[8])])
def laws_eqClockS.B6:List Nat:=[0,0,3,7,0,0,48,112,255,511]
theorem laws_eqClockS.tab6:rtab .any (opsOf Try.f44 6) = laws_eqClockS.T6:=by kernel_rfl
theorem laws_eqClockS.bits6:waitsOk laws_eqClockS.T6.2 laws_eqClockS.B6 = true:=by kernel_rfl
theorem laws_eqClock.mono:∀ a0_0 a0_1 l0_2 a1_0 a1_1 l1_2 k,LeO (laws_eqClock.f k a0_0 a0_1 l0_2 a1_0 a1_1 l1_2) (laws_eqClock.f (k + 1) a0_0 a0_1 l0_2 a1_0 a1_1 l1_2):=fun a0_0 a0_1 l0_2 a1_0 a1_1 l1_2 k=>laws_eqClock.body_mono (fun y0 y1=>laws_eqClockS.mono y0 y1 k) a0_0 a0_1 l0_2 a1_0 a1_1 l1_2
abbrev laws_eqClockS.Con (k:Nat):Prop:=∀ (A0:Option Addr) (c0:Nat) (l0:List (S29)) (A1:Option Addr) (c1:Nat) (l1:List (S29)) (r:Bool) (w:World) (hr0:Kd.C k29 w A0 l0.length l0) (hc0:l0.length ≤ c0) (hr1:Kd.C k29 w A1 l1.length l1) (hc1:l1.length ≤ c1) (h:laws_eqClockS.f k l0 l1 = some r),
  Calls Try.prog 44 #[.slice A0 l0.length c0,.slice A1 l1.length c1] w fun e w'=>e = .returned (.bool r)∧Below w.heap.size w w'
set_option maxHeartbeats 8000000 in
set_option maxRecDepth 100000 in
theorem laws_eqClock.calls_of (k:Nat) (ihS:∀ j_,j_ ≤ k → laws_eqClockS.Con j_) (a0_0:Int) (a0_1:Int) (A0_2:Option Addr) (c0_2:Nat) (l0_2:List (S29)) (a1_0:Int) (a1_1:Int) (A1_2:Option Addr) (c1_2:Nat) (l1_2:List (S29)) (r:Bool) (w:World) (hr0_2:Kd.C k29 w A0_2 l0_2.length l0_2) (hc0_2:l0_2.length ≤ c0_2) (hr1_2:Kd.C k29 w A1_2 l1_2.length l1_2) (hc1_2:l1_2.length ≤ c1_2) (h:laws_eqClock.f k a0_0 a0_1 l0_2 a1_0 a1_1 l1_2 = some r) :
  Calls Try.prog 17 #[.agg #[.int .i64 a0_0,.int .i64 a0_1,.slice A0_2 l0_2.length c0_2],.agg #[.int .i64 a1_0,.int .i64 a1_1,.slice A1_2 l1_2.length c1_2]] w fun e w'=>e = .returned (.bool r)∧Below w.heap.size w w':=by
 have hu29:=Try.underlying29
 have Zo:=aQ hr0_2
 have Zp:=aQ hc0_2
 clear hr0_2 hc0_2
 have Zq:=aQ hr1_2
 have Zr:=aQ hc1_2
 clear hr1_2 hc1_2
 have HB:=aQ (Below.refl w.heap.size w)
 have H:(if a0_0 = a1_0 then (if a0_1 = a1_1 then ((laws_eqClockS.f k l0_2 l1_2).bind fun t168=>(if t168 = true then (some true) else (some false))) else (some false)) else (some false)) = some r:=h
 clear h
 by_cases c3:a0_0 = a1_0;rotate_left
 ·rw [if_neg c3] at H
  have c3b0:(a0_0 == a1_0) = false:=beq_eq_false_iff_ne.mpr c3
  have c3b1:(a0_0 != a1_0) = true:=bne_iff_ne.mpr c3
  obtain rfl:=Option.some.inj H
  go_enter Try.func17,Try.ntmps17
  go_wp2_with (first | ((with_reducible refine gate_dst (N:=2) rfl ?_);refine box1 (N:=2) (cs:=#[.int .i64 a0_0,.int .i64 a0_1,.slice A0_2 l0_2.length c0_2]) (t:=29) ?_;intro Zb hg w24 hbox hb;have Za:=aQ (hbox);have Zg:=aQ ((by rw [hg];exact (below_size bB):w.heap.size ≤ Zb));have Zh:=aQ ((by rw [hg];exact (below_size bB):w.heap.size ≤ Zb));replace HB:=aQ (below_step bB hb);clear hb hbox hg) | ((with_reducible refine gate_dst (N:=3) rfl ?_);refine box1 (N:=3) (cs:=#[.int .i64 a1_0,.int .i64 a1_1,.slice A1_2 l1_2.length c1_2]) (t:=29) ?_;intro Zc hg w25 hbox hb;have Zd:=aQ (hbox);have Zi:=aQ ((by rw [hg];exact (below_size bB):w.heap.size ≤ Zc));have Zj:=aQ ((by rw [hg];exact (below_size bB):w.heap.size ≤ Zc));replace HB:=aQ (below_step bB hb);have Ze:=aQ ((by rw [hg];exact Nat.ne_of_lt (blk_lt (g:=Zb) (o:=.cells #[.int .i64 a0_0,.int .i64 a0_1,.slice A0_2 l0_2.length c0_2] 29 (0,0)) (nB Za.out)):Zb ≠ Zc));have Zf:=aQ ((by rw [hg];exact Nat.ne_of_gt (blk_lt (g:=Zb) (o:=.cells #[.int .i64 a0_0,.int .i64 a0_1,.slice A0_2 l0_2.length c0_2] 29 (0,0)) (nB Za.out)):Zc ≠ Zb));replace Za:=aQ (blk_below (g:=Zb) (o:=.cells #[.int .i64 a0_0,.int .i64 a0_1,.slice A0_2 l0_2.length c0_2] 29 (0,0)) (nB Za.out) hb);clear hb hbox hg;have Yo:=Ze.out;have Yp:=Zf.out;have Zs:w25.cell? ⟨Zb,0,none⟩ = some (.int .i64 a0_0):=(blk_cell Za.out 0).trans rfl;have Zt:w25.cell? ⟨Zb,1,none⟩ = some (.int .i64 a0_1):=(blk_cell Za.out 1).trans rfl;have Zu:w25.cell? ⟨Zb,2,none⟩ = some (.slice A0_2 l0_2.length c0_2):=(blk_cell Za.out 2).trans rfl;have Zv:=blk_frozen Za.out 0;have Zw:=blk_frozen Za.out 1;have Zx:=blk_frozen Za.out 2;have Zy:w25.cell? ⟨Zc,0,none⟩ = some (.int .i64 a1_0):=(blk_cell Zd.out 0).trans rfl;have Zz:w25.cell? ⟨Zc,1,none⟩ = some (.int .i64 a1_1):=(blk_cell Zd.out 1).trans rfl;have ZA:w25.cell? ⟨Zc,2,none⟩ = some (.slice A1_2 l1_2.length c1_2):=(blk_cell Zd.out 2).trans rfl;have ZB:=blk_frozen Zd.out 0;have ZC:=blk_frozen Zd.out 1;have ZD:=blk_frozen Zd.out 2))
  go_ret
  exact ⟨rfl,bB⟩
 rw [if_pos c3] at H
 have c3b0:(a0_0 == a1_0) = true:=beq_iff_eq.mpr c3
 have c3b1:(a0_0 != a1_0) = false:=bne_eq_false_iff_eq.mpr c3
 clear c3
 by_cases c4:a0_1 = a1_1;rotate_left
 ·rw [if_neg c4] at H
  have c4b0:(a0_1 == a1_1) = false:=beq_eq_false_iff_ne.mpr c4
  have c4b1:(a0_1 != a1_1) = true:=bne_iff_ne.mpr c4
  obtain rfl:=Option.some.inj H
  go_enter Try.func17,Try.ntmps17
  go_wp2_with (first | ((with_reducible refine gate_dst (N:=2) rfl ?_);refine box1 (N:=2) (cs:=#[.int .i64 a0_0,.int .i64 a0_1,.slice A0_2 l0_2.length c0_2]) (t:=29) ?_;intro Zb hg w19 hbox hb;have Za:=aQ (hbox);have Zg:=aQ ((by rw [hg];exact (below_size bB):w.heap.size ≤ Zb));have Zh:=aQ ((by rw [hg];exact (below_size bB):w.heap.size ≤ Zb));replace HB:=aQ (below_step bB hb);clear hb hbox hg) | ((with_reducible refine gate_dst (N:=3) rfl ?_);refine box1 (N:=3) (cs:=#[.int .i64 a1_0,.int .i64 a1_1,.slice A1_2 l1_2.length c1_2]) (t:=29) ?_;intro Zc hg w20 hbox hb;have Zd:=aQ (hbox);have Zi:=aQ ((by rw [hg];exact (below_size bB):w.heap.size ≤ Zc));have Zj:=aQ ((by rw [hg];exact (below_size bB):w.heap.size ≤ Zc));replace HB:=aQ (below_step bB hb);have Ze:=aQ ((by rw [hg];exact Nat.ne_of_lt (blk_lt (g:=Zb) (o:=.cells #[.int .i64 a0_0,.int .i64 a0_1,.slice A0_2 l0_2.length c0_2] 29 (0,0)) (nB Za.out)):Zb ≠ Zc));have Zf:=aQ ((by rw [hg];exact Nat.ne_of_gt (blk_lt (g:=Zb) (o:=.cells #[.int .i64 a0_0,.int .i64 a0_1,.slice A0_2 l0_2.length c0_2] 29 (0,0)) (nB Za.out)):Zc ≠ Zb));replace Za:=aQ (blk_below (g:=Zb) (o:=.cells #[.int .i64 a0_0,.int .i64 a0_1,.slice A0_2 l0_2.length c0_2] 29 (0,0)) (nB Za.out) hb);clear hb hbox hg;have Yq:=Ze.out;have Yr:=Zf.out;have ZE:w20.cell? ⟨Zb,0,none⟩ = some (.int .i64 a0_0):=(blk_cell Za.out 0).trans rfl;have ZF:w20.cell? ⟨Zb,1,none⟩ = some (.int .i64 a0_1):=(blk_cell Za.out 1).trans rfl;have ZG:w20.cell? ⟨Zb,2,none⟩ = some (.slice A0_2 l0_2.length c0_2):=(blk_cell Za.out 2).trans rfl;have ZH:=blk_frozen Za.out 0;have ZI:=blk_frozen Za.out 1;have ZJ:=blk_frozen Za.out 2;have ZK:w20.cell? ⟨Zc,0,none⟩ = some (.int .i64 a1_0):=(blk_cell Zd.out 0).trans rfl;have ZL:w20.cell? ⟨Zc,1,none⟩ = some (.int .i64 a1_1):=(blk_cell Zd.out 1).trans rfl;have ZM:w20.cell? ⟨Zc,2,none⟩ = some (.slice A1_2 l1_2.length c1_2):=(blk_cell Zd.out 2).trans rfl;have ZN:=blk_frozen Zd.out 0;have ZO:=blk_frozen Zd.out 1;have ZP:=blk_frozen Zd.out 2))
  go_ret
  exact ⟨eW,bB⟩
 rw [if_pos c4] at H
 have c4b0:(a0_1 == a1_1) = true:=beq_iff_eq.mpr c4
 have c4b1:(a0_1 != a1_1) = false:=bne_eq_false_iff_eq.mpr c4
 clear c4
 obtain ⟨t168,A5,H⟩:=bQ H
 (try dsimp only at H)
 by_cases c6:t168 = true
 ·subst c6
  have H1:(some true) = some r:=by rw [if_pos rfl] at H;exact H
  clear H
  have H:=H1
  clear H1
  obtain rfl:=Option.some.inj H
  go_enter Try.func17,Try.ntmps17
  go_wp2_with (first | ((with_reducible refine gate_dst (N:=2) rfl ?_);refine box1 (N:=2) (cs:=#[.int .i64 a0_0,.int .i64 a0_1,.slice A0_2 l0_2.length c0_2]) (t:=29) ?_;intro Zb hg w7 hbox hb;have Za:=aQ (hbox);have Zg:=aQ ((by rw [hg];exact (below_size bB):w.heap.size ≤ Zb));have Zh:=aQ ((by rw [hg];exact (below_size bB):w.heap.size ≤ Zb));replace HB:=aQ (below_step bB hb);clear hb hbox hg) | ((with_reducible refine gate_dst (N:=3) rfl ?_);refine box1 (N:=3) (cs:=#[.int .i64 a1_0,.int .i64 a1_1,.slice A1_2 l1_2.length c1_2]) (t:=29) ?_;intro Zc hg w8 hbox hb;have Zd:=aQ (hbox);have Zi:=aQ ((by rw [hg];exact (below_size bB):w.heap.size ≤ Zc));have Zj:=aQ ((by rw [hg];exact (below_size bB):w.heap.size ≤ Zc));replace HB:=aQ (below_step bB hb);have Ze:=aQ ((by rw [hg];exact Nat.ne_of_lt (blk_lt (g:=Zb) (o:=.cells #[.int .i64 a0_0,.int .i64 a0_1,.slice A0_2 l0_2.length c0_2] 29 (0,0)) (nB Za.out)):Zb ≠ Zc));have Zf:=aQ ((by rw [hg];exact Nat.ne_of_gt (blk_lt (g:=Zb) (o:=.cells #[.int .i64 a0_0,.int .i64 a0_1,.slice A0_2 l0_2.length c0_2] 29 (0,0)) (nB Za.out)):Zc ≠ Zb));replace Za:=aQ (blk_below (g:=Zb) (o:=.cells #[.int .i64 a0_0,.int .i64 a0_1,.slice A0_2 l0_2.length c0_2] 29 (0,0)) (nB Za.out) hb);clear hb hbox hg;have Yu:=Ze.out;have Yv:=Zf.out;have ZQ:w8.cell? ⟨Zb,0,none⟩ = some (.int .i64 a0_0):=(blk_cell Za.out 0).trans rfl;have ZR:w8.cell? ⟨Zb,1,none⟩ = some (.int .i64 a0_1):=(blk_cell Za.out 1).trans rfl;have ZS:w8.cell? ⟨Zb,2,none⟩ = some (.slice A0_2 l0_2.length c0_2):=(blk_cell Za.out 2).trans rfl;have ZT:=blk_frozen Za.out 0;have ZU:=blk_frozen Za.out 1;have ZV:=blk_frozen Za.out 2;have ZW:w8.cell? ⟨Zc,0,none⟩ = some (.int .i64 a1_0):=(blk_cell Zd.out 0).trans rfl;have ZX:w8.cell? ⟨Zc,1,none⟩ = some (.int .i64 a1_1):=(blk_cell Zd.out 1).trans rfl;have ZY:w8.cell? ⟨Zc,2,none⟩ = some (.slice A1_2 l1_2.length c1_2):=(blk_cell Zd.out 2).trans rfl;have ZZ:=blk_frozen Zd.out 0;have Ya:=blk_frozen Zd.out 1;have Yb:=blk_frozen Zd.out 2) | ((with_reducible refine gate_callee (f:=44) rfl ?_);refine goesL_ (some 19) rfl rfl Try.func44 (by kernel_rfl) rfl #[.slice A0_2 l0_2.length c0_2,.slice A1_2 l1_2.length c1_2] rfl mP ?_;(with_reducible refine (ihS k (Nat.le_refl _) _ _ l0_2 _ _ l1_2 true _ ?Zk ?Zl ?Zm ?Zn A5.out).mono ?_);(case Zk=>repeat (first | exact (Kd.C_below Zo.out HB.out) | (with_reducible refine Kd.C_alloc ?_ _) | (with_reducible refine Kd.C_drewN ?_ _) | (with_reducible refine Kd.C_drew ?_)));(case Zl=>exact Zp.out);(case Zm=>repeat (first | exact (Kd.C_below Zq.out HB.out) | (with_reducible refine Kd.C_alloc ?_ _) | (with_reducible refine Kd.C_drewN ?_ _) | (with_reducible refine Kd.C_drew ?_)));(case Zn=>exact Zr.out);rintro e w12 ⟨rfl,hb⟩;refine ⟨_,rfl,?_⟩;replace Za:=aQ (blk_below (g:=Zb) (o:=.cells #[.int .i64 a0_0,.int .i64 a0_1,.slice A0_2 l0_2.length c0_2] 29 (0,0)) (nB Za.out) hb);replace Zd:=aQ (blk_below (g:=Zc) (o:=.cells #[.int .i64 a1_0,.int .i64 a1_1,.slice A1_2 l1_2.length c1_2] 29 (0,0)) (nB Zd.out) hb);replace HB:=aQ (below_step bB hb);(try clear hb)))
  go_ret
  exact ⟨rfl,bB⟩
 ·replace c6:=Bool.eq_false_iff.mpr c6
  subst c6
  have H1:(some false) = some r:=by rw [if_neg (show ¬ (false = true) by decide)] at H;exact H
  clear H
  have H:=H1
  clear H1
  obtain rfl:=Option.some.inj H
  go_enter Try.func17,Try.ntmps17
  go_wp2_with (first | ((with_reducible refine gate_dst (N:=2) rfl ?_);refine box1 (N:=2) (cs:=#[.int .i64 a0_0,.int .i64 a0_1,.slice A0_2 l0_2.length c0_2]) (t:=29) ?_;intro Zb hg w13 hbox hb;have Za:=aQ (hbox);have Zg:=aQ ((by rw [hg];exact (below_size bB):w.heap.size ≤ Zb));have Zh:=aQ ((by rw [hg];exact (below_size bB):w.heap.size ≤ Zb));replace HB:=aQ (below_step bB hb);clear hb hbox hg) | ((with_reducible refine gate_dst (N:=3) rfl ?_);refine box1 (N:=3) (cs:=#[.int .i64 a1_0,.int .i64 a1_1,.slice A1_2 l1_2.length c1_2]) (t:=29) ?_;intro Zc hg w14 hbox hb;have Zd:=aQ (hbox);have Zi:=aQ ((by rw [hg];exact (below_size bB):w.heap.size ≤ Zc));have Zj:=aQ ((by rw [hg];exact (below_size bB):w.heap.size ≤ Zc));replace HB:=aQ (below_step bB hb);have Ze:=aQ ((by rw [hg];exact Nat.ne_of_lt (blk_lt (g:=Zb) (o:=.cells #[.int .i64 a0_0,.int .i64 a0_1,.slice A0_2 l0_2.length c0_2] 29 (0,0)) (nB Za.out)):Zb ≠ Zc));have Zf:=aQ ((by rw [hg];exact Nat.ne_of_gt (blk_lt (g:=Zb) (o:=.cells #[.int .i64 a0_0,.int .i64 a0_1,.slice A0_2 l0_2.length c0_2] 29 (0,0)) (nB Za.out)):Zc ≠ Zb));replace Za:=aQ (blk_below (g:=Zb) (o:=.cells #[.int .i64 a0_0,.int .i64 a0_1,.slice A0_2 l0_2.length c0_2] 29 (0,0)) (nB Za.out) hb);clear hb hbox hg;have Ys:=Ze.out;have Yt:=Zf.out;have Yc:w14.cell? ⟨Zb,0,none⟩ = some (.int .i64 a0_0):=(blk_cell Za.out 0).trans rfl;have Yd:w14.cell? ⟨Zb,1,none⟩ = some (.int .i64 a0_1):=(blk_cell Za.out 1).trans rfl;have Ye:w14.cell? ⟨Zb,2,none⟩ = some (.slice A0_2 l0_2.length c0_2):=(blk_cell Za.out 2).trans rfl;have Yf:=blk_frozen Za.out 0;have Yg:=blk_frozen Za.out 1;have Yh:=blk_frozen Za.out 2;have Yi:w14.cell? ⟨Zc,0,none⟩ = some (.int .i64 a1_0):=(blk_cell Zd.out 0).trans rfl;have Yj:w14.cell? ⟨Zc,1,none⟩ = some (.int .i64 a1_1):=(blk_cell Zd.out 1).trans rfl;have Yk:w14.cell? ⟨Zc,2,none⟩ = some (.slice A1_2 l1_2.length c1_2):=(blk_cell Zd.out 2).trans rfl;have Yl:=blk_frozen Zd.out 0;have Ym:=blk_frozen Zd.out 1;have Yn:=blk_frozen Zd.out 2) | ((with_reducible refine gate_callee (f:=44) rfl ?_);refine goesL_ (some 19) rfl rfl Try.func44 (by kernel_rfl) rfl #[.slice A0_2 l0_2.length c0_2,.slice A1_2 l1_2.length c1_2] rfl mP ?_;(with_reducible refine (ihS k (Nat.le_refl _) _ _ l0_2 _ _ l1_2 false _ ?Zk ?Zl ?Zm ?Zn A5.out).mono ?_);(case Zk=>repeat (first | exact (Kd.C_below Zo.out HB.out) | (with_reducible refine Kd.C_alloc ?_ _) | (with_reducible refine Kd.C_drewN ?_ _) | (with_reducible refine Kd.C_drew ?_)));(case Zl=>exact Zp.out);(case Zm=>repeat (first | exact (Kd.C_below Zq.out HB.out) | (with_reducible refine Kd.C_alloc ?_ _) | (with_reducible refine Kd.C_drewN ?_ _) | (with_reducible refine Kd.C_drew ?_)));(case Zn=>exact Zr.out);rintro e w18 ⟨rfl,hb⟩;refine ⟨_,rfl,?_⟩;replace Za:=aQ (blk_below (g:=Zb) (o:=.cells #[.int .i64 a0_0,.int .i64 a0_1,.slice A0_2 l0_2.length c0_2] 29 (0,0)) (nB Za.out) hb);replace Zd:=aQ (blk_below (g:=Zc) (o:=.cells #[.int .i64 a1_0,.int .i64 a1_1,.slice A1_2 l1_2.length c1_2] 29 (0,0)) (nB Zd.out) hb);replace HB:=aQ (below_step bB hb);(try clear hb)))
  go_ret
  exact ⟨rfl,bB⟩
set_option maxHeartbeats 8000000 in
set_option maxRecDepth 100000 in
theorem laws_eqClockS.calls (k:Nat):∀ (A0:Option Addr) (c0:Nat) (l0:List (S29)) (A1:Option Addr) (c1:Nat) (l1:List (S29)) (r:Bool) (w:World) (hr0:Kd.C k29 w A0 l0.length l0) (hc0:l0.length ≤ c0) (hr1:Kd.C k29 w A1 l1.length l1) (hc1:l1.length ≤ c1) (h:laws_eqClockS.f k l0 l1 = some r),
  Calls Try.prog 44 #[.slice A0 l0.length c0,.slice A1 l1.length c1] w fun e w'=>e = .returned (.bool r)∧Below w.heap.size w w':=by
 induction k using Nat.strongRecOn with
 | _ k ih =>
 intro A0 c0 l0 A1 c1 l1 r w hr0 hc0 hr1 hc1 h
 cases k with
 | zero=>exact absurd h (by simp [laws_eqClockS.f])
 | succ k =>
 simp only [laws_eqClockS.f] at h
 have hu29:=Try.underlying29
 have ZA:=aQ hr0
 have ZC:=aQ hc0
 clear hr0 hc0
 have ZB:=aQ hr1
 have ZD:=aQ hc1
 clear hr1 hc1
 have HB:=aQ (Below.refl w.heap.size w)
 have H:=h
 clear h
 by_cases c3:(l0.length:Int) = (l1.length:Int);rotate_left
 ·rw [if_neg c3] at H
  have c3b0:((l0.length:Int) == (l1.length:Int)) = false:=beq_eq_false_iff_ne.mpr c3
  have c3b1:((l0.length:Int) != (l1.length:Int)) = true:=bne_iff_ne.mpr c3
  have c3b2:(l0.length == l1.length) = false:=by first | simpa using c3 | (simp at c3 ⊢;omega)
  obtain rfl:=Option.some.inj H
  go_enter Try.func44,Try.ntmps44
  go_wp2
  go_ret
  exact ⟨rfl,bB⟩
 rw [if_pos c3] at H
 have c3b0:((l0.length:Int) == (l1.length:Int)) = true:=beq_iff_eq.mpr c3
 have c3b1:((l0.length:Int) != (l1.length:Int)) = false:=bne_eq_false_iff_eq.mpr c3
 have c3b2:(l0.length == l1.length) = true:=by first | simpa using c3 | (simp at c3 ⊢;omega)
 clear c3
 have H':=aQ H
 clear H
 go_enter Try.func44,Try.ntmps44
 go_wp2
 go_loopg [5] k (fun kq v5 w'=>∃ (x5_1:Int),v5 = .int .i64 x5_1∧Aside0 (laws_eqClockS.l0 kq l0 l1 x5_1 = some r)∧Aside0 (kq ≤ k)∧Aside0 (Below w.heap.size w w'))
 case atStart=>exact ⟨(0),rfl,H',⟨Nat.le_refl _⟩,⟨bB⟩⟩
 case round =>
  clear H'
  try clear c3b0
  try clear c3b1
  try clear c3b2
  repeat (first | clear HB)
  obtain ⟨x5_1,rfl,HA,HK1,HB⟩:=hrel
  cases gk with
  | zero=>exact absurd HA.out (by simp [laws_eqClockS.l0])
  | succ k1 =>
   have H:=HA.out
   clear HA
   simp only [laws_eqClockS.l0] at H
   by_cases c4:x5_1 < (l0.length:Int);rotate_left
   ·rw [if_neg c4] at H
    have c4b0:decide (x5_1 < (l0.length:Int)) = false:=decide_eq_false c4
    clear c4
    obtain rfl:=Option.some.inj H
    go_wp2
    go_ret
    exact ⟨rfl,bB⟩
   rw [if_pos c4] at H
   have c4b0:decide (x5_1 < (l0.length:Int)) = true:=decide_eq_true c4
   clear c4
   by_cases c5:0 ≤ x5_1;rotate_left
   ·rw [if_neg c5] at H
    exact absurd H (by simp)
   rw [if_pos c5] at H
   have c5b0:decide (0 ≤ x5_1) = true:=decide_eq_true c5
   clear c5
   by_cases c6:x5_1 < (l1.length:Int);rotate_left
   ·rw [if_neg c6] at H
    exact absurd H (by simp)
   rw [if_pos c6] at H
   have c6b0:decide (x5_1 < (l1.length:Int)) = true:=decide_eq_true c6
   clear c6
   obtain ⟨t165,A7,H⟩:=bQ H
   (try dsimp only at H)
   by_cases c8:t165 = true
   ·subst c8
    have H1:(laws_eqClockS.l0 k1 l0 l1 (wrap64 (x5_1 + 1))) = some r:=by rw [if_pos rfl] at H;exact H
    clear H
    have H:=H1
    clear H1
    have H':=aQ H
    clear H
    try go_wp2
    replace HB:=aQ (below_drew1 HB.out)
    have p163:0 ≤ (x5_1:Int):=of_decide_eq_true (by first | (with_reducible assumption) | assumption)
    have q163:x5_1 < (l0.length:Int):=of_decide_eq_true (by first | (with_reducible assumption) | assumption)
    obtain ⟨Zm,A163_2,c163_2,e163,Za,Zb,Zc,Zo,Zp⟩:=at_T29 ZA.out x5_1 p163 q163
    have Zg:=Zc
    have Zh:=Zb
    have Zi:=Za
    cases e163
    replace Za:=(HB.out.cell (World.block_lt_of_cell? w _ Za)).trans Za
    replace Zb:=(HB.out.cell (World.block_lt_of_cell? w _ Zb)).trans Zb
    replace Zc:=(HB.out.cell (World.block_lt_of_cell? w _ Zc)).trans Zc
    have Zq:=aQ Zp
    have Zu:=aQ Zo
    clear Zp Zo
    replace p163:=eq_true p163
    replace q163:=eq_true q163
    have p164:0 ≤ (x5_1:Int):=of_decide_eq_true (by first | (with_reducible assumption) | assumption)
    have q164:x5_1 < (l1.length:Int):=of_decide_eq_true (by first | (with_reducible assumption) | assumption)
    obtain ⟨Zn,A164_2,c164_2,e164,Zd,Ze,Zf,Zr,Zs⟩:=at_T29 ZB.out x5_1 p164 q164
    have Zj:=Zf
    have Zk:=Ze
    have Zl:=Zd
    cases e164
    replace Zd:=(HB.out.cell (World.block_lt_of_cell? w _ Zd)).trans Zd
    replace Ze:=(HB.out.cell (World.block_lt_of_cell? w _ Ze)).trans Ze
    replace Zf:=(HB.out.cell (World.block_lt_of_cell? w _ Zf)).trans Zf
    have Zt:=aQ Zs
    have Zv:=aQ Zr
    clear Zs Zr
    replace p164:=eq_true p164
    replace q164:=eq_true q164
    refine start_ (n:=10) (S:=fun w'=>w'.cell? (Zm.add ((x5_1).toNat * 3)) = some (.int .i64 ((rd_T29 l0 x5_1).f0))∧w'.cell? ⟨(Zm.add ((x5_1).toNat * 3)).block,(Zm.add ((x5_1).toNat * 3)).off + 1,none⟩ = some (.int .i64 ((rd_T29 l0 x5_1).f1))∧w'.cell? ⟨(Zm.add ((x5_1).toNat * 3)).block,(Zm.add ((x5_1).toNat * 3)).off + 2,none⟩ = some (.slice A163_2 ((rd_T29 l0 x5_1).f2).length c163_2)∧w'.cell? (Zn.add ((x5_1).toNat * 3)) = some (.int .i64 ((rd_T29 l1 x5_1).f0))∧w'.cell? ⟨(Zn.add ((x5_1).toNat * 3)).block,(Zn.add ((x5_1).toNat * 3)).off + 1,none⟩ = some (.int .i64 ((rd_T29 l1 x5_1).f1))∧w'.cell? ⟨(Zn.add ((x5_1).toNat * 3)).block,(Zn.add ((x5_1).toNat * 3)).off + 2,none⟩ = some (.slice A164_2 ((rd_T29 l1 x5_1).f2).length c164_2)) (ds:=[]) (bn 10 0) (by kernel_rfl) rfl rfl ⟨((HB.out.cell (World.block_lt_of_cell? w _ Zi)).trans Zi),((HB.out.cell (World.block_lt_of_cell? w _ Zh)).trans Zh),((HB.out.cell (World.block_lt_of_cell? w _ Zg)).trans Zg),((HB.out.cell (World.block_lt_of_cell? w _ Zl)).trans Zl),((HB.out.cell (World.block_lt_of_cell? w _ Zk)).trans Zk),((HB.out.cell (World.block_lt_of_cell? w _ Zj)).trans Zj)⟩ (fun hHeld=>?_);refine with_tabW laws_eqClockS.tab6 laws_eqClockS.bits6 (fun HT_ HW_=>?_)
    generalize wr.drew = w9 at HB Zq Zt Za Zb Zc Zd Ze Zf hHeld ⊢
    refine pur (i:=0) (N:=some 17) (bn 10 1) ?_
    refine pur (i:=1) (N:=some 18) (bn 10 3) ?_
    refine pur (i:=2) (N:=some 19) (bn 10 7) ?_
    refine pur (i:=4) (N:=some 21) (bn 10 23) ?_
    refine pur (i:=5) (N:=some 22) (bn 10 55) ?_
    refine pur (i:=6) (N:=some 23) (bn 10 119) ?_
    refine tak (i:=3) (N:=some 20) (bn 10 127) ?_
    refine tak (i:=7) (N:=some 24) (bn 10 255) ?_
    refine one_ (i:=8) (N:=some 25) (bn 10 511) rfl rfl (one_of HT_.out (by kernel_rfl)) (by decide) (fun K hK=>?_)
    refine goes1 Try.func17 #[.agg #[.int .i64 ((rd_T29 l0 x5_1).f0),.int .i64 ((rd_T29 l0 x5_1).f1),.slice A163_2 ((rd_T29 l0 x5_1).f2).length c163_2],.agg #[.int .i64 ((rd_T29 l1 x5_1).f0),.int .i64 ((rd_T29 l1 x5_1).f1),.slice A164_2 ((rd_T29 l1 x5_1).f2).length c164_2]] ?_
    with_reducible refine (laws_eqClock.calls_of k1 (fun j_ hj_=>ih j_ (by first | omega | (have:=HK1.out;omega) | (have:=HK1.out;have:=HK2.out;omega))) ((rd_T29 l0 x5_1).f0) ((rd_T29 l0 x5_1).f1) _ _ ((rd_T29 l0 x5_1).f2) ((rd_T29 l1 x5_1).f0) ((rd_T29 l1 x5_1).f1) _ _ ((rd_T29 l1 x5_1).f2) true _ ?Zw ?Zx ?Zy ?Zz A7.out).mono ?_
    (case Zw=>repeat (first | exact (Kd.C_below Zq.out HB.out) | (with_reducible refine Kd.C_alloc ?_ _) | (with_reducible refine Kd.C_drewN ?_ _) | (with_reducible refine Kd.C_drew ?_)))
    (case Zx=>exact Zu.out)
    (case Zy=>repeat (first | exact (Kd.C_below Zt.out HB.out) | (with_reducible refine Kd.C_alloc ?_ _) | (with_reducible refine Kd.C_drewN ?_ _) | (with_reducible refine Kd.C_drew ?_)))
    (case Zz=>exact Zv.out)
    rintro e w10 ⟨rfl,hb⟩
    refine ⟨_,rfl,?_⟩
    replace HB:=aQ (below_step bB hb)
    (try clear hb)
    refine hK.out _ _ ⟨((HB.out.cell (World.block_lt_of_cell? w _ Zi)).trans Zi),((HB.out.cell (World.block_lt_of_cell? w _ Zh)).trans Zh),((HB.out.cell (World.block_lt_of_cell? w _ Zg)).trans Zg),((HB.out.cell (World.block_lt_of_cell? w _ Zl)).trans Zl),((HB.out.cell (World.block_lt_of_cell? w _ Zk)).trans Zk),((HB.out.cell (World.block_lt_of_cell? w _ Zj)).trans Zj)⟩ (fun hHeld=>?_)
    clear hK K
    refine nrm (N:=some 25) ?_
    refine pur (i:=9) (N:=some 26) (bn 10 1023) ?_
    refine done_ (done_of HT_.out (by kernel_rfl)) ?_
    try go_wp2
    go_roundg k1
    case measure=>have:=HK1.out;omega
    case rel=>exact ⟨(wrap64 (x5_1 + 1)),rfl,H',⟨by have:=HK1.out;omega⟩,⟨bB⟩⟩
   ·replace c8:=Bool.eq_false_iff.mpr c8
    subst c8
    have H1:(some false) = some r:=by rw [if_neg (show ¬ (false = true) by decide)] at H;exact H
    clear H
    have H:=H1
    clear H1
    obtain rfl:=Option.some.inj H
    try go_wp2
    replace HB:=aQ (below_drew1 HB.out)
    have p163:0 ≤ (x5_1:Int):=of_decide_eq_true (by first | (with_reducible assumption) | assumption)
    have q163:x5_1 < (l0.length:Int):=of_decide_eq_true (by first | (with_reducible assumption) | assumption)
    obtain ⟨Zm,A163_2,c163_2,e163,Za,Zb,Zc,Zo,Zp⟩:=at_T29 ZA.out x5_1 p163 q163
    have Zg:=Zc
    have Zh:=Zb
    have Zi:=Za
    cases e163
    replace Za:=(HB.out.cell (World.block_lt_of_cell? w _ Za)).trans Za
    replace Zb:=(HB.out.cell (World.block_lt_of_cell? w _ Zb)).trans Zb
    replace Zc:=(HB.out.cell (World.block_lt_of_cell? w _ Zc)).trans Zc
    have Zq:=aQ Zp
    have Zu:=aQ Zo
    clear Zp Zo
    replace p163:=eq_true p163
    replace q163:=eq_true q163
    have p164:0 ≤ (x5_1:Int):=of_decide_eq_true (by first | (with_reducible assumption) | assumption)
    have q164:x5_1 < (l1.length:Int):=of_decide_eq_true (by first | (with_reducible assumption) | assumption)
    obtain ⟨Zn,A164_2,c164_2,e164,Zd,Ze,Zf,Zr,Zs⟩:=at_T29 ZB.out x5_1 p164 q164
    have Zj:=Zf
    have Zk:=Ze
    have Zl:=Zd
    cases e164
    replace Zd:=(HB.out.cell (World.block_lt_of_cell? w _ Zd)).trans Zd
    replace Ze:=(HB.out.cell (World.block_lt_of_cell? w _ Ze)).trans Ze
    replace Zf:=(HB.out.cell (World.block_lt_of_cell? w _ Zf)).trans Zf
    have Zt:=aQ Zs
    have Zv:=aQ Zr
    clear Zs Zr
    replace p164:=eq_true p164
    replace q164:=eq_true q164
    refine start_ (n:=10) (S:=fun w'=>w'.cell? (Zm.add ((x5_1).toNat * 3)) = some (.int .i64 ((rd_T29 l0 x5_1).f0))∧w'.cell? ⟨(Zm.add ((x5_1).toNat * 3)).block,(Zm.add ((x5_1).toNat * 3)).off + 1,none⟩ = some (.int .i64 ((rd_T29 l0 x5_1).f1))∧w'.cell? ⟨(Zm.add ((x5_1).toNat * 3)).block,(Zm.add ((x5_1).toNat * 3)).off + 2,none⟩ = some (.slice A163_2 ((rd_T29 l0 x5_1).f2).length c163_2)∧w'.cell? (Zn.add ((x5_1).toNat * 3)) = some (.int .i64 ((rd_T29 l1 x5_1).f0))∧w'.cell? ⟨(Zn.add ((x5_1).toNat * 3)).block,(Zn.add ((x5_1).toNat * 3)).off + 1,none⟩ = some (.int .i64 ((rd_T29 l1 x5_1).f1))∧w'.cell? ⟨(Zn.add ((x5_1).toNat * 3)).block,(Zn.add ((x5_1).toNat * 3)).off + 2,none⟩ = some (.slice A164_2 ((rd_T29 l1 x5_1).f2).length c164_2)) (ds:=[]) (bn 10 0) (by kernel_rfl) rfl rfl ⟨((HB.out.cell (World.block_lt_of_cell? w _ Zi)).trans Zi),((HB.out.cell (World.block_lt_of_cell? w _ Zh)).trans Zh),((HB.out.cell (World.block_lt_of_cell? w _ Zg)).trans Zg),((HB.out.cell (World.block_lt_of_cell? w _ Zl)).trans Zl),((HB.out.cell (World.block_lt_of_cell? w _ Zk)).trans Zk),((HB.out.cell (World.block_lt_of_cell? w _ Zj)).trans Zj)⟩ (fun hHeld=>?_);refine with_tabW laws_eqClockS.tab6 laws_eqClockS.bits6 (fun HT_ HW_=>?_)
    generalize wr.drew = w11 at HB Zq Zt Za Zb Zc Zd Ze Zf hHeld ⊢
    refine pur (i:=0) (N:=some 17) (bn 10 1) ?_
    refine pur (i:=1) (N:=some 18) (bn 10 3) ?_
    refine pur (i:=2) (N:=some 19) (bn 10 7) ?_
    refine pur (i:=4) (N:=some 21) (bn 10 23) ?_
    refine pur (i:=5) (N:=some 22) (bn 10 55) ?_
    refine pur (i:=6) (N:=some 23) (bn 10 119) ?_
    refine tak (i:=3) (N:=some 20) (bn 10 127) ?_
    refine tak (i:=7) (N:=some 24) (bn 10 255) ?_
    refine one_ (i:=8) (N:=some 25) (bn 10 511) rfl rfl (one_of HT_.out (by kernel_rfl)) (by decide) (fun K hK=>?_)
    refine goes1 Try.func17 #[.agg #[.int .i64 ((rd_T29 l0 x5_1).f0),.int .i64 ((rd_T29 l0 x5_1).f1),.slice A163_2 ((rd_T29 l0 x5_1).f2).length c163_2],.agg #[.int .i64 ((rd_T29 l1 x5_1).f0),.int .i64 ((rd_T29 l1 x5_1).f1),.slice A164_2 ((rd_T29 l1 x5_1).f2).length c164_2]] ?_
    with_reducible refine (laws_eqClock.calls_of k1 (fun j_ hj_=>ih j_ (by first | omega | (have:=HK1.out;omega) | (have:=HK1.out;have:=HK2.out;omega))) ((rd_T29 l0 x5_1).f0) ((rd_T29 l0 x5_1).f1) _ _ ((rd_T29 l0 x5_1).f2) ((rd_T29 l1 x5_1).f0) ((rd_T29 l1 x5_1).f1) _ _ ((rd_T29 l1 x5_1).f2) false _ ?Zw ?Zx ?Zy ?Zz A7.out).mono ?_
    (case Zw=>repeat (first | exact (Kd.C_below Zq.out HB.out) | (with_reducible refine Kd.C_alloc ?_ _) | (with_reducible refine Kd.C_drewN ?_ _) | (with_reducible refine Kd.C_drew ?_)))
    (case Zx=>exact Zu.out)
    (case Zy=>repeat (first | exact (Kd.C_below Zt.out HB.out) | (with_reducible refine Kd.C_alloc ?_ _) | (with_reducible refine Kd.C_drewN ?_ _) | (with_reducible refine Kd.C_drew ?_)))
    (case Zz=>exact Zv.out)
    rintro e w12 ⟨rfl,hb⟩
    refine ⟨_,rfl,?_⟩
    replace HB:=aQ (below_step bB hb)
    (try clear hb)
    refine hK.out _ _ ⟨((HB.out.cell (World.block_lt_of_cell? w _ Zi)).trans Zi),((HB.out.cell (World.block_lt_of_cell? w _ Zh)).trans Zh),((HB.out.cell (World.block_lt_of_cell? w _ Zg)).trans Zg),((HB.out.cell (World.block_lt_of_cell? w _ Zl)).trans Zl),((HB.out.cell (World.block_lt_of_cell? w _ Zk)).trans Zk),((HB.out.cell (World.block_lt_of_cell? w _ Zj)).trans Zj)⟩ (fun hHeld=>?_)
    clear hK K
    refine nrm (N:=some 25) ?_
    refine pur (i:=9) (N:=some 26) (bn 10 1023) ?_
    refine done_ (done_of HT_.out (by kernel_rfl)) ?_
    try go_wp2
    go_ret
    exact ⟨rfl,bB⟩
theorem laws_eqClock.calls (k:Nat) (a0_0:Int) (a0_1:Int) (A0_2:Option Addr) (c0_2:Nat) (l0_2:List (S29)) (a1_0:Int) (a1_1:Int) (A1_2:Option Addr) (c1_2:Nat) (l1_2:List (S29)) (r:Bool) (w:World) (hr0_2:Kd.C k29 w A0_2 l0_2.length l0_2) (hc0_2:l0_2.length ≤ c0_2) (hr1_2:Kd.C k29 w A1_2 l1_2.length l1_2) (hc1_2:l1_2.length ≤ c1_2) (h:laws_eqClock.f k a0_0 a0_1 l0_2 a1_0 a1_1 l1_2 = some r) :
  Calls Try.prog 17 #[.agg #[.int .i64 a0_0,.int .i64 a0_1,.slice A0_2 l0_2.length c0_2],.agg #[.int .i64 a1_0,.int .i64 a1_1,.slice A1_2 l1_2.length c1_2]] w fun e w'=>e = .returned (.bool r)∧Below w.heap.size w w':=laws_eqClock.calls_of k (fun j_ _=>laws_eqClockS.calls j_) a0_0 a0_1 A0_2 c0_2 l0_2 a1_0 a1_1 A1_2 c1_2 l1_2 r w hr0_2 hc0_2 hr1_2 hc1_2 h
def impl_ClockOk.f (k:Nat) (a0_0:Int) (a0_1:Int) (l0_2:List (S29)):Option (Bool):=(impl_clockNodes.f k a0_0 a0_1 l0_2 16).bind fun t155=>(if t155 ≤ 16 then ((impl_clockShape.f k a0_0 a0_1 l0_2).bind fun t156=>(some t156)) else (some false))
theorem impl_ClockOk.mono:∀ a0 a1 a2 k,LeO (impl_ClockOk.f k a0 a1 a2) (impl_ClockOk.f (k + 1) a0 a1 a2):=by
 intro a0 a1 a2 k
 unfold impl_ClockOk.f
 repeat' first
   | (with_reducible exact impl_clockNodes.mono _ _ _ _ _)
   | (with_reducible exact impl_clockShape.mono _ _ _ _)
   | (with_reducible exact LeO.refl _)
   | (with_reducible exact LeO.none _)
   | (with_reducible refine LeO.ite ?_ ?_)
   | (with_reducible refine LeO.bind ?_ (fun _=>?_))
   | exact impl_clockNodes.mono _ _ _ _ _
   | exact impl_clockShape.mono _ _ _ _
   | exact LeO.none _
   | refine LeO.ite ?_ ?_
   | refine LeO.bind ?_ (fun _=>?_)
set_option maxHeartbeats 8000000 in
set_option maxRecDepth 100000 in
theorem impl_ClockOk.calls (k:Nat) (a0_0:Int) (a0_1:Int) (A0_2:Option Addr) (c0_2:Nat) (l0_2:List (S29)) (r:Bool) (w:World) (hr0_2:Kd.C k29 w A0_2 l0_2.length l0_2) (hc0_2:l0_2.length ≤ c0_2) (h:impl_ClockOk.f k a0_0 a0_1 l0_2 = some r) :
  Calls Try.prog 16 #[.agg #[.int .i64 a0_0,.int .i64 a0_1,.slice A0_2 l0_2.length c0_2]] w fun e w'=>e = .returned (.bool r)∧Below w.heap.size w w':=by
 have hu29:=Try.underlying29
 have Zd:=aQ hr0_2
 have Ze:=aQ hc0_2
 clear hr0_2 hc0_2
 have HB:=aQ (Below.refl w.heap.size w)
 have H:=h
 clear h
 obtain ⟨t155,A2,H⟩:=bQ H
 (try dsimp only at H)
 by_cases c3:t155 ≤ 16;rotate_left
 ·rw [if_neg c3] at H
  have c3b0:decide (t155 ≤ 16) = false:=decide_eq_false c3
  clear c3
  obtain rfl:=Option.some.inj H
  go_enter Try.func16,Try.ntmps16
  go_wp2_with (first | ((with_reducible refine gate_dst (N:=1) rfl ?_);refine box1 (N:=1) (cs:=#[.int .i64 a0_0,.int .i64 a0_1,.slice A0_2 l0_2.length c0_2]) (t:=29) ?_;intro Zf hg w10 hbox hb;have Za:=aQ (hbox);have Zg:=aQ (gB:w.heap.size ≤ Zf);have Zh:=Zg;replace HB:=aQ (below_step bB hb);clear hb hbox hg;obtain ⟨Zi,Zj,Zk,Zl,Zm,Zn⟩:=cz3 Za.out) | ((with_reducible refine gate_callee (f:=42) rfl ?_);refine goesL_ (some 4) rfl rfl Try.func42 (by kernel_rfl) rfl #[.agg #[.int .i64 a0_0,.int .i64 a0_1,.slice A0_2 l0_2.length c0_2],.int .i64 16] rfl mP ?_;(with_reducible refine (impl_clockNodes.calls k a0_0 a0_1 _ _ l0_2 16 t155 _ ?Zb ?Zc A2.out).mono ?_);(case Zb=>repeat (first | exact (Kd.C_below Zd.out HB.out) | (with_reducible refine Kd.C_alloc ?_ _) | (with_reducible refine Kd.C_drewN ?_ _) | (with_reducible refine Kd.C_drew ?_)));(case Zc=>exact Ze.out);rintro e w12 ⟨rfl,hb⟩;refine ⟨_,rfl,?_⟩;replace Za:=aQ (blk_below (nB Za.out) hb);replace HB:=aQ (below_step bB hb);(try clear hb)))
  go_ret
  exact ⟨rfl,bB⟩
 rw [if_pos c3] at H
 have c3b0:decide (t155 ≤ 16) = true:=decide_eq_true c3
 clear c3
 obtain ⟨t156,A4,H⟩:=bQ H
 replace H:(some t156) = some r:=H
 obtain rfl:=Option.some.inj H
 go_enter Try.func16,Try.ntmps16
 go_wp2_with (first | ((with_reducible refine gate_dst (N:=1) rfl ?_);refine box1 (N:=1) (cs:=#[.int .i64 a0_0,.int .i64 a0_1,.slice A0_2 l0_2.length c0_2]) (t:=29) ?_;intro Zf hg w5 hbox hb;have Za:=aQ (hbox);have Zg:=aQ (gB:w.heap.size ≤ Zf);have Zh:=Zg;replace HB:=aQ (below_step bB hb);clear hb hbox hg;obtain ⟨Zo,Zp,Zq,Zr,Zs,Zt⟩:=cz3 Za.out) | ((with_reducible refine gate_callee (f:=42) rfl ?_);refine goesL_ (some 4) rfl rfl Try.func42 (by kernel_rfl) rfl #[.agg #[.int .i64 a0_0,.int .i64 a0_1,.slice A0_2 l0_2.length c0_2],.int .i64 16] rfl mP ?_;(with_reducible refine (impl_clockNodes.calls k a0_0 a0_1 _ _ l0_2 16 t155 _ ?Zb ?Zc A2.out).mono ?_);(case Zb=>repeat (first | exact (Kd.C_below Zd.out HB.out) | (with_reducible refine Kd.C_alloc ?_ _) | (with_reducible refine Kd.C_drewN ?_ _) | (with_reducible refine Kd.C_drew ?_)));(case Zc=>exact Ze.out);rintro e w7 ⟨rfl,hb⟩;refine ⟨_,rfl,?_⟩;replace Za:=aQ (blk_below (nB Za.out) hb);replace HB:=aQ (below_step bB hb);(try clear hb);obtain ⟨Zu,Zv,Zw,Zx,Zy,Zz⟩:=cz3 Za.out) | (go_at_call 43;(with_reducible refine (impl_clockShape.calls k a0_0 a0_1 _ _ l0_2 t156 _ ?Zb ?Zc A4.out).mono ?_);(case Zb=>repeat (first | exact (Kd.C_below Zd.out HB.out) | (with_reducible refine Kd.C_alloc ?_ _) | (with_reducible refine Kd.C_drewN ?_ _) | (with_reducible refine Kd.C_drew ?_)));(case Zc=>exact Ze.out);rintro e w9 ⟨rfl,hb⟩;replace Za:=aQ (blk_below (nB Za.out) hb);replace HB:=aQ (below_step bB hb);(try clear hb)))
 go_ret
 exact ⟨rfl,bB⟩
end Go.Proofs.Ytnkgcjdlfenepaa.P
