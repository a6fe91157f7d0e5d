/- What the Go functions that the laws reach compute, and that their calls come to just that: told by a program of this session (aprint.py). No condition. -/
import Derived.Test.YtnkgcjdlfenepaaP0
import Derived.Test.YtnkgcjdlfenepaaP1
import Derived.Test.YtnkgcjdlfenepaaHPass
import Derived.Test.YtnkgcjdlfenepaaHShape
import Derived.Test.YtnkgcjdlfenepaaCut
namespace Go.Proofs.Ytnkgcjdlfenepaa.P
open Go.RowKit Go.Proofs.YtnkgcjdlfenepaaW.PrintWords Go.Proofs.YtnkgcjdlfenepaaW.PrintLast Go.Proofs.YtnkgcjdlfenepaaW.PrintMore
attribute [local go_sem] max2_int min2_int max_two min_two max_three min_three max_four min_four
set_option linter.unusedVariables false
set_option linter.unusedSimpArgs false
def spec_l17Two.f (a0:Int) (a1_0:Int) (a1_1:Int) (l1_2:List (S29)) (a2_0:Int) (a2_1:Int) (l2_2:List (S29)):Option (Int × Int × (List (S29))):=some (a0,0,(([(⟨a1_0,a1_1,l1_2⟩:S29),(⟨a2_0,a2_1,l2_2⟩:S29)]:List (S29))))
set_option maxHeartbeats 8000000 in
set_option maxRecDepth 100000 in
theorem spec_l17Two.calls (a0:Int) (a1_0:Int) (a1_1:Int) (P1_2_:Nat → Prop) (A1_2:Option Addr) (c1_2:Nat) (l1_2:List (S29)) (a2_0:Int) (a2_1:Int) (P2_2_:Nat → Prop) (A2_2:Option Addr) (c2_2:Nat) (l2_2:List (S29)) (r1:Int) (r2:Int) (r3:List (S29)) (w:World) (hs1_2:Kd.V k29 29 w w.heap.size (fun k_=>P1_2_ k_) (.slice A1_2 l1_2.length c1_2) l1_2) (hs2_2:Kd.V k29 29 w w.heap.size (fun k_=>P2_2_ k_) (.slice A2_2 l2_2.length c2_2) l2_2) (h:spec_l17Two.f a0 a1_0 a1_1 l1_2 a2_0 a2_1 l2_2 = some (r1,r2,r3)) :
  Calls Try.prog 66 #[.int .i64 a0,.agg #[.int .i64 a1_0,.int .i64 a1_1,.slice A1_2 l1_2.length c1_2],.agg #[.int .i64 a2_0,.int .i64 a2_1,.slice A2_2 l2_2.length c2_2]] w fun e w'=>∃ v2_:Value,e = .returned (.agg #[.int .i64 r1,.int .i64 r2,v2_])∧Kd.N k29 29 w' w.heap.size (fun k_=>((P1_2_ k_ ∨ P2_2_ k_) ∨ w.heap.size ≤ k_)) v2_ r3∧Below w.heap.size w w':=by
 have hu29:=Try.underlying29
 have HO1_2:=aQ (show Kd.V k29 29 w w.heap.size (fun k_=>((P1_2_ k_ ∨ P2_2_ k_) ∨ w.heap.size ≤ k_)) (.slice A1_2 l1_2.length c1_2) l1_2 from Kd.V_mono hs1_2 (fun k_ hk=>.inl (.inl hk)))
 have HO2_2:=aQ (show Kd.V k29 29 w w.heap.size (fun k_=>((P1_2_ k_ ∨ P2_2_ k_) ∨ w.heap.size ≤ k_)) (.slice A2_2 l2_2.length c2_2) l2_2 from Kd.V_mono hs2_2 (fun k_ hk=>.inl (.inr hk)))
 have HB:=aQ (Below.refl w.heap.size w)
 have H:=h
 clear h
 obtain ⟨y440,hy440⟩:∃ y_:List (S29),y_ = (([(⟨a1_0,a1_1,l1_2⟩:S29),(⟨a2_0,a2_1,l2_2⟩:S29)]:List (S29))):=⟨_,rfl⟩
 replace H:(some (a0,0,y440)) = some (r1,r2,r3):=by rw [hy440];exact H
 have Ny440:=aQ hy440
 clear hy440
 simp only [Option.some.injEq,Prod.mk.injEq] at H
 obtain ⟨rfl,rfl,rfl⟩:=H
 go_enter Try.func66,Try.ntmps66
 go_wp2_with (first | ((with_reducible refine gate_dst (N:=4) rfl ?_);refine box1 (N:=4) (cs:=#[.int .i64 a1_0,.int .i64 a1_1,.slice A1_2 l1_2.length c1_2]) (t:=29) ?_;intro gb437 hg w4 hbox hb;replace HO1_2:=aQ (Kd.V_below (Kd.V_elderB (nV HO1_2.out) gb437 (Nat.le_of_eq hg.symm)) hb);replace HO2_2:=aQ (Kd.V_below (Kd.V_elderB (nV HO2_2.out) gb437 (Nat.le_of_eq hg.symm)) hb);have BK437:=aQ (hbox);have GW437:=aQ (gB:w.heap.size ≤ gb437);have GE437:=GW437;replace HB:=aQ (below_step bB hb);clear hb hbox hg) | ((with_reducible refine gate_dst (N:=5) rfl ?_);refine box1 (N:=5) (cs:=#[.int .i64 a2_0,.int .i64 a2_1,.slice A2_2 l2_2.length c2_2]) (t:=29) ?_;intro gb438 hg w5 hbox hb;replace HO1_2:=aQ (Kd.V_below (Kd.V_elderB (nV HO1_2.out) gb438 (Nat.le_of_eq hg.symm)) hb);replace HO2_2:=aQ (Kd.V_below (Kd.V_elderB (nV HO2_2.out) gb438 (Nat.le_of_eq hg.symm)) hb);have BK438:=aQ (hbox);have GW438:=aQ (gB:w.heap.size ≤ gb438);have GE438:=GW438;replace HB:=aQ (below_step bB hb);have NB437_438:=aQ ((by rw [hg];exact Nat.ne_of_lt (blk_lt (nB BK437.out)):gb437 ≠ gb438));have NB438_437:=aQ NB437_438.out.symm;replace BK437:=aQ (blk_below (nB BK437.out) hb);clear hb hbox hg) | ((with_reducible refine gate_dst (N:=6) rfl ?_);refine box1 (N:=6) (cs:=#[.int .i64 0,.int .i64 0,.slice none 0 0]) (t:=29) ?_;intro gb439 hg w6 hbox hb;replace HO1_2:=aQ (Kd.V_below (Kd.V_elderB (nV HO1_2.out) gb439 (Nat.le_of_eq hg.symm)) hb);replace HO2_2:=aQ (Kd.V_below (Kd.V_elderB (nV HO2_2.out) gb439 (Nat.le_of_eq hg.symm)) hb);have BK439:=aQ (hbox);have GW439:=aQ (gB:w.heap.size ≤ gb439);have GE439:=GW439;replace HB:=aQ (below_step bB hb);have NB437_439:=aQ ((by rw [hg];exact Nat.ne_of_lt (blk_lt (nB BK437.out)):gb437 ≠ gb439));have NB439_437:=aQ NB437_439.out.symm;replace BK437:=aQ (blk_below (nB BK437.out) hb);have NB438_439:=aQ ((by rw [hg];exact Nat.ne_of_lt (blk_lt (nB BK438.out)):gb438 ≠ gb439));have NB439_438:=aQ NB438_439.out.symm;replace BK438:=aQ (blk_below (nB BK438.out) hb);clear hb hbox hg;have hnb7:=NB437_438.out;have hnc7:=NB438_437.out;have hnb8:=NB437_439.out;have hnc8:=NB439_437.out;obtain ⟨hcz9_0,hcz9_1,hcz9_2,hfz9_0,hfz9_1,hfz9_2⟩:=cz3 BK437.out;have hnb10:=NB438_439.out;have hnc10:=NB439_438.out;obtain ⟨hcz11_0,hcz11_1,hcz11_2,hfz11_0,hfz11_1,hfz11_2⟩:=cz3 BK438.out) | ((with_reducible refine gate_dst (N:=10) rfl ?_);refine Kd.N_lit k29 _ 29 ?hg (N':=10) ?hd (xs:=([(⟨a1_0,a1_1,l1_2⟩:S29),(⟨a2_0,a2_1,l2_2⟩:S29)]:List (S29))) (inner:=[.int .i64 a1_0,.int .i64 a1_1,.slice A1_2 l1_2.length c1_2,.int .i64 a2_0,.int .i64 a2_1,.slice A2_2 l2_2.length c2_2]) (ok:=(fun k_=>((P1_2_ k_ ∨ P2_2_ k_) ∨ w.heap.size ≤ k_)∧k_ ≠ gb437∧k_ ≠ gb438∧k_ ≠ gb439)) (okp:=(fun k_=>((P1_2_ k_ ∨ P2_2_ k_) ∨ w.heap.size ≤ k_)∧k_ ≠ gb437∧k_ ≠ gb438∧k_ ≠ gb439)) ?hr ?hp (fun _ hk=>hk) ((show ∀ k_,w6.heap.size ≤ k_ → (fun k_=>((P1_2_ k_ ∨ P2_2_ k_) ∨ w.heap.size ≤ k_)∧k_ ≠ gb437∧k_ ≠ gb438∧k_ ≠ gb439) k_ from fun k_ hk=>⟨(.inr (Nat.le_trans (below_size bB) hk)),Kd.freshB (nB BK437.out) k_ hk,Kd.freshB (nB BK438.out) k_ hk,Kd.freshB (nB BK439.out) k_ hk⟩) _ (Nat.le_refl _)) (Below.refl _ _) (Nat.le_refl _) (by simp) ?_;(case hd=>rfl);(case hg=>rfl);(case hr=>first | (go_simp;done) | (go_simp;rfl));(case hp=>exact (Reps.c3 (show Kd.FK k29 _ _ (⟨a1_0,a1_1,l1_2⟩:S29) [.int .i64 a1_0,.int .i64 a1_1,.slice A1_2 l1_2.length c1_2] from (k29_mkF _ _ (⟨a1_0,a1_1,l1_2⟩:S29) (Kd.V_reads' (Kd.V_mono (ok':=(fun k_=>((P1_2_ k_ ∨ P2_2_ k_) ∨ w.heap.size ≤ k_)∧k_ ≠ gb437∧k_ ≠ gb438∧k_ ≠ gb439)) (HO1_2.out) (fun k_ hk=>⟨hk.1.1.1,⟨hk.1.1.2,⟨hk.1.2,hk.2⟩⟩⟩))).2.1 (Kd.V_F (Kd.V_mono (ok':=(fun k_=>((P1_2_ k_ ∨ P2_2_ k_) ∨ w.heap.size ≤ k_)∧k_ ≠ gb437∧k_ ≠ gb438∧k_ ≠ gb439)) (HO1_2.out) (fun k_ hk=>⟨hk.1.1.1,⟨hk.1.1.2,⟨hk.1.2,hk.2⟩⟩⟩))))) (Reps.c3 (show Kd.FK k29 _ _ (⟨a2_0,a2_1,l2_2⟩:S29) [.int .i64 a2_0,.int .i64 a2_1,.slice A2_2 l2_2.length c2_2] from (k29_mkF _ _ (⟨a2_0,a2_1,l2_2⟩:S29) (Kd.V_reads' (Kd.V_mono (ok':=(fun k_=>((P1_2_ k_ ∨ P2_2_ k_) ∨ w.heap.size ≤ k_)∧k_ ≠ gb437∧k_ ≠ gb438∧k_ ≠ gb439)) (HO2_2.out) (fun k_ hk=>⟨hk.1.1.1,⟨hk.1.1.2,⟨hk.1.2,hk.2⟩⟩⟩))).2.1 (Kd.V_F (Kd.V_mono (ok':=(fun k_=>((P1_2_ k_ ∨ P2_2_ k_) ∨ w.heap.size ≤ k_)∧k_ ≠ gb437∧k_ ≠ gb438∧k_ ≠ gb439)) (HO2_2.out) (fun k_ hk=>⟨hk.1.1.1,⟨hk.1.1.2,⟨hk.1.2,hk.2⟩⟩⟩))))) (Reps.none _ _))));intro v441 w12 ho13 hb hg_ hnew_;clear hg_ hnew_;(first | rw [← Ny440.out] at ho13 | (simp only [Int.reduceToNat] at ho13;rw [← Ny440.out] at ho13));replace HO1_2:=aQ (Kd.V_elder' (nV HO1_2.out) (Kd.N_base ho13) hb);replace HO2_2:=aQ (Kd.V_elder' (nV HO2_2.out) (Kd.N_base ho13) hb);have HO442:=aQ (Kd.N_lower ho13 (below_size bB));replace BK437:=aQ (blk_below (nB BK437.out) hb);replace BK438:=aQ (blk_below (nB BK438.out) hb);replace BK439:=aQ (blk_below (nB BK439.out) hb);replace HB:=aQ (below_step bB hb);clear hb ho13;obtain ⟨Ao14,co14,eo14⟩:=Kd.N_slice HO442.out;subst eo14;obtain ⟨hcz15_0,hcz15_1,hcz15_2,hfz15_0,hfz15_1,hfz15_2⟩:=cz3 BK439.out))
 refine bodyPost_ret (results_cell_row rfl _ _ gb439 29 #[.int .i64 a0,.int .i64 0,.slice Ao14 y440.length co14] (0,0) _ rfl bP Try.underlying29 rfl (by kernel_rfl)) rfl ?_
 exact ⟨_,rfl,by (with_reducible repeat (first | apply Kd.N_alloc | apply Kd.N_drewN | apply Kd.N_drew));exact Kd.N_mono (nFN (g:=gb439) HO442.out (fun k_ hk=>hk.2.2.2)) (fun _ hk=>hk.1),bB⟩
mutual
def spec_l17Steps.l0:Nat → List (S44) → List (S44) → List (S44) → Int → Int → Int → List (S29) → Option ((List (S44)))
 | 0,_,_,_,_,_,_,_=>none
 | k + 1,x3,x4,x5,x6,x444000,x444001,x444002=>if x6 < (x4.length:Int) then (if 0 ≤ x6 then (if 1 < (x444002.length:Int) then ((spec_l17Two.f x444000 ((rd_T44 x4 x6).f1.f0) ((rd_T44 x4 x6).f1.f1) ((rd_T44 x4 x6).f1.f2) ((rd_T29 x444002 1).f0) ((rd_T29 x444002 1).f1) ((rd_T29 x444002 1).f2)).bind fun bt473=>(if x3.length < 2932031007402 then (spec_l17Steps.l0 k (x3 ++ [(⟨(rd_T44 x4 x6).f0,(⟨bt473.1,bt473.2.1,bt473.2.2⟩:S29)⟩:S44)]) x4 x5 (wrap64 (x6 + 1)) x444000 x444001 x444002) else (none))) else (none)) else (none)) else (spec_l17Steps.l1 k x3 x4 x5 0 x444000 x444001 x444002)
def spec_l17Steps.l1:Nat → List (S44) → List (S44) → List (S44) → Int → Int → Int → List (S29) → Option ((List (S44)))
 | 0,_,_,_,_,_,_,_=>none
 | k + 1,x3,x4,x5,x7,x444000,x444001,x444002=>if x7 < (x5.length:Int) then (if 0 ≤ x7 then (if 0 < (x444002.length:Int) then ((spec_l17Two.f x444000 ((rd_T29 x444002 0).f0) ((rd_T29 x444002 0).f1) ((rd_T29 x444002 0).f2) ((rd_T44 x5 x7).f1.f0) ((rd_T44 x5 x7).f1.f1) ((rd_T44 x5 x7).f1.f2)).bind fun bt484=>(if x3.length < 2932031007402 then (spec_l17Steps.l1 k (x3 ++ [(⟨(rd_T44 x5 x7).f0,(⟨bt484.1,bt484.2.1,bt484.2.2⟩:S29)⟩:S44)]) x4 x5 (wrap64 (x7 + 1)) x444000 x444001 x444002) else (none))) else (none)) else (none)) else (spec_l17Steps.l2 k x3 x4 x5 0 x444000 x444001 x444002)
def spec_l17Steps.l2:Nat → List (S44) → List (S44) → List (S44) → Int → Int → Int → List (S29) → Option ((List (S44)))
 | 0,_,_,_,_,_,_,_=>none
 | k + 1,x3,x4,x5,x8,x444000,x444001,x444002=>if x8 < (x4.length:Int) then (spec_l17Steps.l3 k x3 x4 x5 x8 0 x444000 x444001 x444002) else (some x3)
def spec_l17Steps.l3:Nat → List (S44) → List (S44) → List (S44) → Int → Int → Int → Int → List (S29) → Option ((List (S44)))
 | 0,_,_,_,_,_,_,_,_=>none
 | k + 1,x3,x4,x5,x8,x9,x444000,x444001,x444002=>if x9 < (x5.length:Int) then (if 0 ≤ x8 then (if x8 < (x4.length:Int) then (if ((rd_T44 x4 x8).f0) = 0 then (spec_l17Steps.l3 k x3 x4 x5 x8 (wrap64 (x9 + 1)) x444000 x444001 x444002) else (if 0 ≤ x9 then (if ((rd_T44 x4 x8).f0) = (wrap64 (-((rd_T44 x5 x9).f0))) then ((spec_l17Two.f x444000 ((rd_T44 x4 x8).f1.f0) ((rd_T44 x4 x8).f1.f1) ((rd_T44 x4 x8).f1.f2) ((rd_T44 x5 x9).f1.f0) ((rd_T44 x5 x9).f1.f1) ((rd_T44 x5 x9).f1.f2)).bind fun bt497=>(if x3.length < 2932031007402 then (spec_l17Steps.l3 k (x3 ++ [(⟨0,(⟨bt497.1,bt497.2.1,bt497.2.2⟩:S29)⟩:S44)]) x4 x5 x8 (wrap64 (x9 + 1)) x444000 x444001 x444002) else (none))) else (spec_l17Steps.l3 k x3 x4 x5 x8 (wrap64 (x9 + 1)) x444000 x444001 x444002)) else (none))) else (none)) else (none)) else (spec_l17Steps.l2 k x3 x4 x5 (wrap64 (x8 + 1)) x444000 x444001 x444002)
def spec_l17Steps.f:Nat → Int → Int → List (S29) → Option ((List (S44)))
 | 0,_,_,_=>none
 | k + 1,a0_0,a0_1,l0_2=>if a0_0 = 1 then (if 0 < (l0_2.length:Int) then (some (([(⟨a0_1,(⟨(rd_T29 l0_2 0).f0,(rd_T29 l0_2 0).f1,(rd_T29 l0_2 0).f2⟩:S29)⟩:S44)]:List (S44)))) else (none)) else (if a0_0 = 3 then (if 0 < (l0_2.length:Int) then ((spec_l17Steps.f k ((rd_T29 l0_2 0).f0) ((rd_T29 l0_2 0).f1) ((rd_T29 l0_2 0).f2)).bind fun t449=>(if 1 < (l0_2.length:Int) then ((spec_l17Steps.f k ((rd_T29 l0_2 1).f0) ((rd_T29 l0_2 1).f1) ((rd_T29 l0_2 1).f2)).bind fun t453=>(if t449.length + t453.length < 2932031007402 then (some (t449 ++ t453)) else (none))) else (none))) else (none)) else (if a0_0 = 4 then (if 0 < (l0_2.length:Int) then ((spec_l17Steps.f k ((rd_T29 l0_2 0).f0) ((rd_T29 l0_2 0).f1) ((rd_T29 l0_2 0).f2)).bind fun t463=>(if 1 < (l0_2.length:Int) then ((spec_l17Steps.f k ((rd_T29 l0_2 1).f0) ((rd_T29 l0_2 1).f1) ((rd_T29 l0_2 1).f2)).bind fun t467=>(spec_l17Steps.l0 k (([]:List (S44))) t463 t467 0 a0_0 a0_1 l0_2)) else (none))) else (none)) else (some (([]:List (S44))))))
end
theorem spec_l17Steps.mono_l:∀ k,(∀ y0 y1 y2,LeO (spec_l17Steps.f k y0 y1 y2) (spec_l17Steps.f (k + 1) y0 y1 y2))∧(∀ y0 y1 y2 y3 y4 y5 y6,LeO (spec_l17Steps.l0 k y0 y1 y2 y3 y4 y5 y6) (spec_l17Steps.l0 (k + 1) y0 y1 y2 y3 y4 y5 y6))∧(∀ y0 y1 y2 y3 y4 y5 y6,LeO (spec_l17Steps.l1 k y0 y1 y2 y3 y4 y5 y6) (spec_l17Steps.l1 (k + 1) y0 y1 y2 y3 y4 y5 y6))∧(∀ y0 y1 y2 y3 y4 y5 y6,LeO (spec_l17Steps.l2 k y0 y1 y2 y3 y4 y5 y6) (spec_l17Steps.l2 (k + 1) y0 y1 y2 y3 y4 y5 y6))∧(∀ y0 y1 y2 y3 y4 y5 y6 y7,LeO (spec_l17Steps.l3 k y0 y1 y2 y3 y4 y5 y6 y7) (spec_l17Steps.l3 (k + 1) y0 y1 y2 y3 y4 y5 y6 y7))
 | 0=>⟨fun _ _ _ r h=>by simp [spec_l17Steps.f] at h,fun _ _ _ _ _ _ _ r h=>by simp [spec_l17Steps.l0] at h,fun _ _ _ _ _ _ _ r h=>by simp [spec_l17Steps.l1] at h,fun _ _ _ _ _ _ _ r h=>by simp [spec_l17Steps.l2] at h,fun _ _ _ _ _ _ _ _ r h=>by simp [spec_l17Steps.l3] at h⟩
 | k + 1=>by
  obtain ⟨ih0,ih1,ih2,ih3,ih4⟩:=spec_l17Steps.mono_l k
  refine ⟨?_,?_,?_,?_,?_⟩
  ·intro y0 y1 y2
   unfold spec_l17Steps.f
   repeat' first
   | (with_reducible exact ih0 _ _ _)
   | (with_reducible exact ih1 _ _ _ _ _ _ _)
   | (with_reducible exact ih2 _ _ _ _ _ _ _)
   | (with_reducible exact ih3 _ _ _ _ _ _ _)
   | (with_reducible exact ih4 _ _ _ _ _ _ _ _)
   | (with_reducible exact LeO.refl _)
   | (with_reducible exact LeO.none _)
   | (with_reducible refine LeO.ite ?_ ?_)
   | (with_reducible refine LeO.bind ?_ (fun _=>?_))
   | exact ih0 _ _ _
   | exact ih1 _ _ _ _ _ _ _
   | exact ih2 _ _ _ _ _ _ _
   | exact ih3 _ _ _ _ _ _ _
   | exact ih4 _ _ _ _ _ _ _ _
   | exact LeO.none _
   | refine LeO.ite ?_ ?_
   | refine LeO.bind ?_ (fun _=>?_)
  ·intro y0 y1 y2 y3 y4 y5 y6
   unfold spec_l17Steps.l0
   repeat' first
   | (with_reducible exact ih0 _ _ _)
   | (with_reducible exact ih1 _ _ _ _ _ _ _)
   | (with_reducible exact ih2 _ _ _ _ _ _ _)
   | (with_reducible exact ih3 _ _ _ _ _ _ _)
   | (with_reducible exact ih4 _ _ _ _ _ _ _ _)
   | (with_reducible exact LeO.refl _)
   | (with_reducible exact LeO.none _)
   | (with_reducible refine LeO.ite ?_ ?_)
   | (with_reducible refine LeO.bind ?_ (fun _=>?_))
   | exact ih0 _ _ _
   | exact ih1 _ _ _ _ _ _ _
   | exact ih2 _ _ _ _ _ _ _
   | exact ih3 _ _ _ _ _ _ _
   | exact ih4 _ _ _ _ _ _ _ _
   | exact LeO.none _
   | refine LeO.ite ?_ ?_
   | refine LeO.bind ?_ (fun _=>?_)
  ·intro y0 y1 y2 y3 y4 y5 y6
   unfold spec_l17Steps.l1
   repeat' first
   | (with_reducible exact ih0 _ _ _)
   | (with_reducible exact ih1 _ _ _ _ _ _ _)
   | (with_reducible exact ih2 _ _ _ _ _ _ _)
   | (with_reducible exact ih3 _ _ _ _ _ _ _)
   | (with_reducible exact ih4 _ _ _ _ _ _ _ _)
   | (with_reducible exact LeO.refl _)
   | (with_reducible exact LeO.none _)
   | (with_reducible refine LeO.ite ?_ ?_)
   | (with_reducible refine LeO.bind ?_ (fun _=>?_))
   | exact ih0 _ _ _
   | exact ih1 _ _ _ _ _ _ _
   | exact ih2 _ _ _ _ _ _ _
   | exact ih3 _ _ _ _ _ _ _
   | exact ih4 _ _ _ _ _ _ _ _
   | exact LeO.none _
   | refine LeO.ite ?_ ?_
   | refine LeO.bind ?_ (fun _=>?_)
  ·intro y0 y1 y2 y3 y4 y5 y6
   unfold spec_l17Steps.l2
   repeat' first
   | (with_reducible exact ih0 _ _ _)
   | (with_reducible exact ih1 _ _ _ _ _ _ _)
   | (with_reducible exact ih2 _ _ _ _ _ _ _)
   | (with_reducible exact ih3 _ _ _ _ _ _ _)
   | (with_reducible exact ih4 _ _ _ _ _ _ _ _)
   | (with_reducible exact LeO.refl _)
   | (with_reducible exact LeO.none _)
   | (with_reducible refine LeO.ite ?_ ?_)
   | (with_reducible refine LeO.bind ?_ (fun _=>?_))
   | exact ih0 _ _ _
   | exact ih1 _ _ _ _ _ _ _
   | exact ih2 _ _ _ _ _ _ _
   | exact ih3 _ _ _ _ _ _ _
   | exact ih4 _ _ _ _ _ _ _ _
   | exact LeO.none _
   | refine LeO.ite ?_ ?_
   | refine LeO.bind ?_ (fun _=>?_)
  ·intro y0 y1 y2 y3 y4 y5 y6 y7
   unfold spec_l17Steps.l3
   repeat' first
   | (with_reducible exact ih0 _ _ _)
   | (with_reducible exact ih1 _ _ _ _ _ _ _)
   | (with_reducible exact ih2 _ _ _ _ _ _ _)
   | (with_reducible exact ih3 _ _ _ _ _ _ _)
   | (with_reducible exact ih4 _ _ _ _ _ _ _ _)
   | (with_reducible exact LeO.refl _)
   | (with_reducible exact LeO.none _)
   | (with_reducible refine LeO.ite ?_ ?_)
   | (with_reducible refine LeO.bind ?_ (fun _=>?_))
   | exact ih0 _ _ _
   | exact ih1 _ _ _ _ _ _ _
   | exact ih2 _ _ _ _ _ _ _
   | exact ih3 _ _ _ _ _ _ _
   | exact ih4 _ _ _ _ _ _ _ _
   | exact LeO.none _
   | refine LeO.ite ?_ ?_
   | refine LeO.bind ?_ (fun _=>?_)
theorem spec_l17Steps.mono:∀ a0 a1 a2 k,LeO (spec_l17Steps.f k a0 a1 a2) (spec_l17Steps.f (k + 1) a0 a1 a2):=by
 intro a0 a1 a2 k
 obtain ⟨ih0,ih1,ih2,ih3,ih4⟩:=spec_l17Steps.mono_l k
 exact ih0 a0 a1 a2
def spec_l17Steps.T3:Bool × List (List Nat × List Nat):=(true,[([],[]),([0],[0]),([],[]),([2],[2]),([3],[3]),([4],[4]),([1,5],[1,5]),([6],[6]),([7,0,1,2,3,4,5,6,7],[7])])
def spec_l17Steps.B3:List Nat:=[0,1,0,4,12,28,63,127,255]
theorem spec_l17Steps.tab3:rtab .any (opsOf Try.f51 3) = spec_l17Steps.T3:=by kernel_rfl
theorem spec_l17Steps.bits3:waitsOk spec_l17Steps.T3.2 spec_l17Steps.B3 = true:=by kernel_rfl
def spec_l17Steps.T5:Bool × List (List Nat × List Nat):=(true,[([],[]),([0],[0]),([1],[1]),([2],[2]),([3],[3]),([],[]),([5],[5]),([6],[6]),([7],[7]),([8,4],[8]),([4,9,9],[4,9]),([10,10,0,1,2,3,4,5,6,7,8,9,10],[10])])
def spec_l17Steps.B5:List Nat:=[0,1,3,7,15,0,32,96,224,511,1023,2047]
theorem spec_l17Steps.tab5:rtab .any (opsOf Try.f51 5) = spec_l17Steps.T5:=by kernel_rfl
theorem spec_l17Steps.bits5:waitsOk spec_l17Steps.T5.2 spec_l17Steps.B5 = true:=by kernel_rfl
def spec_l17Steps.T13:Bool × List (List Nat × List Nat):=(true,[([],[]),([],[]),([],[]),([1,2],[1,2]),([3],[3]),([4],[4]),([],[]),([6],[6]),([],[]),([],[]),([8,9],[8,9]),([10],[10]),([11],[11]),([],[]),([13],[13]),([14],[14]),([15],[15]),([7,12,16],[7,12,16]),([5,17],[5,17]),([18],[18]),([0,19,17],[0,19]),([20,20,0,1,2,3,4,5,6,7,8,9,10,11,12,13,14,15,16,17,18,19,20],[0,20])])
def spec_l17Steps.B13:List Nat:=[0,0,0,6,14,30,0,64,0,0,768,1792,3840,0,8192,24576,57344,131008,262142,524286,1048575,2097151]
theorem spec_l17Steps.tab13:rtab .any (opsOf Try.f51 13) = spec_l17Steps.T13:=by kernel_rfl
theorem spec_l17Steps.bits13:waitsOk spec_l17Steps.T13.2 spec_l17Steps.B13 = true:=by kernel_rfl
def spec_l17Steps.T17:Bool × List (List Nat × List Nat):=(true,[([],[]),([],[]),([],[]),([1,2],[1,2]),([3],[3]),([4],[4]),([],[]),([6],[6]),([],[]),([8],[8]),([9],[9]),([10],[10]),([],[]),([],[]),([12,13],[12,13]),([14],[14]),([15],[15]),([7,11,16],[7,11,16]),([5,17],[5,17]),([18],[18]),([0,19,17],[0,19]),([20,20,0,1,2,3,4,5,6,7,8,9,10,11,12,13,14,15,16,17,18,19,20],[0,20])])
def spec_l17Steps.B17:List Nat:=[0,0,0,6,14,30,0,64,0,256,768,1792,0,0,12288,28672,61440,131008,262142,524286,1048575,2097151]
theorem spec_l17Steps.tab17:rtab .any (opsOf Try.f51 17) = spec_l17Steps.T17:=by kernel_rfl
theorem spec_l17Steps.bits17:waitsOk spec_l17Steps.T17.2 spec_l17Steps.B17 = true:=by kernel_rfl
def spec_l17Steps.T24:Bool × List (List Nat × List Nat):=(true,[([],[]),([],[]),([0,1],[0,1]),([2],[2]),([3],[3]),([4],[4]),([5],[5]),([6],[6]),([6],[6]),([7,8,6],[6,7,8]),([9,6],[6,9]),([10,6],[6,10]),([6],[6]),([6],[6]),([12,13,6],[6,12,13]),([14,6],[6,14]),([15,6],[6,15]),([16,6],[6,16]),([11,17,6],[6,11,17]),([6,18],[6,18])])
def spec_l17Steps.B24:List Nat:=[0,0,3,7,15,31,63,127,127,511,1023,2047,127,127,12415,28799,61567,127103,262143,524287]
theorem spec_l17Steps.tab24:rtab .any (opsOf Try.f51 24) = spec_l17Steps.T24:=by kernel_rfl
theorem spec_l17Steps.bits24:waitsOk spec_l17Steps.T24.2 spec_l17Steps.B24 = true:=by kernel_rfl
def spec_l17Steps.T25:Bool × List (List Nat × List Nat):=(true,[([],[]),([],[]),([1],[1]),([],[]),([],[]),([3,4],[3,4]),([5],[5]),([6],[6]),([],[]),([],[]),([8,9],[8,9]),([10],[10]),([11],[11]),([2,7,12],[2,7,12]),([13],[13]),([14],[14]),([0,15,13],[0,15]),([16,16,0,1,2,3,4,5,6,7,8,9,10,11,12,13,14,15,16],[0,16])])
def spec_l17Steps.B25:List Nat:=[0,0,2,0,0,24,56,120,0,0,768,1792,3840,8190,16382,32766,65535,131071]
theorem spec_l17Steps.tab25:rtab .any (opsOf Try.f51 25) = spec_l17Steps.T25:=by kernel_rfl
theorem spec_l17Steps.bits25:waitsOk spec_l17Steps.T25.2 spec_l17Steps.B25 = true:=by kernel_rfl
set_option maxHeartbeats 8000000 in
set_option maxRecDepth 100000 in
theorem spec_l17Steps.calls (k:Nat):∀ (a0_0:Int) (a0_1:Int) (P0_2_:Nat → Prop) (A0_2:Option Addr) (c0_2:Nat) (l0_2:List (S29)) (r:List (S44)) (w:World) (hs0_2:Kd.V k29 29 w w.heap.size (fun k_=>P0_2_ k_) (.slice A0_2 l0_2.length c0_2) l0_2) (h:spec_l17Steps.f k a0_0 a0_1 l0_2 = some r),
  Calls Try.prog 51 #[.agg #[.int .i64 a0_0,.int .i64 a0_1,.slice A0_2 l0_2.length c0_2]] w fun e w'=>∃ v0_:Value,e = .returned (v0_)∧Kd.N k44 44 w' w.heap.size (fun k_=>(P0_2_ k_ ∨ w.heap.size ≤ k_)) v0_ r∧Below w.heap.size w w':=by
 induction k using Nat.strongRecOn with
 | _ k ih =>
 intro a0_0 a0_1 P0_2_ A0_2 c0_2 l0_2 r w hs0_2 h
 cases k with
 | zero=>exact absurd h (by simp [spec_l17Steps.f])
 | succ k =>
 simp only [spec_l17Steps.f] at h
 have hu29:=Try.underlying29
 have hu44:=Try.underlying44
 have HO0_2:=aQ (show Kd.V k29 29 w w.heap.size (fun k_=>(P0_2_ k_ ∨ w.heap.size ≤ k_)) (.slice A0_2 l0_2.length c0_2) l0_2 from Kd.V_mono hs0_2 (fun k_ hk=>.inl hk))
 have HB:=aQ (Below.refl w.heap.size w)
 have H:=h
 clear h
 by_cases c2:a0_0 = 1
 ·rw [if_pos c2] at H
  have c2b0:(a0_0 == 1) = true:=beq_iff_eq.mpr c2
  have c2b1:(a0_0 != 1) = false:=bne_eq_false_iff_eq.mpr c2
  clear c2
  by_cases c3:0 < (l0_2.length:Int);rotate_left
  ·rw [if_neg c3] at H
   exact absurd H (by simp)
  rw [if_pos c3] at H
  have c3b0:decide (0 < (l0_2.length:Int)) = true:=decide_eq_true c3
  have c3b1:decide (0 < l0_2.length) = true:=decide_eq_true (by omega)
  clear c3
  obtain ⟨y445,hy445⟩:∃ y_:List (S44),y_ = (([(⟨a0_1,(⟨(rd_T29 l0_2 0).f0,(rd_T29 l0_2 0).f1,(rd_T29 l0_2 0).f2⟩:S29)⟩:S44)]:List (S44))):=⟨_,rfl⟩
  replace H:(some y445) = some r:=by rw [hy445];exact H
  have Ny445:=aQ hy445
  clear hy445
  obtain rfl:=Option.some.inj H
  go_enter Try.func51,Try.ntmps51
  try go_wp2_with (first | ((with_reducible refine gate_dst (N:=1) rfl ?_);refine box1 (N:=1) (cs:=#[.int .i64 a0_0,.int .i64 a0_1,.slice A0_2 l0_2.length c0_2]) (t:=29) ?_;intro gb443 hg w4 hbox hb;replace HO0_2:=aQ (Kd.V_below (Kd.V_elderB (nV HO0_2.out) gb443 (Nat.le_of_eq hg.symm)) hb);have BK443:=aQ (hbox);have GW443:=aQ (gB:w.heap.size ≤ gb443);have GE443:=GW443;replace HB:=aQ (below_step bB hb);clear hb hbox hg;obtain ⟨hcz5_0,hcz5_1,hcz5_2,hfz5_0,hfz5_1,hfz5_2⟩:=cz3 BK443.out))
  replace HO0_2:=aQ (Kd.V_drew HO0_2.out)
  replace BK443:=aQ (blk_drew BK443.out)
  replace HB:=aQ (below_drew1 HB.out)
  have p444:0 ≤ (0:Int):=(by omega)
  have q444:0 < (l0_2.length:Int):=of_decide_eq_true (by first | (with_reducible assumption) | assumption)
  obtain ⟨ad444,A444_2,c444_2,e444,hx444_0,hx444_1,hx444_2,hl444_2,hi444_2⟩:=at_T29 (Kd.V_reads' HO0_2.out).2.2 0 p444 q444
  cases e444
  obtain ⟨ce444,hce444,hMe444,hcc444⟩:=Kd.V_get HO0_2.out z29 0 p444 (by first | exact q444 | exact of_decide_eq_true (by first | (with_reducible assumption) | assumption) | (have e_:=(Kd.V_reads' HO0_2.out).1;omega))
  obtain ⟨ua444_2,uc444_2,rfl,ul444_2,ge444_2⟩:=k29_openF hMe444
  have hv444_2:=hcc444 2 _ rfl
  rw [add_field _ _ 2 (by omega)] at hv444_2
  replace hv444_2:=Option.some.inj (hv444_2.symm.trans hx444_2)
  injection hv444_2 with hva_ hvn_ hvc_
  rw [hva_] at ge444_2
  rw [hvc_] at ul444_2
  have HL444_2:=aQ (show Kd.V k29 29 _ w.heap.size _ _ ((rd_T29 l0_2 0).f2) from Kd.V_mk ul444_2 ge444_2)
  clear hva_ hvn_ hvc_ ge444_2 ul444_2
  clear hcc444 hce444
  have qi444:(0 < l0_2.length) = True:=eq_true (by omega)
  (try rw [show ((0:Int)).toNat = 0 from rfl,show 0 * 3 = 0 from rfl] at hx444_0 hx444_1 hx444_2)
  (try rw [Addr.add_zero'] at hx444_0)
  (try rw [Addr.add_zero'] at hx444_1)
  (try rw [Addr.add_zero'] at hx444_2)
  have HR444_2:=aQ hi444_2
  have HC444_2:=aQ hl444_2
  clear hi444_2 hl444_2
  replace p444:=eq_true p444
  replace q444:=eq_true q444
  refine start_ (n:=9) (S:=fun w'=>w'.cell? ⟨gb443,0,none⟩ = some (.int .i64 a0_0)∧w'.cell? ⟨gb443,1,none⟩ = some (.int .i64 a0_1)∧w'.cell? ⟨gb443,2,none⟩ = some (.slice (some ad444) l0_2.length c0_2)∧w'.cell? ad444 = some (.int .i64 ((rd_T29 l0_2 0).f0))∧w'.cell? ⟨ad444.block,ad444.off + 1,none⟩ = some (.int .i64 ((rd_T29 l0_2 0).f1))∧w'.cell? ⟨ad444.block,ad444.off + 2,none⟩ = some (.slice A444_2 ((rd_T29 l0_2 0).f2).length c444_2)) (ds:=[]) #[false,false,false,false,false,false,false,false,false] (by kernel_rfl) rfl rfl ⟨(blk_cell BK443.out 0).trans rfl,(blk_cell BK443.out 1).trans rfl,(blk_cell BK443.out 2).trans rfl,hx444_0,hx444_1,hx444_2⟩ (fun hHeld=>?_);refine with_tabW spec_l17Steps.tab3 spec_l17Steps.bits3 (fun HT_ HW_=>?_)
  generalize w4.drew = w6 at HO0_2 BK443 HB HL444_2 HR444_2 hx444_0 hx444_1 hx444_2 hHeld ⊢
  refine pur (i:=0) (N:=some 14) #[true,false,false,false,false,false,false,false,false] ?_
  refine pur (i:=2) (N:=some 16) #[true,false,true,false,false,false,false,false,false] ?_
  refine tak (i:=1) (N:=some 15) #[true,true,true,false,false,false,false,false,false] ?_
  refine tak (i:=3) (N:=some 17) #[true,true,true,true,false,false,false,false,false] ?_
  refine pur (i:=4) (N:=some 18) #[true,true,true,true,true,false,false,false,false] ?_
  refine tak (i:=5) (N:=some 19) #[true,true,true,true,true,true,false,false,false] ?_
  refine pur (i:=6) (N:=some 20) #[true,true,true,true,true,true,true,false,false] ?_
  refine one_ (i:=7) (N:=some 21) #[true,true,true,true,true,true,true,true,false] rfl rfl (one_of HT_.out (by kernel_rfl)) (by decide) (fun K hK=>?_)
  refine Kd.N_lit_step k44 _ 44 ?hg (N':=21) ?hd (xs:=([(⟨a0_1,(⟨(rd_T29 l0_2 0).f0,(rd_T29 l0_2 0).f1,(rd_T29 l0_2 0).f2⟩:S29)⟩:S44)]:List (S44))) (inner:=[.int .i64 a0_1,.int .i64 ((rd_T29 l0_2 0).f0),.int .i64 ((rd_T29 l0_2 0).f1),.slice A444_2 ((rd_T29 l0_2 0).f2).length c444_2]) (ok:=(fun k_=>(P0_2_ k_ ∨ w.heap.size ≤ k_)∧k_ ≠ gb443)) (okp:=(fun k_=>(P0_2_ k_ ∨ w.heap.size ≤ k_)∧k_ ≠ gb443)) ?hr ?hp (fun _ hk=>hk) ((show ∀ k_,w6.heap.size ≤ k_ → (fun k_=>(P0_2_ k_ ∨ w.heap.size ≤ k_)∧k_ ≠ gb443) k_ from fun k_ hk=>⟨(.inr (Nat.le_trans (below_size bB) hk)),Kd.freshB (nB BK443.out) k_ hk⟩) _ (Nat.le_refl _)) (Below.refl _ _) (Nat.le_refl _) (by simp) ?_;(case hd=>rfl);(case hg=>rfl);(case hr=>first | (go_simp;done) | (go_simp;rfl));(case hp=>exact (Reps.c4 (show Kd.FK k44 _ _ (⟨a0_1,(⟨(rd_T29 l0_2 0).f0,(rd_T29 l0_2 0).f1,(rd_T29 l0_2 0).f2⟩:S29)⟩:S44) [.int .i64 a0_1,.int .i64 ((rd_T29 l0_2 0).f0),.int .i64 ((rd_T29 l0_2 0).f1),.slice A444_2 ((rd_T29 l0_2 0).f2).length c444_2] from (k44_mkF _ _ (⟨a0_1,(⟨(rd_T29 l0_2 0).f0,(rd_T29 l0_2 0).f1,(rd_T29 l0_2 0).f2⟩:S29)⟩:S44) (Kd.V_reads' (Kd.V_mono (ok':=(fun k_=>(P0_2_ k_ ∨ w.heap.size ≤ k_)∧k_ ≠ gb443)) (HL444_2.out) (fun k_ hk=>⟨hk.1,hk.2⟩))).2.1 (Kd.V_F (Kd.V_mono (ok':=(fun k_=>(P0_2_ k_ ∨ w.heap.size ≤ k_)∧k_ ≠ gb443)) (HL444_2.out) (fun k_ hk=>⟨hk.1,hk.2⟩))))) (Reps.none _ _)))
  intro v446 w7 ho8 hb hg_ hnew_
  have HS3_:=(hb.cell (World.block_lt_of_cell? _ _ (hHeld.2.2.2.1))).trans (hHeld.2.2.2.1)
  have HS4_:=(hb.cell (World.block_lt_of_cell? _ _ (hHeld.2.2.2.2.1))).trans (hHeld.2.2.2.2.1)
  have HS5_:=(hb.cell (World.block_lt_of_cell? _ _ (hHeld.2.2.2.2.2))).trans (hHeld.2.2.2.2.2)
  clear hg_ hnew_
  (first | rw [← Ny445.out] at ho8 | (simp only [Int.reduceToNat] at ho8;rw [← Ny445.out] at ho8))
  replace HO0_2:=aQ (Kd.V_elder' (nV HO0_2.out) (Kd.N_base ho8) hb)
  replace HL444_2:=aQ (Kd.V_elder' (nV HL444_2.out) (Kd.N_base ho8) hb)
  have HO447:=aQ (Kd.N_lower ho8 (below_size bB))
  replace BK443:=aQ (blk_below (nB BK443.out) hb)
  replace HR444_2:=aQ (Kd.C_below (nC HR444_2.out) hb)
  replace HB:=aQ (below_step bB hb)
  clear hb ho8
  refine hK.out _ _ ⟨(blk_cell BK443.out 0).trans rfl,(blk_cell BK443.out 1).trans rfl,(blk_cell BK443.out 2).trans rfl,HS3_,HS4_,HS5_⟩ (fun hHeld=>?_)
  clear hK K
  refine nrm (N:=some 21) ?_
  refine pur (i:=8) (N:=some 2) #[true,true,true,true,true,true,true,true,true] ?_
  refine done_ (done_of HT_.out (by kernel_rfl)) ?_
  try go_wp2
  go_ret
  exact ⟨_,rfl,by (with_reducible repeat (first | apply Kd.N_alloc | apply Kd.N_drewN | apply Kd.N_drew));exact Kd.N_mono HO447.out (fun _ hk=>hk.1),bB⟩
 rw [if_neg c2] at H
 have c2b0:(a0_0 == 1) = false:=beq_eq_false_iff_ne.mpr c2
 have c2b1:(a0_0 != 1) = true:=bne_iff_ne.mpr c2
 by_cases c9:a0_0 = 3
 ·rw [if_pos c9] at H
  have c9b0:(a0_0 == 3) = true:=beq_iff_eq.mpr c9
  have c9b1:(a0_0 != 3) = false:=bne_eq_false_iff_eq.mpr c9
  clear c9
  by_cases c10:0 < (l0_2.length:Int);rotate_left
  ·rw [if_neg c10] at H
   exact absurd H (by simp)
  rw [if_pos c10] at H
  have c10b0:decide (0 < (l0_2.length:Int)) = true:=decide_eq_true c10
  have c10b1:decide (0 < l0_2.length) = true:=decide_eq_true (by omega)
  clear c10
  obtain ⟨t449,A11,H⟩:=bQ H
  (try dsimp only at H)
  by_cases c12:1 < (l0_2.length:Int);rotate_left
  ·rw [if_neg c12] at H
   exact absurd H (by simp)
  rw [if_pos c12] at H
  have c12b0:decide (1 < (l0_2.length:Int)) = true:=decide_eq_true c12
  have c12b1:decide (1 < l0_2.length) = true:=decide_eq_true (by omega)
  clear c12
  obtain ⟨t453,A13,H⟩:=bQ H
  (try dsimp only at H)
  by_cases c14:t449.length + t453.length < 2932031007402;rotate_left
  ·rw [if_neg c14] at H
   exact absurd H (by simp)
  rw [if_pos c14] at H
  have LMc14:=aQ c14
  clear c14
  obtain ⟨y456,hy456⟩:∃ y_:List (S44),y_ = (t449 ++ t453):=⟨_,rfl⟩
  replace H:(some y456) = some r:=by rw [hy456];exact H
  have Ny456:=aQ hy456
  clear hy456
  obtain rfl:=Option.some.inj H
  go_enter Try.func51,Try.ntmps51
  try go_wp2_with (first | ((with_reducible refine gate_dst (N:=1) rfl ?_);refine box1 (N:=1) (cs:=#[.int .i64 a0_0,.int .i64 a0_1,.slice A0_2 l0_2.length c0_2]) (t:=29) ?_;intro gb443 hg w15 hbox hb;replace HO0_2:=aQ (Kd.V_below (Kd.V_elderB (nV HO0_2.out) gb443 (Nat.le_of_eq hg.symm)) hb);have BK443:=aQ (hbox);have GW443:=aQ (gB:w.heap.size ≤ gb443);have GE443:=GW443;replace HB:=aQ (below_step bB hb);clear hb hbox hg;obtain ⟨hcz16_0,hcz16_1,hcz16_2,hfz16_0,hfz16_1,hfz16_2⟩:=cz3 BK443.out))
  replace HO0_2:=aQ (Kd.V_drew HO0_2.out)
  replace BK443:=aQ (blk_drew BK443.out)
  replace HB:=aQ (below_drew1 HB.out)
  have p448:0 ≤ (0:Int):=(by omega)
  have q448:0 < (l0_2.length:Int):=of_decide_eq_true (by first | (with_reducible assumption) | assumption)
  obtain ⟨ad448,A448_2,c448_2,e448,hx448_0,hx448_1,hx448_2,hl448_2,hi448_2⟩:=at_T29 (Kd.V_reads' HO0_2.out).2.2 0 p448 q448
  cases e448
  obtain ⟨ce448,hce448,hMe448,hcc448⟩:=Kd.V_get HO0_2.out z29 0 p448 (by first | exact q448 | exact of_decide_eq_true (by first | (with_reducible assumption) | assumption) | (have e_:=(Kd.V_reads' HO0_2.out).1;omega))
  obtain ⟨ua448_2,uc448_2,rfl,ul448_2,ge448_2⟩:=k29_openF hMe448
  have hv448_2:=hcc448 2 _ rfl
  rw [add_field _ _ 2 (by omega)] at hv448_2
  replace hv448_2:=Option.some.inj (hv448_2.symm.trans hx448_2)
  injection hv448_2 with hva_ hvn_ hvc_
  rw [hva_] at ge448_2
  rw [hvc_] at ul448_2
  have HL448_2:=aQ (show Kd.V k29 29 _ w.heap.size _ _ ((rd_T29 l0_2 0).f2) from Kd.V_mk ul448_2 ge448_2)
  clear hva_ hvn_ hvc_ ge448_2 ul448_2
  clear hcc448 hce448
  have qi448:(0 < l0_2.length) = True:=eq_true (by omega)
  (try rw [show ((0:Int)).toNat = 0 from rfl,show 0 * 3 = 0 from rfl] at hx448_0 hx448_1 hx448_2)
  (try rw [Addr.add_zero'] at hx448_0)
  (try rw [Addr.add_zero'] at hx448_1)
  (try rw [Addr.add_zero'] at hx448_2)
  have HR448_2:=aQ hi448_2
  have HC448_2:=aQ hl448_2
  clear hi448_2 hl448_2
  replace p448:=eq_true p448
  replace q448:=eq_true q448
  have p452:0 ≤ (1:Int):=(by omega)
  have q452:1 < (l0_2.length:Int):=of_decide_eq_true (by first | (with_reducible assumption) | assumption)
  obtain ⟨ad452,A452_2,c452_2,e452,hx452_0,hx452_1,hx452_2,hl452_2,hi452_2⟩:=at_T29 (Kd.V_reads' HO0_2.out).2.2 1 p452 q452
  obtain rfl:ad448 = ad452:=(by injection e452)
  obtain ⟨ce452,hce452,hMe452,hcc452⟩:=Kd.V_get HO0_2.out z29 1 p452 (by first | exact q452 | exact of_decide_eq_true (by first | (with_reducible assumption) | assumption) | (have e_:=(Kd.V_reads' HO0_2.out).1;omega))
  obtain ⟨ua452_2,uc452_2,rfl,ul452_2,ge452_2⟩:=k29_openF hMe452
  have hv452_2:=hcc452 2 _ rfl
  rw [add_field _ _ 2 (by omega)] at hv452_2
  replace hv452_2:=Option.some.inj (hv452_2.symm.trans hx452_2)
  injection hv452_2 with hva_ hvn_ hvc_
  rw [hva_] at ge452_2
  rw [hvc_] at ul452_2
  have HL452_2:=aQ (show Kd.V k29 29 _ w.heap.size _ _ ((rd_T29 l0_2 1).f2) from Kd.V_mk ul452_2 ge452_2)
  clear hva_ hvn_ hvc_ ge452_2 ul452_2
  clear hcc452 hce452
  (try simp only [show (1:Int).toNat = 1 from rfl,Nat.reduceMul,Nat.reduceEqDiff,Go.Addr.add,↓reduceIte] at hx452_0)
  (try simp only [show (1:Int).toNat = 1 from rfl,Nat.reduceMul,Nat.reduceEqDiff,Go.Addr.add,↓reduceIte] at hx452_1)
  (try simp only [show (1:Int).toNat = 1 from rfl,Nat.reduceMul,Nat.reduceEqDiff,Go.Addr.add,↓reduceIte] at hx452_2)
  have qi452:(1 < l0_2.length) = True:=eq_true (by omega)
  (try rw [show ((1:Int)).toNat = 1 from rfl,show 1 * 3 = 3 from rfl] at hx452_0 hx452_1 hx452_2)
  have HR452_2:=aQ hi452_2
  have HC452_2:=aQ hl452_2
  clear hi452_2 hl452_2
  replace p452:=eq_true p452
  replace q452:=eq_true q452
  refine start_ (n:=12) (S:=fun w'=>w'.cell? ⟨gb443,0,none⟩ = some (.int .i64 a0_0)∧w'.cell? ⟨gb443,1,none⟩ = some (.int .i64 a0_1)∧w'.cell? ⟨gb443,2,none⟩ = some (.slice (some ad448) l0_2.length c0_2)∧w'.cell? ad448 = some (.int .i64 ((rd_T29 l0_2 0).f0))∧w'.cell? ⟨ad448.block,ad448.off + 1,none⟩ = some (.int .i64 ((rd_T29 l0_2 0).f1))∧w'.cell? ⟨ad448.block,ad448.off + 2,none⟩ = some (.slice A448_2 ((rd_T29 l0_2 0).f2).length c448_2)∧w'.cell? ⟨ad448.block,ad448.off + 3,none⟩ = some (.int .i64 ((rd_T29 l0_2 1).f0))∧w'.cell? ⟨ad448.block,ad448.off + 3 + 1,none⟩ = some (.int .i64 ((rd_T29 l0_2 1).f1))∧w'.cell? ⟨ad448.block,ad448.off + 3 + 2,none⟩ = some (.slice A452_2 ((rd_T29 l0_2 1).f2).length c452_2)) (ds:=[10]) #[false,false,false,false,false,false,false,false,false,false,false,false] (by kernel_rfl) rfl rfl ⟨(blk_cell BK443.out 0).trans rfl,(blk_cell BK443.out 1).trans rfl,(blk_cell BK443.out 2).trans rfl,hx448_0,hx448_1,hx448_2,hx452_0,hx452_1,hx452_2⟩ (fun hHeld=>?_);refine with_tabW spec_l17Steps.tab5 spec_l17Steps.bits5 (fun HT_ HW_=>?_)
  generalize w15.drew = w17 at HO0_2 BK443 HB HL448_2 HL452_2 HR448_2 HR452_2 hx448_0 hx448_1 hx448_2 hx452_0 hx452_1 hx452_2 hHeld ⊢
  refine pur (i:=0) (N:=some 24) #[true,false,false,false,false,false,false,false,false,false,false,false] ?_
  refine pur (i:=5) (N:=some 29) #[true,false,false,false,false,true,false,false,false,false,false,false] ?_
  refine tak (i:=1) (N:=some 25) #[true,true,false,false,false,true,false,false,false,false,false,false] ?_
  refine pur (i:=2) (N:=some 26) #[true,true,true,false,false,true,false,false,false,false,false,false] ?_
  refine tak (i:=3) (N:=some 27) #[true,true,true,true,false,true,false,false,false,false,false,false] ?_
  refine tak (i:=6) (N:=some 30) #[true,true,true,true,false,true,true,false,false,false,false,false] ?_
  refine pur (i:=7) (N:=some 31) #[true,true,true,true,false,true,true,true,false,false,false,false] ?_
  refine tak (i:=8) (N:=some 32) #[true,true,true,true,false,true,true,true,true,false,false,false] ?_
  refine one_ (i:=4) (N:=some 28) #[true,true,true,true,true,true,true,true,true,false,false,false] rfl rfl (one_of HT_.out (by kernel_rfl)) (by decide) (fun K hK=>?_)
  refine goes1 Try.func51 #[.agg #[.int .i64 ((rd_T29 l0_2 0).f0),.int .i64 ((rd_T29 l0_2 0).f1),.slice A448_2 ((rd_T29 l0_2 0).f2).length c448_2]] ?_
  with_reducible refine (ih k (by omega) ((rd_T29 l0_2 0).f0) ((rd_T29 l0_2 0).f1) (fun k_=>((P0_2_ k_ ∨ w.heap.size ≤ k_)∧k_ ≠ gb443)) _ _ ((rd_T29 l0_2 0).f2) t449 _ ?side1 A11.out).mono ?_
  (case side1=>exact HL448_2.out)
  rintro e w18 ⟨v450,rfl,ho0,hb⟩
  have HS3_:=(hb.cell (World.block_lt_of_cell? _ _ (hHeld.2.2.2.1))).trans (hHeld.2.2.2.1)
  have HS4_:=(hb.cell (World.block_lt_of_cell? _ _ (hHeld.2.2.2.2.1))).trans (hHeld.2.2.2.2.1)
  have HS5_:=(hb.cell (World.block_lt_of_cell? _ _ (hHeld.2.2.2.2.2.1))).trans (hHeld.2.2.2.2.2.1)
  have HS6_:=(hb.cell (World.block_lt_of_cell? _ _ (hHeld.2.2.2.2.2.2.1))).trans (hHeld.2.2.2.2.2.2.1)
  have HS7_:=(hb.cell (World.block_lt_of_cell? _ _ (hHeld.2.2.2.2.2.2.2.1))).trans (hHeld.2.2.2.2.2.2.2.1)
  have HS8_:=(hb.cell (World.block_lt_of_cell? _ _ (hHeld.2.2.2.2.2.2.2.2))).trans (hHeld.2.2.2.2.2.2.2.2)
  refine ⟨_,rfl,?_⟩
  replace HO0_2:=aQ (Kd.V_elder' (nV HO0_2.out) (Kd.N_base ho0) hb)
  replace HL448_2:=aQ (Kd.V_elder' (nV HL448_2.out) (Kd.N_base ho0) hb)
  replace HL452_2:=aQ (Kd.V_elder' (nV HL452_2.out) (Kd.N_base ho0) hb)
  have HO451:=aQ (Kd.N_lower (Kd.N_mono (ok':=fun k_=>(P0_2_ k_ ∨ w.heap.size ≤ k_)∧k_ ≠ gb443) ho0 (fun k_ hk_=>⟨Or.elim hk_ (fun hs_=>hs_.1) (fun hn_=>(.inr (Nat.le_trans (below_size bB) hn_))),Or.elim hk_ (fun hs_=>hs_.2) (fun hn_=>(Kd.freshB (nB BK443.out) k_ hn_))⟩)) (below_size bB))
  replace BK443:=aQ (blk_below (nB BK443.out) hb)
  replace HR448_2:=aQ (Kd.C_below (nC HR448_2.out) hb)
  replace HR452_2:=aQ (Kd.C_below (nC HR452_2.out) hb)
  replace HB:=aQ (below_step bB hb)
  (try clear hb)
  (try clear ho0)
  refine hK.out _ _ ⟨(blk_cell BK443.out 0).trans rfl,(blk_cell BK443.out 1).trans rfl,(blk_cell BK443.out 2).trans rfl,HS3_,HS4_,HS5_,HS6_,HS7_,HS8_⟩ (fun hHeld=>?_)
  clear hK K
  refine nrm (N:=some 28) ?_
  refine one_ (i:=9) (N:=some 33) #[true,true,true,true,true,true,true,true,true,true,false,false] rfl rfl (one_of HT_.out (by kernel_rfl)) (by decide) (fun K hK=>?_)
  refine goes1 Try.func51 #[.agg #[.int .i64 ((rd_T29 l0_2 1).f0),.int .i64 ((rd_T29 l0_2 1).f1),.slice A452_2 ((rd_T29 l0_2 1).f2).length c452_2]] ?_
  with_reducible refine (ih k (by omega) ((rd_T29 l0_2 1).f0) ((rd_T29 l0_2 1).f1) (fun k_=>(((P0_2_ k_ ∨ w.heap.size ≤ k_)∧k_ ≠ gb443)∧some k_ ≠ (v450:Value).ownBlock)) _ _ ((rd_T29 l0_2 1).f2) t453 _ ?side1 A13.out).mono ?_
  (case side1=>exact HL452_2.out)
  rintro e w19 ⟨v454,rfl,ho0,hb⟩
  have HS3_:=(hb.cell (World.block_lt_of_cell? _ _ (hHeld.2.2.2.1))).trans (hHeld.2.2.2.1)
  have HS4_:=(hb.cell (World.block_lt_of_cell? _ _ (hHeld.2.2.2.2.1))).trans (hHeld.2.2.2.2.1)
  have HS5_:=(hb.cell (World.block_lt_of_cell? _ _ (hHeld.2.2.2.2.2.1))).trans (hHeld.2.2.2.2.2.1)
  have HS6_:=(hb.cell (World.block_lt_of_cell? _ _ (hHeld.2.2.2.2.2.2.1))).trans (hHeld.2.2.2.2.2.2.1)
  have HS7_:=(hb.cell (World.block_lt_of_cell? _ _ (hHeld.2.2.2.2.2.2.2.1))).trans (hHeld.2.2.2.2.2.2.2.1)
  have HS8_:=(hb.cell (World.block_lt_of_cell? _ _ (hHeld.2.2.2.2.2.2.2.2))).trans (hHeld.2.2.2.2.2.2.2.2)
  refine ⟨_,rfl,?_⟩
  replace HO0_2:=aQ (Kd.V_elder' (nV HO0_2.out) (Kd.N_base ho0) hb)
  replace HL448_2:=aQ (Kd.V_elder' (nV HL448_2.out) (Kd.N_base ho0) hb)
  replace HL452_2:=aQ (Kd.V_elder' (nV HL452_2.out) (Kd.N_base ho0) hb)
  have HO455:=aQ (Kd.N_lower (Kd.N_mono (ok':=fun k_=>(P0_2_ k_ ∨ w.heap.size ≤ k_)∧some k_ ≠ (v450:Value).ownBlock∧k_ ≠ gb443) ho0 (fun k_ hk_=>⟨Or.elim hk_ (fun hs_=>hs_.1.1) (fun hn_=>(.inr (Nat.le_trans (below_size bB) hn_))),Or.elim hk_ (fun hs_=>hs_.2) (fun hn_=>(Kd.fresh' (Kd.N_lt (nN HO451.out)) k_ hn_)),Or.elim hk_ (fun hs_=>hs_.1.2) (fun hn_=>(Kd.freshB (nB BK443.out) k_ hn_))⟩)) (below_size bB))
  replace HO451:=aQ (Kd.N_elder' (nN HO451.out) (Kd.N_base ho0) hb)
  replace BK443:=aQ (blk_below (nB BK443.out) hb)
  replace HR448_2:=aQ (Kd.C_below (nC HR448_2.out) hb)
  replace HR452_2:=aQ (Kd.C_below (nC HR452_2.out) hb)
  replace HB:=aQ (below_step bB hb)
  (try clear hb)
  (try clear ho0)
  obtain ⟨Ao21,co21,eo21⟩:=Kd.N_slice HO455.out
  (first | subst eo21 | (injection eo21 with f1_ f2_ f3_;have f4_:=f1_.symm;have f5_:=f3_.symm;clear f1_ f2_ f3_;subst f4_;subst f5_))
  refine hK.out _ _ ⟨(blk_cell BK443.out 0).trans rfl,(blk_cell BK443.out 1).trans rfl,(blk_cell BK443.out 2).trans rfl,HS3_,HS4_,HS5_,HS6_,HS7_,HS8_⟩ (fun hHeld=>?_)
  clear hK K
  refine nrm (N:=some 33) ?_
  refine last_ (i:=10) (N:=some 34) #[true,true,true,true,true,true,true,true,true,true,true,false] rfl rfl (one_of HT_.out (by kernel_rfl)) (by decide) (fun K hK=>?_)
  refine Kd.N_append_rows_step k44 (w0:=w) w.heap.size (by rfl) (.tmp 28) (.tmp 33) 35 44 (.agg #[(.int .i64 0),(.int .i64 0),(.int .i64 0),(.slice none 0 0)]) 48 rfl Try.underlying35 info44 rfl (by decide) (by omega) v450 t449 t453 _ _ _ (fun k_=>(P0_2_ k_ ∨ w.heap.size ≤ k_)∧k_ ≠ gb443) (fun k_=>((fun k_=>(P0_2_ k_ ∨ w.heap.size ≤ k_)∧k_ ≠ gb443)) k_∧some k_ ≠ (v450:Value).ownBlock) rfl rfl ?aO ?aR (fun _ hk=>hk) ?aF ?aB ?aS ?aL ?_
  (case aR=>exact (by skip;exact Kd.N_F (Kd.N_mono (ok':=(fun k_=>((fun k_=>(P0_2_ k_ ∨ w.heap.size ≤ k_)∧k_ ≠ gb443)) k_∧some k_ ≠ (v450:Value).ownBlock)) (HO455.out) (fun k_ hk=>⟨⟨hk.1,hk.2.2⟩,hk.2.1⟩))))
  (case aB=>exact bB)
  (case aF=>exact (fun k_ hk=>⟨(.inr (Nat.le_trans (below_size bB) hk)),Kd.freshB (nB BK443.out) k_ hk⟩))
  (case aO=>exact (nN (Kd.N_mono HO451.out (fun _ hk=>⟨hk.1.1,hk.1.2⟩))))
  (case aS=>exact (below_size bB))
  (case aL=>have:=LMc14.out;omega)
  intro v457 w20 ho hb hg hat
  rw [← Ny456.out] at ho
  have n0_:=aQ (Kd.V_afterv (ok:=(fun k_=>(P0_2_ k_ ∨ w.heap.size ≤ k_)∧some k_ ≠ (.slice Ao21 t453.length co21:Value).ownBlock∧k_ ≠ gb443)) (nV (Kd.V_mono HO0_2.out (fun _ hk=>⟨⟨hk.1.1.1,⟨hk.2,hk.1.1.2⟩⟩,hk.1.2⟩))) hg hat)
  have n1_:=aQ (blk_grown (nB BK443.out) hg (Kd.N_ne HO451.out BK443.out (by decide)))
  have n2_:=aQ (Kd.V_afterv (ok:=(fun k_=>(P0_2_ k_ ∨ w.heap.size ≤ k_)∧some k_ ≠ (.slice Ao21 t453.length co21:Value).ownBlock∧k_ ≠ gb443)) (nV (Kd.V_mono HL448_2.out (fun _ hk=>⟨⟨hk.1.1.1,⟨hk.2,hk.1.1.2⟩⟩,hk.1.2⟩))) hg hat)
  have n3_:=aQ (Kd.V_afterv (ok:=(fun k_=>(P0_2_ k_ ∨ w.heap.size ≤ k_)∧some k_ ≠ (.slice Ao21 t453.length co21:Value).ownBlock∧k_ ≠ gb443)) (nV (Kd.V_mono HL452_2.out (fun _ hk=>⟨⟨hk.1.1.1,⟨hk.2,hk.1.1.2⟩⟩,hk.1.2⟩))) hg hat)
  have n4_:=aQ (Kd.N_afterv (ok:=(fun k_=>(P0_2_ k_ ∨ w.heap.size ≤ k_)∧k_ ≠ gb443)) (nN (Kd.N_mono HO455.out (fun _ hk=>⟨⟨hk.1,hk.2.2⟩,hk.2.1⟩))) hg hat)
  have n5_:=aQ (hb)
  have n6_:=aQ (ho)
  clear HO0_2 BK443 HL448_2 HL452_2 HO455 HB HO451
  have HO0_2:=n0_
  have BK443:=n1_
  have HL448_2:=n2_
  have HL452_2:=n3_
  have HO455:=n4_
  have HB:=n5_
  have HO458:=n6_
  clear n0_ n1_ n2_ n3_ n4_ n5_ n6_
  clear ho hb hg hat
  refine hK.out _ _ ?_
  clear hK K
  refine nrm (N:=some 34) ?_
  refine pur (i:=11) (N:=some 2) #[true,true,true,true,true,true,true,true,true,true,true,true] ?_
  refine done_ (done_of HT_.out (by kernel_rfl)) ?_
  try go_wp2
  go_ret
  exact ⟨_,rfl,by (with_reducible repeat (first | apply Kd.N_alloc | apply Kd.N_drewN | apply Kd.N_drew));exact Kd.N_mono HO458.out (fun _ hk=>hk.1),bB⟩
 rw [if_neg c9] at H
 have c9b0:(a0_0 == 3) = false:=beq_eq_false_iff_ne.mpr c9
 have c9b1:(a0_0 != 3) = true:=bne_iff_ne.mpr c9
 by_cases c22:a0_0 = 4;rotate_left
 ·rw [if_neg c22] at H
  have c22b0:(a0_0 == 4) = false:=beq_eq_false_iff_ne.mpr c22
  have c22b1:(a0_0 != 4) = true:=bne_iff_ne.mpr c22
  obtain ⟨y505,hy505⟩:∃ y_:List (S44),y_ = (([]:List (S44))):=⟨_,rfl⟩
  replace H:(some y505) = some r:=by rw [hy505];exact H
  have Ny505:=aQ hy505
  clear hy505
  obtain rfl:=Option.some.inj H
  go_enter Try.func51,Try.ntmps51
  go_wp2_with (first | ((with_reducible refine gate_dst (N:=1) rfl ?_);refine box1 (N:=1) (cs:=#[.int .i64 a0_0,.int .i64 a0_1,.slice A0_2 l0_2.length c0_2]) (t:=29) ?_;intro gb443 hg w73 hbox hb;replace HO0_2:=aQ (Kd.V_below (Kd.V_elderB (nV HO0_2.out) gb443 (Nat.le_of_eq hg.symm)) hb);have BK443:=aQ (hbox);have GW443:=aQ (gB:w.heap.size ≤ gb443);have GE443:=GW443;replace HB:=aQ (below_step bB hb);clear hb hbox hg;obtain ⟨hcz74_0,hcz74_1,hcz74_2,hfz74_0,hfz74_1,hfz74_2⟩:=cz3 BK443.out) | ((with_reducible refine gate_dst (N:=152) rfl ?_);refine Kd.N_lit k44 _ 44 ?hg (N':=152) ?hd (xs:=([]:List (S44))) (inner:=[]) (ok:=(fun k_=>(P0_2_ k_ ∨ w.heap.size ≤ k_)∧k_ ≠ gb443)) (okp:=(fun k_=>(P0_2_ k_ ∨ w.heap.size ≤ k_)∧k_ ≠ gb443)) ?hr ?hp (fun _ hk=>hk) ((show ∀ k_,w73.heap.size ≤ k_ → (fun k_=>(P0_2_ k_ ∨ w.heap.size ≤ k_)∧k_ ≠ gb443) k_ from fun k_ hk=>⟨(.inr (Nat.le_trans (below_size bB) hk)),Kd.freshB (nB BK443.out) k_ hk⟩) _ (Nat.le_refl _)) (Below.refl _ _) (Nat.le_refl _) (by simp) ?_;(case hd=>rfl);(case hg=>rfl);(case hr=>first | (go_simp;done) | (go_simp;rfl));(case hp=>exact (Reps.none _ _));intro v506 w75 ho76 hb hg_ hnew_;clear hg_ hnew_;(first | rw [← Ny505.out] at ho76 | (simp only [Int.reduceToNat] at ho76;rw [← Ny505.out] at ho76));replace HO0_2:=aQ (Kd.V_elder' (nV HO0_2.out) (Kd.N_base ho76) hb);have HO507:=aQ (Kd.N_lower ho76 (below_size bB));replace BK443:=aQ (blk_below (nB BK443.out) hb);replace HB:=aQ (below_step bB hb);clear hb ho76))
  go_ret
  exact ⟨_,rfl,by (with_reducible repeat (first | apply Kd.N_alloc | apply Kd.N_drewN | apply Kd.N_drew));exact Kd.N_mono HO507.out (fun _ hk=>hk.1),bB⟩
 rw [if_pos c22] at H
 have c22b0:(a0_0 == 4) = true:=beq_iff_eq.mpr c22
 have c22b1:(a0_0 != 4) = false:=bne_eq_false_iff_eq.mpr c22
 clear c22
 obtain ⟨y459,hy459⟩:∃ y_:List (S44),y_ = (([]:List (S44))):=⟨_,rfl⟩
 replace H:(if 0 < (l0_2.length:Int) then ((spec_l17Steps.f k ((rd_T29 l0_2 0).f0) ((rd_T29 l0_2 0).f1) ((rd_T29 l0_2 0).f2)).bind fun t463=>(if 1 < (l0_2.length:Int) then ((spec_l17Steps.f k ((rd_T29 l0_2 1).f0) ((rd_T29 l0_2 1).f1) ((rd_T29 l0_2 1).f2)).bind fun t467=>(spec_l17Steps.l0 k y459 t463 t467 0 a0_0 a0_1 l0_2)) else (none))) else (none)) = some r:=by rw [hy459];exact H
 have Ny459:=aQ hy459
 clear hy459
 by_cases c23:0 < (l0_2.length:Int);rotate_left
 ·rw [if_neg c23] at H
  exact absurd H (by simp)
 rw [if_pos c23] at H
 have c23b0:decide (0 < (l0_2.length:Int)) = true:=decide_eq_true c23
 have c23b1:decide (0 < l0_2.length) = true:=decide_eq_true (by omega)
 clear c23
 obtain ⟨t463,A24,H⟩:=bQ H
 (try dsimp only at H)
 by_cases c25:1 < (l0_2.length:Int);rotate_left
 ·rw [if_neg c25] at H
  exact absurd H (by simp)
 rw [if_pos c25] at H
 have c25b0:decide (1 < (l0_2.length:Int)) = true:=decide_eq_true c25
 have c25b1:decide (1 < l0_2.length) = true:=decide_eq_true (by omega)
 clear c25
 obtain ⟨t467,A26,H⟩:=bQ H
 (try dsimp only at H)
 have H':=aQ H
 clear H
 go_enter Try.func51,Try.ntmps51
 go_wp2_with (first | ((with_reducible refine gate_dst (N:=1) rfl ?_);refine box1 (N:=1) (cs:=#[.int .i64 a0_0,.int .i64 a0_1,.slice A0_2 l0_2.length c0_2]) (t:=29) ?_;intro gb443 hg w27 hbox hb;replace HO0_2:=aQ (Kd.V_below (Kd.V_elderB (nV HO0_2.out) gb443 (Nat.le_of_eq hg.symm)) hb);have BK443:=aQ (hbox);have GW443:=aQ (gB:w.heap.size ≤ gb443);have GE443:=GW443;replace HB:=aQ (below_step bB hb);clear hb hbox hg;obtain ⟨hcz28_0,hcz28_1,hcz28_2,hfz28_0,hfz28_1,hfz28_2⟩:=cz3 BK443.out) | ((with_reducible refine gate_dst (N:=37) rfl ?_);refine Kd.N_lit k44 _ 44 ?hg (N':=37) ?hd (xs:=([]:List (S44))) (inner:=[]) (ok:=(fun k_=>(P0_2_ k_ ∨ w.heap.size ≤ k_)∧k_ ≠ gb443)) (okp:=(fun k_=>(P0_2_ k_ ∨ w.heap.size ≤ k_)∧k_ ≠ gb443)) ?hr ?hp (fun _ hk=>hk) ((show ∀ k_,w27.heap.size ≤ k_ → (fun k_=>(P0_2_ k_ ∨ w.heap.size ≤ k_)∧k_ ≠ gb443) k_ from fun k_ hk=>⟨(.inr (Nat.le_trans (below_size bB) hk)),Kd.freshB (nB BK443.out) k_ hk⟩) _ (Nat.le_refl _)) (Below.refl _ _) (Nat.le_refl _) (by simp) ?_;(case hd=>rfl);(case hg=>rfl);(case hr=>first | (go_simp;done) | (go_simp;rfl));(case hp=>exact (Reps.none _ _));intro v460 w29 ho30 hb hg_ hnew_;clear hg_ hnew_;(first | rw [← Ny459.out] at ho30 | (simp only [Int.reduceToNat] at ho30;rw [← Ny459.out] at ho30));replace HO0_2:=aQ (Kd.V_elder' (nV HO0_2.out) (Kd.N_base ho30) hb);have HO461:=aQ (Kd.N_lower ho30 (below_size bB));replace BK443:=aQ (blk_below (nB BK443.out) hb);replace HB:=aQ (below_step bB hb);clear hb ho30;obtain ⟨hcz31_0,hcz31_1,hcz31_2,hfz31_0,hfz31_1,hfz31_2⟩:=cz3 BK443.out;have p462:0 ≤ (0:Int):=(by omega);have q462:0 < (l0_2.length:Int):=of_decide_eq_true (by first | (with_reducible assumption) | assumption);obtain ⟨ad462,A462_2,c462_2,e462,hx462_0,hx462_1,hx462_2,hl462_2,hi462_2⟩:=at_T29 (Kd.V_reads' HO0_2.out).2.2 0 p462 q462;cases e462;obtain ⟨ce462,hce462,hMe462,hcc462⟩:=Kd.V_get HO0_2.out z29 0 p462 (by first | exact q462 | exact of_decide_eq_true (by first | (with_reducible assumption) | assumption) | (have e_:=(Kd.V_reads' HO0_2.out).1;omega));obtain ⟨ua462_2,uc462_2,rfl,ul462_2,ge462_2⟩:=k29_openF hMe462;have hv462_2:=hcc462 2 _ rfl;rw [add_field _ _ 2 (by omega)] at hv462_2;replace hv462_2:=Option.some.inj (hv462_2.symm.trans hx462_2);injection hv462_2 with hva_ hvn_ hvc_;rw [hva_] at ge462_2;rw [hvc_] at ul462_2;have HL462_2:=aQ (show Kd.V k29 29 _ w.heap.size _ _ ((rd_T29 l0_2 0).f2) from Kd.V_mk ul462_2 ge462_2);clear hva_ hvn_ hvc_ ge462_2 ul462_2;clear hcc462 hce462;have qi462:(0 < l0_2.length) = True:=eq_true (by omega);(try rw [show ((0:Int)).toNat = 0 from rfl,show 0 * 3 = 0 from rfl] at hx462_0 hx462_1 hx462_2);(try rw [Addr.add_zero'] at hx462_0);(try rw [Addr.add_zero'] at hx462_1);(try rw [Addr.add_zero'] at hx462_2);have HR462_2:=aQ hi462_2;have HC462_2:=aQ hl462_2;clear hi462_2 hl462_2;replace p462:=eq_true p462;replace q462:=eq_true q462) | ((with_reducible refine gate_callee (f:=51) rfl ?_);refine goesL_ (some 42) rfl rfl Try.func51 (by kernel_rfl) rfl #[.agg #[.int .i64 ((rd_T29 l0_2 0).f0),.int .i64 ((rd_T29 l0_2 0).f1),.slice A462_2 ((rd_T29 l0_2 0).f2).length c462_2]] rfl mP ?_;(with_reducible refine (ih k (by omega) ((rd_T29 l0_2 0).f0) ((rd_T29 l0_2 0).f1) (fun k_=>(((P0_2_ k_ ∨ w.heap.size ≤ k_)∧k_ ≠ gb443)∧some k_ ≠ (v460:Value).ownBlock)) _ _ ((rd_T29 l0_2 0).f2) t463 _ ?side1 A24.out).mono ?_);(case side1=>exact HL462_2.out);rintro e w32 ⟨v464,rfl,ho0,hb⟩;refine ⟨_,rfl,?_⟩;replace HO0_2:=aQ (Kd.V_elder' (nV HO0_2.out) (Kd.N_base ho0) hb);replace HL462_2:=aQ (Kd.V_elder' (nV HL462_2.out) (Kd.N_base ho0) hb);have HO465:=aQ (Kd.N_lower (Kd.N_mono (ok':=fun k_=>(P0_2_ k_ ∨ w.heap.size ≤ k_)∧some k_ ≠ (v460:Value).ownBlock∧k_ ≠ gb443) ho0 (fun k_ hk_=>⟨Or.elim hk_ (fun hs_=>hs_.1.1) (fun hn_=>(.inr (Nat.le_trans (below_size bB) hn_))),Or.elim hk_ (fun hs_=>hs_.2) (fun hn_=>(Kd.fresh' (Kd.N_lt (nN HO461.out)) k_ hn_)),Or.elim hk_ (fun hs_=>hs_.1.2) (fun hn_=>(Kd.freshB (nB BK443.out) k_ hn_))⟩)) (below_size bB));replace HO461:=aQ (Kd.N_elder' (nN HO461.out) (Kd.N_base ho0) hb);replace BK443:=aQ (blk_below (nB BK443.out) hb);replace HR462_2:=aQ (Kd.C_below (nC HR462_2.out) hb);replace HB:=aQ (below_step bB hb);(try clear hb);(try clear ho0);obtain ⟨hcz33_0,hcz33_1,hcz33_2,hfz33_0,hfz33_1,hfz33_2⟩:=cz3 BK443.out;have p466:0 ≤ (1:Int):=(by omega);have q466:1 < (l0_2.length:Int):=of_decide_eq_true (by first | (with_reducible assumption) | assumption);obtain ⟨ad466,A466_2,c466_2,e466,hx466_0,hx466_1,hx466_2,hl466_2,hi466_2⟩:=at_T29 (Kd.V_reads' HO0_2.out).2.2 1 p466 q466;obtain rfl:ad462 = ad466:=(by injection e466);obtain ⟨ce466,hce466,hMe466,hcc466⟩:=Kd.V_get HO0_2.out z29 1 p466 (by first | exact q466 | exact of_decide_eq_true (by first | (with_reducible assumption) | assumption) | (have e_:=(Kd.V_reads' HO0_2.out).1;omega));obtain ⟨ua466_2,uc466_2,rfl,ul466_2,ge466_2⟩:=k29_openF hMe466;have hv466_2:=hcc466 2 _ rfl;rw [add_field _ _ 2 (by omega)] at hv466_2;replace hv466_2:=Option.some.inj (hv466_2.symm.trans hx466_2);injection hv466_2 with hva_ hvn_ hvc_;rw [hva_] at ge466_2;rw [hvc_] at ul466_2;have HL466_2:=aQ (show Kd.V k29 29 _ w.heap.size _ _ ((rd_T29 l0_2 1).f2) from Kd.V_mk ul466_2 ge466_2);clear hva_ hvn_ hvc_ ge466_2 ul466_2;clear hcc466 hce466;(try simp only [show (1:Int).toNat = 1 from rfl,Nat.reduceMul,Nat.reduceEqDiff,Go.Addr.add,↓reduceIte] at hx466_0);(try simp only [show (1:Int).toNat = 1 from rfl,Nat.reduceMul,Nat.reduceEqDiff,Go.Addr.add,↓reduceIte] at hx466_1);(try simp only [show (1:Int).toNat = 1 from rfl,Nat.reduceMul,Nat.reduceEqDiff,Go.Addr.add,↓reduceIte] at hx466_2);have qi466:(1 < l0_2.length) = True:=eq_true (by omega);(try rw [show ((1:Int)).toNat = 1 from rfl,show 1 * 3 = 3 from rfl] at hx466_0 hx466_1 hx466_2);have HR466_2:=aQ hi466_2;have HC466_2:=aQ hl466_2;clear hi466_2 hl466_2;replace p466:=eq_true p466;replace q466:=eq_true q466) | ((with_reducible refine gate_callee (f:=51) rfl ?_);refine goesL_ (some 47) rfl rfl Try.func51 (by kernel_rfl) rfl #[.agg #[.int .i64 ((rd_T29 l0_2 1).f0),.int .i64 ((rd_T29 l0_2 1).f1),.slice A466_2 ((rd_T29 l0_2 1).f2).length c466_2]] rfl mP ?_;(with_reducible refine (ih k (by omega) ((rd_T29 l0_2 1).f0) ((rd_T29 l0_2 1).f1) (fun k_=>((((P0_2_ k_ ∨ w.heap.size ≤ k_)∧k_ ≠ gb443)∧some k_ ≠ (v460:Value).ownBlock)∧some k_ ≠ (v464:Value).ownBlock)) _ _ ((rd_T29 l0_2 1).f2) t467 _ ?side1 A26.out).mono ?_);(case side1=>exact HL466_2.out);rintro e w34 ⟨v468,rfl,ho0,hb⟩;refine ⟨_,rfl,?_⟩;replace HO0_2:=aQ (Kd.V_elder' (nV HO0_2.out) (Kd.N_base ho0) hb);replace HL462_2:=aQ (Kd.V_elder' (nV HL462_2.out) (Kd.N_base ho0) hb);replace HL466_2:=aQ (Kd.V_elder' (nV HL466_2.out) (Kd.N_base ho0) hb);have HO469:=aQ (Kd.N_lower (Kd.N_mono (ok':=fun k_=>(P0_2_ k_ ∨ w.heap.size ≤ k_)∧some k_ ≠ (v460:Value).ownBlock∧some k_ ≠ (v464:Value).ownBlock∧k_ ≠ gb443) ho0 (fun k_ hk_=>⟨Or.elim hk_ (fun hs_=>hs_.1.1.1) (fun hn_=>(.inr (Nat.le_trans (below_size bB) hn_))),Or.elim hk_ (fun hs_=>hs_.1.2) (fun hn_=>(Kd.fresh' (Kd.N_lt (nN HO461.out)) k_ hn_)),Or.elim hk_ (fun hs_=>hs_.2) (fun hn_=>(Kd.fresh' (Kd.N_lt (nN HO465.out)) k_ hn_)),Or.elim hk_ (fun hs_=>hs_.1.1.2) (fun hn_=>(Kd.freshB (nB BK443.out) k_ hn_))⟩)) (below_size bB));replace HO461:=aQ (Kd.N_elder' (nN HO461.out) (Kd.N_base ho0) hb);replace HO465:=aQ (Kd.N_elder' (nN HO465.out) (Kd.N_base ho0) hb);replace BK443:=aQ (blk_below (nB BK443.out) hb);replace HR462_2:=aQ (Kd.C_below (nC HR462_2.out) hb);replace HR466_2:=aQ (Kd.C_below (nC HR466_2.out) hb);replace HB:=aQ (below_step bB hb);(try clear hb);(try clear ho0)))
 go_loopg [3,6] k (fun kq v3 v6 w'=>∃ (x3_1:List (S44)) (x6_1:Int),v6 = .int .i64 x6_1∧Aside0 (spec_l17Steps.l0 kq x3_1 t463 t467 x6_1 a0_0 a0_1 l0_2 = some r)∧Aside0 (kq ≤ k)∧Aside0 (Kd.N k44 44 w' w.heap.size (fun k_=>(P0_2_ k_ ∨ w.heap.size ≤ k_)∧some k_ ≠ (v464:Value).ownBlock∧some k_ ≠ (v468:Value).ownBlock∧k_ ≠ gb443) v3 x3_1)∧Aside0 (Kd.N k44 44 w' w.heap.size (fun k_=>(P0_2_ k_ ∨ w.heap.size ≤ k_)∧some k_ ≠ (v3:Value).ownBlock∧some k_ ≠ (v468:Value).ownBlock∧k_ ≠ gb443) v464 t463)∧Aside0 (Kd.N k44 44 w' w.heap.size (fun k_=>(P0_2_ k_ ∨ w.heap.size ≤ k_)∧some k_ ≠ (v3:Value).ownBlock∧some k_ ≠ (v464:Value).ownBlock∧k_ ≠ gb443) v468 t467)∧Aside0 (Kd.V k29 29 w' w.heap.size (fun k_=>(P0_2_ k_ ∨ w.heap.size ≤ k_)∧some k_ ≠ (v3:Value).ownBlock∧some k_ ≠ (v464:Value).ownBlock∧some k_ ≠ (v468:Value).ownBlock∧k_ ≠ gb443) (.slice (some ad462) l0_2.length c0_2) l0_2)∧Aside0 (w'.heap[gb443]? = some (.cells #[.int .i64 a0_0,.int .i64 a0_1,(.slice (some ad462) l0_2.length c0_2)] 29 (0,0)))∧Aside0 (Below w.heap.size w w'))
 case atStart=>exact ⟨(y459),(0),rfl,H',⟨Nat.le_refl _⟩,⟨nN (Kd.N_mono HO461.out (fun _ hk=>⟨hk.1.1.1,⟨hk.1.2,⟨hk.2,hk.1.1.2⟩⟩⟩))⟩,⟨nN (Kd.N_mono HO465.out (fun _ hk=>⟨hk.1.1,⟨hk.1.2.1,⟨hk.2,hk.1.2.2⟩⟩⟩))⟩,⟨nN HO469.out⟩,⟨nV (Kd.V_mono HO0_2.out (fun _ hk=>⟨hk.1.1.1.1,⟨hk.1.1.2,⟨hk.1.2,⟨hk.2,hk.1.1.1.2⟩⟩⟩⟩))⟩,⟨nB BK443.out⟩,⟨bB⟩⟩
 case round =>
  clear H'
  try clear c2
  try clear c2b0
  try clear c2b1
  try clear c9
  try clear c9b0
  try clear c9b1
  try clear c22b0
  try clear c22b1
  try clear c23b0
  try clear c23b1
  try clear c25b0
  try clear c25b1
  try clear hcz28_0
  try clear hcz28_1
  try clear hcz28_2
  try clear hcz31_0
  try clear hcz31_1
  try clear hcz31_2
  try clear hcz33_0
  try clear hcz33_1
  try clear hcz33_2
  try clear hfz28_0
  try clear hfz28_1
  try clear hfz28_2
  try clear hfz31_0
  try clear hfz31_1
  try clear hfz31_2
  try clear hfz33_0
  try clear hfz33_1
  try clear hfz33_2
  try clear hx462_0
  try clear hx462_1
  try clear hx462_2
  try clear hx466_0
  try clear hx466_1
  try clear hx466_2
  try clear p462
  try clear p466
  try clear q462
  try clear q466
  repeat (first | clear HO_3 | clear HO_4 | clear HO_5 | clear HO_444002 | clear BK443 | clear HB)
  obtain ⟨x3_1,x6_1,rfl,HA,HK1,HO_3,HO_4,HO_5,HO_444002,BK443,HB⟩:=hrel
  cases gk with
  | zero=>exact absurd HA.out (by simp [spec_l17Steps.l0])
  | succ k1 =>
   have H:=HA.out
   clear HA
   simp only [spec_l17Steps.l0] at H
   by_cases c35:x6_1 < (t463.length:Int)
   ·rw [if_pos c35] at H
    have c35b0:decide (x6_1 < (t463.length:Int)) = true:=decide_eq_true c35
    clear c35
    by_cases c36:0 ≤ x6_1;rotate_left
    ·rw [if_neg c36] at H
     exact absurd H (by simp)
    rw [if_pos c36] at H
    have c36b0:decide (0 ≤ x6_1) = true:=decide_eq_true c36
    clear c36
    by_cases c37:1 < (l0_2.length:Int);rotate_left
    ·rw [if_neg c37] at H
     exact absurd H (by simp)
    rw [if_pos c37] at H
    have c37b0:decide (1 < (l0_2.length:Int)) = true:=decide_eq_true c37
    have c37b1:decide (1 < l0_2.length) = true:=decide_eq_true (by omega)
    clear c37
    obtain ⟨⟨t473,t474,t475⟩,A38,H⟩:=bQ H
    dsimp only at H
    by_cases c39:x3_1.length < 2932031007402;rotate_left
    ·rw [if_neg c39] at H
     exact absurd H (by simp)
    rw [if_pos c39] at H
    have LMc39:=aQ c39
    clear c39
    obtain ⟨y478,hy478⟩:∃ y_:List (S44),y_ = (x3_1 ++ [(⟨(rd_T44 t463 x6_1).f0,(⟨t473,t474,t475⟩:S29)⟩:S44)]):=⟨_,rfl⟩
    replace H:(spec_l17Steps.l0 k1 y478 t463 t467 (wrap64 (x6_1 + 1)) a0_0 a0_1 l0_2) = some r:=by rw [hy478];exact H
    have Ny478:=aQ hy478
    clear hy478
    have H':=aQ H
    clear H
    obtain ⟨Ao40,co40,eo40⟩:=Kd.N_slice HO_4.out
    subst eo40
    try go_wp2
    replace HO_3:=aQ (Kd.N_drew HO_3.out)
    replace HO_4:=aQ (Kd.N_drew HO_4.out)
    replace HO_5:=aQ (Kd.N_drew HO_5.out)
    replace HO_444002:=aQ (Kd.V_drew HO_444002.out)
    replace BK443:=aQ (blk_drew BK443.out)
    replace HB:=aQ (below_drew1 HB.out)
    have p470:0 ≤ (x6_1:Int):=of_decide_eq_true (by first | (with_reducible assumption) | assumption)
    have q470:x6_1 < (t463.length:Int):=of_decide_eq_true (by first | (with_reducible assumption) | assumption)
    obtain ⟨ad470,A470_3,c470_3,e470,hx470_0,hx470_1,hx470_2,hx470_3,hl470_3,hi470_3⟩:=at_T44 (Kd.N_reads' HO_4.out).2.2 x6_1 p470 q470
    cases e470
    obtain ⟨ce470,hce470,hMe470,hcc470⟩:=Kd.N_get HO_4.out z44 x6_1 p470 (by first | exact q470 | exact of_decide_eq_true (by first | (with_reducible assumption) | assumption) | (have e_:=(Kd.N_reads' HO_4.out).1;omega))
    obtain ⟨ua470_3,uc470_3,rfl,ul470_3,ge470_3⟩:=k44_openF hMe470
    have hv470_3:=hcc470 3 _ rfl
    rw [add_field _ _ 3 (by omega)] at hv470_3
    replace hv470_3:=Option.some.inj (hv470_3.symm.trans hx470_3)
    injection hv470_3 with hva_ hvn_ hvc_
    rw [hva_] at ge470_3
    rw [hvc_] at ul470_3
    have HL470_3:=aQ (show Kd.V k29 29 _ w.heap.size _ _ ((rd_T44 t463 x6_1).f1.f2) from Kd.V_mk ul470_3 ge470_3)
    clear hva_ hvn_ hvc_ ge470_3 ul470_3
    clear hcc470 hce470
    have HR470_3:=aQ hi470_3
    have HC470_3:=aQ hl470_3
    clear hi470_3 hl470_3
    replace p470:=eq_true p470
    replace q470:=eq_true q470
    have p471:0 ≤ (x6_1:Int):=of_decide_eq_true (by first | (with_reducible assumption) | assumption)
    have q471:x6_1 < (t463.length:Int):=of_decide_eq_true (by first | (with_reducible assumption) | assumption)
    obtain ⟨ad471,A471_3,c471_3,e471,hx471_0,hx471_1,hx471_2,hx471_3,hl471_3,hi471_3⟩:=at_T44 (Kd.N_reads' HO_4.out).2.2 x6_1 p471 q471
    obtain rfl:ad470 = ad471:=(by injection e471)
    obtain ⟨ce471,hce471,hMe471,hcc471⟩:=Kd.N_get HO_4.out z44 x6_1 p471 (by first | exact q471 | exact of_decide_eq_true (by first | (with_reducible assumption) | assumption) | (have e_:=(Kd.N_reads' HO_4.out).1;omega))
    obtain ⟨ua471_3,uc471_3,rfl,ul471_3,ge471_3⟩:=k44_openF hMe471
    have hv471_3:=hcc471 3 _ rfl
    rw [add_field _ _ 3 (by omega)] at hv471_3
    replace hv471_3:=Option.some.inj (hv471_3.symm.trans hx471_3)
    injection hv471_3 with hva_ hvn_ hvc_
    rw [hva_] at ge471_3
    rw [hvc_] at ul471_3
    have HL471_3:=aQ (show Kd.V k29 29 _ w.heap.size _ _ ((rd_T44 t463 x6_1).f1.f2) from Kd.V_mk ul471_3 ge471_3)
    clear hva_ hvn_ hvc_ ge471_3 ul471_3
    clear hcc471 hce471
    have HR471_3:=aQ hi471_3
    have HC471_3:=aQ hl471_3
    clear hi471_3 hl471_3
    replace p471:=eq_true p471
    replace q471:=eq_true q471
    have ea_:=Option.some.inj (hx470_3.symm.trans hx471_3)
    injection ea_ with ea_ en_ ec_
    subst ea_
    subst ec_
    clear en_
    have p472:0 ≤ (1:Int):=(by omega)
    have q472:1 < (l0_2.length:Int):=of_decide_eq_true (by first | (with_reducible assumption) | assumption)
    obtain ⟨ad472,A472_2,c472_2,e472,hx472_0,hx472_1,hx472_2,hl472_2,hi472_2⟩:=at_T29 (Kd.V_reads' HO_444002.out).2.2 1 p472 q472
    obtain rfl:ad462 = ad472:=(by injection e472)
    obtain ⟨ce472,hce472,hMe472,hcc472⟩:=Kd.V_get HO_444002.out z29 1 p472 (by first | exact q472 | exact of_decide_eq_true (by first | (with_reducible assumption) | assumption) | (have e_:=(Kd.V_reads' HO_444002.out).1;omega))
    obtain ⟨ua472_2,uc472_2,rfl,ul472_2,ge472_2⟩:=k29_openF hMe472
    have hv472_2:=hcc472 2 _ rfl
    rw [add_field _ _ 2 (by omega)] at hv472_2
    replace hv472_2:=Option.some.inj (hv472_2.symm.trans hx472_2)
    injection hv472_2 with hva_ hvn_ hvc_
    rw [hva_] at ge472_2
    rw [hvc_] at ul472_2
    have HL472_2:=aQ (show Kd.V k29 29 _ w.heap.size _ _ ((rd_T29 l0_2 1).f2) from Kd.V_mk ul472_2 ge472_2)
    clear hva_ hvn_ hvc_ ge472_2 ul472_2
    clear hcc472 hce472
    (try simp only [show (1:Int).toNat = 1 from rfl,Nat.reduceMul,Nat.reduceEqDiff,Go.Addr.add,↓reduceIte] at hx472_0)
    (try simp only [show (1:Int).toNat = 1 from rfl,Nat.reduceMul,Nat.reduceEqDiff,Go.Addr.add,↓reduceIte] at hx472_1)
    (try simp only [show (1:Int).toNat = 1 from rfl,Nat.reduceMul,Nat.reduceEqDiff,Go.Addr.add,↓reduceIte] at hx472_2)
    have qi472:(1 < l0_2.length) = True:=eq_true (by omega)
    (try rw [show ((1:Int)).toNat = 1 from rfl,show 1 * 3 = 3 from rfl] at hx472_0 hx472_1 hx472_2)
    have HR472_2:=aQ hi472_2
    have HC472_2:=aQ hl472_2
    clear hi472_2 hl472_2
    replace p472:=eq_true p472
    replace q472:=eq_true q472
    refine start_ (n:=22) (S:=fun w'=>w'.cell? ⟨gb443,0,none⟩ = some (.int .i64 a0_0)∧w'.cell? ⟨gb443,1,none⟩ = some (.int .i64 a0_1)∧w'.cell? ⟨gb443,2,none⟩ = some (.slice (some ad462) l0_2.length c0_2)∧w'.cell? (ad470.add ((x6_1).toNat * 4)) = some (.int .i64 ((rd_T44 t463 x6_1).f0))∧w'.cell? ⟨(ad470.add ((x6_1).toNat * 4)).block,(ad470.add ((x6_1).toNat * 4)).off + 1,none⟩ = some (.int .i64 ((rd_T44 t463 x6_1).f1.f0))∧w'.cell? ⟨(ad470.add ((x6_1).toNat * 4)).block,(ad470.add ((x6_1).toNat * 4)).off + 2,none⟩ = some (.int .i64 ((rd_T44 t463 x6_1).f1.f1))∧w'.cell? ⟨(ad470.add ((x6_1).toNat * 4)).block,(ad470.add ((x6_1).toNat * 4)).off + 3,none⟩ = some (.slice A470_3 ((rd_T44 t463 x6_1).f1.f2).length c470_3)∧w'.cell? (ad470.add ((x6_1).toNat * 4)) = some (.int .i64 ((rd_T44 t463 x6_1).f0))∧w'.cell? ⟨(ad470.add ((x6_1).toNat * 4)).block,(ad470.add ((x6_1).toNat * 4)).off + 1,none⟩ = some (.int .i64 ((rd_T44 t463 x6_1).f1.f0))∧w'.cell? ⟨(ad470.add ((x6_1).toNat * 4)).block,(ad470.add ((x6_1).toNat * 4)).off + 2,none⟩ = some (.int .i64 ((rd_T44 t463 x6_1).f1.f1))∧w'.cell? ⟨(ad470.add ((x6_1).toNat * 4)).block,(ad470.add ((x6_1).toNat * 4)).off + 3,none⟩ = some (.slice A470_3 ((rd_T44 t463 x6_1).f1.f2).length c470_3)∧w'.cell? ⟨ad462.block,ad462.off + 3,none⟩ = some (.int .i64 ((rd_T29 l0_2 1).f0))∧w'.cell? ⟨ad462.block,ad462.off + 3 + 1,none⟩ = some (.int .i64 ((rd_T29 l0_2 1).f1))∧w'.cell? ⟨ad462.block,ad462.off + 3 + 2,none⟩ = some (.slice A472_2 ((rd_T29 l0_2 1).f2).length c472_2)) (ds:=[19,20]) #[false,false,false,false,false,false,false,false,false,false,false,false,false,false,false,false,false,false,false,false,false,false] (by kernel_rfl) rfl rfl ⟨(blk_cell BK443.out 0).trans rfl,(blk_cell BK443.out 1).trans rfl,(blk_cell BK443.out 2).trans rfl,hx470_0,hx470_1,hx470_2,hx470_3,hx471_0,hx471_1,hx471_2,hx471_3,hx472_0,hx472_1,hx472_2⟩ (fun hHeld=>?_);refine with_tabW spec_l17Steps.tab13 spec_l17Steps.bits13 (fun HT_ HW_=>?_)
    generalize wr.drew = w41 at HO_3 HO_4 HO_5 HO_444002 BK443 HB HL470_3 HL471_3 HL472_2 HR470_3 HR471_3 HR472_2 hx470_0 hx470_1 hx470_2 hx470_3 hx471_0 hx471_1 hx471_2 hx471_3 hx472_0 hx472_1 hx472_2 hHeld ⊢
    refine pur (i:=0) (N:=some 54) #[true,false,false,false,false,false,false,false,false,false,false,false,false,false,false,false,false,false,false,false,false,false] ?_
    refine pur (i:=1) (N:=some 55) #[true,true,false,false,false,false,false,false,false,false,false,false,false,false,false,false,false,false,false,false,false,false] ?_
    refine pur (i:=2) (N:=some 56) #[true,true,true,false,false,false,false,false,false,false,false,false,false,false,false,false,false,false,false,false,false,false] ?_
    refine pur (i:=3) (N:=some 57) #[true,true,true,true,false,false,false,false,false,false,false,false,false,false,false,false,false,false,false,false,false,false] ?_
    refine pur (i:=4) (N:=some 58) #[true,true,true,true,true,false,false,false,false,false,false,false,false,false,false,false,false,false,false,false,false,false] ?_
    refine pur (i:=6) (N:=some 60) #[true,true,true,true,true,false,true,false,false,false,false,false,false,false,false,false,false,false,false,false,false,false] ?_
    refine pur (i:=8) (N:=some 62) #[true,true,true,true,true,false,true,false,true,false,false,false,false,false,false,false,false,false,false,false,false,false] ?_
    refine pur (i:=9) (N:=some 63) #[true,true,true,true,true,false,true,false,true,true,false,false,false,false,false,false,false,false,false,false,false,false] ?_
    refine pur (i:=10) (N:=some 64) #[true,true,true,true,true,false,true,false,true,true,true,false,false,false,false,false,false,false,false,false,false,false] ?_
    refine pur (i:=11) (N:=some 65) #[true,true,true,true,true,false,true,false,true,true,true,true,false,false,false,false,false,false,false,false,false,false] ?_
    refine pur (i:=13) (N:=some 67) #[true,true,true,true,true,false,true,false,true,true,true,true,false,true,false,false,false,false,false,false,false,false] ?_
    refine tak (i:=5) (N:=some 59) #[true,true,true,true,true,true,true,false,true,true,true,true,false,true,false,false,false,false,false,false,false,false] ?_
    refine tak (i:=7) (N:=some 61) #[true,true,true,true,true,true,true,true,true,true,true,true,false,true,false,false,false,false,false,false,false,false] ?_
    refine tak (i:=12) (N:=some 66) #[true,true,true,true,true,true,true,true,true,true,true,true,true,true,false,false,false,false,false,false,false,false] ?_
    refine tak (i:=14) (N:=some 68) #[true,true,true,true,true,true,true,true,true,true,true,true,true,true,true,false,false,false,false,false,false,false] ?_
    refine pur (i:=15) (N:=some 69) #[true,true,true,true,true,true,true,true,true,true,true,true,true,true,true,true,false,false,false,false,false,false] ?_
    refine tak (i:=16) (N:=some 70) #[true,true,true,true,true,true,true,true,true,true,true,true,true,true,true,true,true,false,false,false,false,false] ?_
    refine one_ (i:=17) (N:=some 71) #[true,true,true,true,true,true,true,true,true,true,true,true,true,true,true,true,true,true,false,false,false,false] rfl rfl (one_of HT_.out (by kernel_rfl)) (by decide) (fun K hK=>?_)
    refine goes1 Try.func66 #[.int .i64 a0_0,.agg #[.int .i64 ((rd_T44 t463 x6_1).f1.f0),.int .i64 ((rd_T44 t463 x6_1).f1.f1),.slice A470_3 ((rd_T44 t463 x6_1).f1.f2).length c470_3],.agg #[.int .i64 ((rd_T29 l0_2 1).f0),.int .i64 ((rd_T29 l0_2 1).f1),.slice A472_2 ((rd_T29 l0_2 1).f2).length c472_2]] ?_
    with_reducible refine (spec_l17Two.calls a0_0 ((rd_T44 t463 x6_1).f1.f0) ((rd_T44 t463 x6_1).f1.f1) (fun k_=>(((P0_2_ k_ ∨ w.heap.size ≤ k_)∧(some k_ ≠ (u3:Value).ownBlock∧(some k_ ≠ (v468:Value).ownBlock∧k_ ≠ gb443)))∧some k_ ≠ (.slice (some ad470) t463.length co40:Value).ownBlock)) _ _ ((rd_T44 t463 x6_1).f1.f2) ((rd_T29 l0_2 1).f0) ((rd_T29 l0_2 1).f1) (fun k_=>((P0_2_ k_ ∨ w.heap.size ≤ k_)∧(some k_ ≠ (u3:Value).ownBlock∧(some k_ ≠ (.slice (some ad470) t463.length co40:Value).ownBlock∧(some k_ ≠ (v468:Value).ownBlock∧k_ ≠ gb443))))) _ _ ((rd_T29 l0_2 1).f2) t473 t474 t475 _ ?side1 ?side2 A38.out).mono ?_
    (case side1=>exact HL471_3.out)
    (case side2=>exact HL472_2.out)
    rintro e w42 ⟨v476,rfl,ho0,hb⟩
    have HS3_:=(hb.cell (World.block_lt_of_cell? _ _ (hHeld.2.2.2.1))).trans (hHeld.2.2.2.1)
    have HS4_:=(hb.cell (World.block_lt_of_cell? _ _ (hHeld.2.2.2.2.1))).trans (hHeld.2.2.2.2.1)
    have HS5_:=(hb.cell (World.block_lt_of_cell? _ _ (hHeld.2.2.2.2.2.1))).trans (hHeld.2.2.2.2.2.1)
    have HS6_:=(hb.cell (World.block_lt_of_cell? _ _ (hHeld.2.2.2.2.2.2.1))).trans (hHeld.2.2.2.2.2.2.1)
    have HS7_:=(hb.cell (World.block_lt_of_cell? _ _ (hHeld.2.2.2.2.2.2.2.1))).trans (hHeld.2.2.2.2.2.2.2.1)
    have HS8_:=(hb.cell (World.block_lt_of_cell? _ _ (hHeld.2.2.2.2.2.2.2.2.1))).trans (hHeld.2.2.2.2.2.2.2.2.1)
    have HS9_:=(hb.cell (World.block_lt_of_cell? _ _ (hHeld.2.2.2.2.2.2.2.2.2.1))).trans (hHeld.2.2.2.2.2.2.2.2.2.1)
    have HS10_:=(hb.cell (World.block_lt_of_cell? _ _ (hHeld.2.2.2.2.2.2.2.2.2.2.1))).trans (hHeld.2.2.2.2.2.2.2.2.2.2.1)
    have HS11_:=(hb.cell (World.block_lt_of_cell? _ _ (hHeld.2.2.2.2.2.2.2.2.2.2.2.1))).trans (hHeld.2.2.2.2.2.2.2.2.2.2.2.1)
    have HS12_:=(hb.cell (World.block_lt_of_cell? _ _ (hHeld.2.2.2.2.2.2.2.2.2.2.2.2.1))).trans (hHeld.2.2.2.2.2.2.2.2.2.2.2.2.1)
    have HS13_:=(hb.cell (World.block_lt_of_cell? _ _ (hHeld.2.2.2.2.2.2.2.2.2.2.2.2.2))).trans (hHeld.2.2.2.2.2.2.2.2.2.2.2.2.2)
    refine ⟨_,rfl,?_⟩
    replace HO_444002:=aQ (Kd.V_elder' (nV HO_444002.out) (Kd.N_base ho0) hb)
    replace HL470_3:=aQ (Kd.V_elder' (nV HL470_3.out) (Kd.N_base ho0) hb)
    replace HL471_3:=aQ (Kd.V_elder' (nV HL471_3.out) (Kd.N_base ho0) hb)
    replace HL472_2:=aQ (Kd.V_elder' (nV HL472_2.out) (Kd.N_base ho0) hb)
    have HO477:=aQ (Kd.N_lower (Kd.N_mono (ok':=fun k_=>(P0_2_ k_ ∨ w.heap.size ≤ k_)∧some k_ ≠ (u3:Value).ownBlock∧some k_ ≠ (.slice (some ad470) t463.length co40:Value).ownBlock∧some k_ ≠ (v468:Value).ownBlock∧k_ ≠ gb443) ho0 (fun k_ hk_=>⟨Or.elim hk_ (fun hs_=>Or.elim hs_ (fun hs_=>hs_.1.1) (fun hs_=>hs_.1)) (fun hn_=>(.inr (Nat.le_trans (below_size bB) hn_))),Or.elim hk_ (fun hs_=>Or.elim hs_ (fun hs_=>hs_.1.2.1) (fun hs_=>hs_.2.1)) (fun hn_=>(Kd.fresh' (Kd.N_lt (nN HO_3.out)) k_ hn_)),Or.elim hk_ (fun hs_=>Or.elim hs_ (fun hs_=>hs_.2) (fun hs_=>hs_.2.2.1)) (fun hn_=>(Kd.fresh' (Kd.N_lt (nN HO_4.out)) k_ hn_)),Or.elim hk_ (fun hs_=>Or.elim hs_ (fun hs_=>hs_.1.2.2.1) (fun hs_=>hs_.2.2.2.1)) (fun hn_=>(Kd.fresh' (Kd.N_lt (nN HO_5.out)) k_ hn_)),Or.elim hk_ (fun hs_=>Or.elim hs_ (fun hs_=>hs_.1.2.2.2) (fun hs_=>hs_.2.2.2.2)) (fun hn_=>(Kd.freshB (nB BK443.out) k_ hn_))⟩)) (below_size bB))
    replace HO_3:=aQ (Kd.N_elder' (nN HO_3.out) (Kd.N_base ho0) hb)
    replace HO_4:=aQ (Kd.N_elder' (nN HO_4.out) (Kd.N_base ho0) hb)
    replace HO_5:=aQ (Kd.N_elder' (nN HO_5.out) (Kd.N_base ho0) hb)
    replace BK443:=aQ (blk_below (nB BK443.out) hb)
    replace HR470_3:=aQ (Kd.C_below (nC HR470_3.out) hb)
    replace HR471_3:=aQ (Kd.C_below (nC HR471_3.out) hb)
    replace HR472_2:=aQ (Kd.C_below (nC HR472_2.out) hb)
    replace HB:=aQ (below_step bB hb)
    (try clear hb)
    (try clear ho0)
    obtain ⟨Ao43,co43,eo43⟩:=Kd.N_slice HO477.out
    (first | subst eo43 | (injection eo43 with f1_ f2_ f3_;have f4_:=f1_.symm;have f5_:=f3_.symm;clear f1_ f2_ f3_;subst f4_;subst f5_))
    refine hK.out _ _ ⟨(blk_cell BK443.out 0).trans rfl,(blk_cell BK443.out 1).trans rfl,(blk_cell BK443.out 2).trans rfl,HS3_,HS4_,HS5_,HS6_,HS7_,HS8_,HS9_,HS10_,HS11_,HS12_,HS13_⟩ (fun hHeld=>?_)
    clear hK K
    refine nrm (N:=some 71) ?_
    refine pur (i:=18) (N:=some 72) #[true,true,true,true,true,true,true,true,true,true,true,true,true,true,true,true,true,true,true,false,false,false] ?_
    refine last_ (i:=19) (N:=some 73) #[true,true,true,true,true,true,true,true,true,true,true,true,true,true,true,true,true,true,true,true,false,false] rfl rfl (one_of HT_.out (by kernel_rfl)) (by decide) (fun K hK=>?_)
    refine value_ (w1:=?_) (v:=?_) (by rfl) rfl ?_ ?_
    rotate_left 2
    ·go_simp
     constructor
     ·rfl
     ·rfl
    refine hK.out _ _ ?_
    clear hK K
    refine nrm (N:=some 73) ?_
    refine last_ (i:=20) (N:=some 74) #[true,true,true,true,true,true,true,true,true,true,true,true,true,true,true,true,true,true,true,true,true,false] rfl rfl (one_of HT_.out (by kernel_rfl)) (by decide) (fun K hK=>?_)
    refine Kd.N_append_step k44 (w0:=w) w.heap.size (by rfl) (.tmp 54) (.tmp 73) 35 44 (.agg #[(.int .i64 0),(.int .i64 0),(.int .i64 0),(.slice none 0 0)]) 48 rfl Try.underlying35 info44 rfl (by decide) (by omega) u3 x3_1 (⟨(rd_T44 t463 x6_1).f0,(⟨t473,t474,t475⟩:S29)⟩:S44) [.int .i64 ((rd_T44 t463 x6_1).f0),.int .i64 t473,.int .i64 t474,.slice Ao43 t475.length co43] (fun k_=>(P0_2_ k_ ∨ w.heap.size ≤ k_)∧some k_ ≠ (.slice (some ad470) t463.length co40:Value).ownBlock∧some k_ ≠ (v468:Value).ownBlock∧k_ ≠ gb443) (fun k_=>((fun k_=>(P0_2_ k_ ∨ w.heap.size ≤ k_)∧some k_ ≠ (.slice (some ad470) t463.length co40:Value).ownBlock∧some k_ ≠ (v468:Value).ownBlock∧k_ ≠ gb443)) k_∧some k_ ≠ (u3:Value).ownBlock) rfl rfl ?aP (fun _ hk=>hk) ?aF ?aO ?aB ?aS ?aL ?_
    (case aP=>exact (k44_mkF _ _ (⟨(rd_T44 t463 x6_1).f0,(⟨t473,t474,t475⟩:S29)⟩:S44) (Kd.N_reads' (Kd.N_mono (ok':=(fun k_=>((fun k_=>(P0_2_ k_ ∨ w.heap.size ≤ k_)∧some k_ ≠ (.slice (some ad470) t463.length co40:Value).ownBlock∧some k_ ≠ (v468:Value).ownBlock∧k_ ≠ gb443)) k_∧some k_ ≠ (u3:Value).ownBlock)) (HO477.out) (fun k_ hk=>⟨⟨hk.1,⟨hk.2.2.1,⟨hk.2.2.2.1,hk.2.2.2.2⟩⟩⟩,hk.2.1⟩))).2.1 (Kd.N_F (Kd.N_mono (ok':=(fun k_=>((fun k_=>(P0_2_ k_ ∨ w.heap.size ≤ k_)∧some k_ ≠ (.slice (some ad470) t463.length co40:Value).ownBlock∧some k_ ≠ (v468:Value).ownBlock∧k_ ≠ gb443)) k_∧some k_ ≠ (u3:Value).ownBlock)) (HO477.out) (fun k_ hk=>⟨⟨hk.1,⟨hk.2.2.1,⟨hk.2.2.2.1,hk.2.2.2.2⟩⟩⟩,hk.2.1⟩)))))
    (case aB=>exact bB)
    (case aF=>exact (fun k_ hk=>⟨(.inr (Nat.le_trans (below_size bB) hk)),Kd.fresh' (Kd.N_lt (nN HO_4.out)) k_ hk,Kd.fresh' (Kd.N_lt (nN HO_5.out)) k_ hk,Kd.freshB (nB BK443.out) k_ hk⟩))
    (case aO=>exact (nN (Kd.N_mono HO_3.out (fun _ hk=>⟨hk.1.1,⟨hk.1.2.1,⟨hk.1.2.2.1,hk.1.2.2.2⟩⟩⟩))))
    (case aS=>exact (below_size bB))
    (case aL=>have:=LMc39.out;omega)
    intro v479 w44 ho hb hg hat
    rw [← Ny478.out] at ho
    have n0_:=aQ (Kd.N_afterv (ok:=(fun k_=>(P0_2_ k_ ∨ w.heap.size ≤ k_)∧some k_ ≠ (v468:Value).ownBlock∧some k_ ≠ (.slice Ao43 t475.length co43:Value).ownBlock∧k_ ≠ gb443)) (nN (Kd.N_mono HO_4.out (fun _ hk=>⟨⟨hk.1.1,⟨hk.1.2.2.1,⟨hk.2,hk.1.2.2.2⟩⟩⟩,hk.1.2.1⟩))) hg hat)
    have n1_:=aQ (Kd.N_afterv (ok:=(fun k_=>(P0_2_ k_ ∨ w.heap.size ≤ k_)∧some k_ ≠ (.slice (some ad470) t463.length co40:Value).ownBlock∧some k_ ≠ (.slice Ao43 t475.length co43:Value).ownBlock∧k_ ≠ gb443)) (nN (Kd.N_mono HO_5.out (fun _ hk=>⟨⟨hk.1.1,⟨hk.1.2.2.1,⟨hk.2,hk.1.2.2.2⟩⟩⟩,hk.1.2.1⟩))) hg hat)
    have n2_:=aQ (Kd.V_afterv (ok:=(fun k_=>(P0_2_ k_ ∨ w.heap.size ≤ k_)∧some k_ ≠ (.slice (some ad470) t463.length co40:Value).ownBlock∧some k_ ≠ (v468:Value).ownBlock∧some k_ ≠ (.slice Ao43 t475.length co43:Value).ownBlock∧k_ ≠ gb443)) (nV (Kd.V_mono HO_444002.out (fun _ hk=>⟨⟨hk.1.1,⟨hk.1.2.2.1,⟨hk.1.2.2.2.1,⟨hk.2,hk.1.2.2.2.2⟩⟩⟩⟩,hk.1.2.1⟩))) hg hat)
    have n3_:=aQ (blk_grown (nB BK443.out) hg (Kd.N_ne HO_3.out BK443.out (by decide)))
    have n4_:=aQ (Kd.V_afterv (ok:=(fun k_=>(P0_2_ k_ ∨ w.heap.size ≤ k_)∧some k_ ≠ (.slice (some ad470) t463.length co40:Value).ownBlock∧some k_ ≠ (v468:Value).ownBlock∧some k_ ≠ (.slice Ao43 t475.length co43:Value).ownBlock∧k_ ≠ gb443)) (nV (Kd.V_mono HL470_3.out (fun _ hk=>⟨⟨hk.1.1.1,⟨hk.1.2,⟨hk.1.1.2.2.1,⟨hk.2,hk.1.1.2.2.2⟩⟩⟩⟩,hk.1.1.2.1⟩))) hg hat)
    have n5_:=aQ (Kd.V_afterv (ok:=(fun k_=>(P0_2_ k_ ∨ w.heap.size ≤ k_)∧some k_ ≠ (.slice (some ad470) t463.length co40:Value).ownBlock∧some k_ ≠ (v468:Value).ownBlock∧some k_ ≠ (.slice Ao43 t475.length co43:Value).ownBlock∧k_ ≠ gb443)) (nV (Kd.V_mono HL471_3.out (fun _ hk=>⟨⟨hk.1.1.1,⟨hk.1.2,⟨hk.1.1.2.2.1,⟨hk.2,hk.1.1.2.2.2⟩⟩⟩⟩,hk.1.1.2.1⟩))) hg hat)
    have n6_:=aQ (Kd.V_afterv (ok:=(fun k_=>(P0_2_ k_ ∨ w.heap.size ≤ k_)∧some k_ ≠ (.slice (some ad470) t463.length co40:Value).ownBlock∧some k_ ≠ (v468:Value).ownBlock∧some k_ ≠ (.slice Ao43 t475.length co43:Value).ownBlock∧k_ ≠ gb443)) (nV (Kd.V_mono HL472_2.out (fun _ hk=>⟨⟨hk.1.1,⟨hk.1.2.2.1,⟨hk.1.2.2.2.1,⟨hk.2,hk.1.2.2.2.2⟩⟩⟩⟩,hk.1.2.1⟩))) hg hat)
    have n7_:=aQ (hb)
    have n8_:=aQ (ho)
    clear HO_4 HO_5 HO_444002 BK443 HL470_3 HL471_3 HL472_2 HB HO_3 HO477
    have HO_4:=n0_
    have HO_5:=n1_
    have HO_444002:=n2_
    have BK443:=n3_
    have HL470_3:=n4_
    have HL471_3:=n5_
    have HL472_2:=n6_
    have HB:=n7_
    have HO480:=n8_
    clear n0_ n1_ n2_ n3_ n4_ n5_ n6_ n7_ n8_
    clear ho hb hg hat
    refine hK.out _ _ ?_
    clear hK K
    refine nrm (N:=some 74) ?_
    refine pur (i:=21) (N:=some 3) #[true,true,true,true,true,true,true,true,true,true,true,true,true,true,true,true,true,true,true,true,true,true] ?_
    refine done_ (done_of HT_.out (by kernel_rfl)) ?_
    try go_wp2
    go_roundg k1
    case measure=>have:=HK1.out;omega
    case rel=>exact ⟨(y478),(wrap64 (x6_1 + 1)),rfl,H',⟨by have:=HK1.out;omega⟩,⟨nN HO480.out⟩,⟨nN (Kd.N_mono HO_4.out (fun _ hk=>⟨hk.1.1,⟨hk.2,⟨hk.1.2.1,hk.1.2.2.2⟩⟩⟩))⟩,⟨nN (Kd.N_mono HO_5.out (fun _ hk=>⟨hk.1.1,⟨hk.2,⟨hk.1.2.1,hk.1.2.2.2⟩⟩⟩))⟩,⟨nV (Kd.V_mono HO_444002.out (fun _ hk=>⟨hk.1.1,⟨hk.2,⟨hk.1.2.1,⟨hk.1.2.2.1,hk.1.2.2.2.2⟩⟩⟩⟩))⟩,⟨nB BK443.out⟩,⟨bB⟩⟩
   rw [if_neg c35] at H
   have c35b0:decide (x6_1 < (t463.length:Int)) = false:=decide_eq_false c35
   clear c35
   have H':=aQ H
   clear H
   obtain ⟨Ao45,co45,eo45⟩:=Kd.N_slice HO_4.out
   subst eo45
   go_wp2
   go_loopg [3,7] k1 (fun kq v3 v7 w'=>∃ (x3_2:List (S44)) (x7_2:Int),v7 = .int .i64 x7_2∧Aside0 (spec_l17Steps.l1 kq x3_2 t463 t467 x7_2 a0_0 a0_1 l0_2 = some r)∧Aside0 (kq ≤ k1)∧Aside0 (Kd.N k44 44 w' w.heap.size (fun k_=>(P0_2_ k_ ∨ w.heap.size ≤ k_)∧some k_ ≠ ((.slice Ao45 t463.length co45):Value).ownBlock∧some k_ ≠ (v468:Value).ownBlock∧k_ ≠ gb443) v3 x3_2)∧Aside0 (Kd.N k44 44 w' w.heap.size (fun k_=>(P0_2_ k_ ∨ w.heap.size ≤ k_)∧some k_ ≠ (v3:Value).ownBlock∧some k_ ≠ (v468:Value).ownBlock∧k_ ≠ gb443) (.slice Ao45 t463.length co45) t463)∧Aside0 (Kd.N k44 44 w' w.heap.size (fun k_=>(P0_2_ k_ ∨ w.heap.size ≤ k_)∧some k_ ≠ (v3:Value).ownBlock∧some k_ ≠ ((.slice Ao45 t463.length co45):Value).ownBlock∧k_ ≠ gb443) v468 t467)∧Aside0 (Kd.V k29 29 w' w.heap.size (fun k_=>(P0_2_ k_ ∨ w.heap.size ≤ k_)∧some k_ ≠ (v3:Value).ownBlock∧some k_ ≠ ((.slice Ao45 t463.length co45):Value).ownBlock∧some k_ ≠ (v468:Value).ownBlock∧k_ ≠ gb443) (.slice (some ad462) l0_2.length c0_2) l0_2)∧Aside0 (w'.heap[gb443]? = some (.cells #[.int .i64 a0_0,.int .i64 a0_1,(.slice (some ad462) l0_2.length c0_2)] 29 (0,0)))∧Aside0 (Below w.heap.size w w'))
   case atStart=>exact ⟨(x3_1),(0),rfl,H',⟨Nat.le_refl _⟩,⟨nN HO_3.out⟩,⟨nN HO_4.out⟩,⟨nN HO_5.out⟩,⟨nV HO_444002.out⟩,⟨nB BK443.out⟩,⟨bB⟩⟩
   case round =>
    clear H'
    try clear c35b0
    repeat (first | clear HO_3 | clear HO_4 | clear HO_5 | clear HO_444002 | clear BK443 | clear HB)
    obtain ⟨x3_2,x7_2,rfl,HA,HK2,HO_3,HO_4,HO_5,HO_444002,BK443,HB⟩:=hrel
    cases gk with
    | zero=>exact absurd HA.out (by simp [spec_l17Steps.l1])
    | succ k2 =>
     have H:=HA.out
     clear HA
     simp only [spec_l17Steps.l1] at H
     by_cases c46:x7_2 < (t467.length:Int)
     ·rw [if_pos c46] at H
      have c46b0:decide (x7_2 < (t467.length:Int)) = true:=decide_eq_true c46
      clear c46
      by_cases c47:0 ≤ x7_2;rotate_left
      ·rw [if_neg c47] at H
       exact absurd H (by simp)
      rw [if_pos c47] at H
      have c47b0:decide (0 ≤ x7_2) = true:=decide_eq_true c47
      clear c47
      by_cases c48:0 < (l0_2.length:Int);rotate_left
      ·rw [if_neg c48] at H
       exact absurd H (by simp)
      rw [if_pos c48] at H
      have c48b0:decide (0 < (l0_2.length:Int)) = true:=decide_eq_true c48
      have c48b1:decide (0 < l0_2.length) = true:=decide_eq_true (by omega)
      clear c48
      obtain ⟨⟨t484,t485,t486⟩,A49,H⟩:=bQ H
      dsimp only at H
      by_cases c50:x3_2.length < 2932031007402;rotate_left
      ·rw [if_neg c50] at H
       exact absurd H (by simp)
      rw [if_pos c50] at H
      have LMc50:=aQ c50
      clear c50
      obtain ⟨y489,hy489⟩:∃ y_:List (S44),y_ = (x3_2 ++ [(⟨(rd_T44 t467 x7_2).f0,(⟨t484,t485,t486⟩:S29)⟩:S44)]):=⟨_,rfl⟩
      replace H:(spec_l17Steps.l1 k2 y489 t463 t467 (wrap64 (x7_2 + 1)) a0_0 a0_1 l0_2) = some r:=by rw [hy489];exact H
      have Ny489:=aQ hy489
      clear hy489
      have H':=aQ H
      clear H
      obtain ⟨Ao51,co51,eo51⟩:=Kd.N_slice HO_5.out
      subst eo51
      try go_wp2
      replace HO_3:=aQ (Kd.N_drew HO_3.out)
      replace HO_4:=aQ (Kd.N_drew HO_4.out)
      replace HO_5:=aQ (Kd.N_drew HO_5.out)
      replace HO_444002:=aQ (Kd.V_drew HO_444002.out)
      replace BK443:=aQ (blk_drew BK443.out)
      replace HB:=aQ (below_drew1 HB.out)
      have p481:0 ≤ (x7_2:Int):=of_decide_eq_true (by first | (with_reducible assumption) | assumption)
      have q481:x7_2 < (t467.length:Int):=of_decide_eq_true (by first | (with_reducible assumption) | assumption)
      obtain ⟨ad481,A481_3,c481_3,e481,hx481_0,hx481_1,hx481_2,hx481_3,hl481_3,hi481_3⟩:=at_T44 (Kd.N_reads' HO_5.out).2.2 x7_2 p481 q481
      cases e481
      obtain ⟨ce481,hce481,hMe481,hcc481⟩:=Kd.N_get HO_5.out z44 x7_2 p481 (by first | exact q481 | exact of_decide_eq_true (by first | (with_reducible assumption) | assumption) | (have e_:=(Kd.N_reads' HO_5.out).1;omega))
      obtain ⟨ua481_3,uc481_3,rfl,ul481_3,ge481_3⟩:=k44_openF hMe481
      have hv481_3:=hcc481 3 _ rfl
      rw [add_field _ _ 3 (by omega)] at hv481_3
      replace hv481_3:=Option.some.inj (hv481_3.symm.trans hx481_3)
      injection hv481_3 with hva_ hvn_ hvc_
      rw [hva_] at ge481_3
      rw [hvc_] at ul481_3
      have HL481_3:=aQ (show Kd.V k29 29 _ w.heap.size _ _ ((rd_T44 t467 x7_2).f1.f2) from Kd.V_mk ul481_3 ge481_3)
      clear hva_ hvn_ hvc_ ge481_3 ul481_3
      clear hcc481 hce481
      have HR481_3:=aQ hi481_3
      have HC481_3:=aQ hl481_3
      clear hi481_3 hl481_3
      replace p481:=eq_true p481
      replace q481:=eq_true q481
      have p482:0 ≤ (0:Int):=(by omega)
      have q482:0 < (l0_2.length:Int):=of_decide_eq_true (by first | (with_reducible assumption) | assumption)
      obtain ⟨ad482,A482_2,c482_2,e482,hx482_0,hx482_1,hx482_2,hl482_2,hi482_2⟩:=at_T29 (Kd.V_reads' HO_444002.out).2.2 0 p482 q482
      obtain rfl:ad462 = ad482:=(by injection e482)
      obtain ⟨ce482,hce482,hMe482,hcc482⟩:=Kd.V_get HO_444002.out z29 0 p482 (by first | exact q482 | exact of_decide_eq_true (by first | (with_reducible assumption) | assumption) | (have e_:=(Kd.V_reads' HO_444002.out).1;omega))
      obtain ⟨ua482_2,uc482_2,rfl,ul482_2,ge482_2⟩:=k29_openF hMe482
      have hv482_2:=hcc482 2 _ rfl
      rw [add_field _ _ 2 (by omega)] at hv482_2
      replace hv482_2:=Option.some.inj (hv482_2.symm.trans hx482_2)
      injection hv482_2 with hva_ hvn_ hvc_
      rw [hva_] at ge482_2
      rw [hvc_] at ul482_2
      have HL482_2:=aQ (show Kd.V k29 29 _ w.heap.size _ _ ((rd_T29 l0_2 0).f2) from Kd.V_mk ul482_2 ge482_2)
      clear hva_ hvn_ hvc_ ge482_2 ul482_2
      clear hcc482 hce482
      have qi482:(0 < l0_2.length) = True:=eq_true (by omega)
      (try rw [show ((0:Int)).toNat = 0 from rfl,show 0 * 3 = 0 from rfl] at hx482_0 hx482_1 hx482_2)
      (try rw [Addr.add_zero'] at hx482_0)
      (try rw [Addr.add_zero'] at hx482_1)
      (try rw [Addr.add_zero'] at hx482_2)
      have HR482_2:=aQ hi482_2
      have HC482_2:=aQ hl482_2
      clear hi482_2 hl482_2
      replace p482:=eq_true p482
      replace q482:=eq_true q482
      have p483:0 ≤ (x7_2:Int):=of_decide_eq_true (by first | (with_reducible assumption) | assumption)
      have q483:x7_2 < (t467.length:Int):=of_decide_eq_true (by first | (with_reducible assumption) | assumption)
      obtain ⟨ad483,A483_3,c483_3,e483,hx483_0,hx483_1,hx483_2,hx483_3,hl483_3,hi483_3⟩:=at_T44 (Kd.N_reads' HO_5.out).2.2 x7_2 p483 q483
      obtain rfl:ad481 = ad483:=(by injection e483)
      obtain ⟨ce483,hce483,hMe483,hcc483⟩:=Kd.N_get HO_5.out z44 x7_2 p483 (by first | exact q483 | exact of_decide_eq_true (by first | (with_reducible assumption) | assumption) | (have e_:=(Kd.N_reads' HO_5.out).1;omega))
      obtain ⟨ua483_3,uc483_3,rfl,ul483_3,ge483_3⟩:=k44_openF hMe483
      have hv483_3:=hcc483 3 _ rfl
      rw [add_field _ _ 3 (by omega)] at hv483_3
      replace hv483_3:=Option.some.inj (hv483_3.symm.trans hx483_3)
      injection hv483_3 with hva_ hvn_ hvc_
      rw [hva_] at ge483_3
      rw [hvc_] at ul483_3
      have HL483_3:=aQ (show Kd.V k29 29 _ w.heap.size _ _ ((rd_T44 t467 x7_2).f1.f2) from Kd.V_mk ul483_3 ge483_3)
      clear hva_ hvn_ hvc_ ge483_3 ul483_3
      clear hcc483 hce483
      have HR483_3:=aQ hi483_3
      have HC483_3:=aQ hl483_3
      clear hi483_3 hl483_3
      replace p483:=eq_true p483
      replace q483:=eq_true q483
      have ea_:=Option.some.inj (hx481_3.symm.trans hx483_3)
      injection ea_ with ea_ en_ ec_
      subst ea_
      subst ec_
      clear en_
      refine start_ (n:=22) (S:=fun w'=>w'.cell? ⟨gb443,0,none⟩ = some (.int .i64 a0_0)∧w'.cell? ⟨gb443,1,none⟩ = some (.int .i64 a0_1)∧w'.cell? ⟨gb443,2,none⟩ = some (.slice (some ad462) l0_2.length c0_2)∧w'.cell? (ad481.add ((x7_2).toNat * 4)) = some (.int .i64 ((rd_T44 t467 x7_2).f0))∧w'.cell? ⟨(ad481.add ((x7_2).toNat * 4)).block,(ad481.add ((x7_2).toNat * 4)).off + 1,none⟩ = some (.int .i64 ((rd_T44 t467 x7_2).f1.f0))∧w'.cell? ⟨(ad481.add ((x7_2).toNat * 4)).block,(ad481.add ((x7_2).toNat * 4)).off + 2,none⟩ = some (.int .i64 ((rd_T44 t467 x7_2).f1.f1))∧w'.cell? ⟨(ad481.add ((x7_2).toNat * 4)).block,(ad481.add ((x7_2).toNat * 4)).off + 3,none⟩ = some (.slice A481_3 ((rd_T44 t467 x7_2).f1.f2).length c481_3)∧w'.cell? ad462 = some (.int .i64 ((rd_T29 l0_2 0).f0))∧w'.cell? ⟨ad462.block,ad462.off + 1,none⟩ = some (.int .i64 ((rd_T29 l0_2 0).f1))∧w'.cell? ⟨ad462.block,ad462.off + 2,none⟩ = some (.slice A482_2 ((rd_T29 l0_2 0).f2).length c482_2)∧w'.cell? (ad481.add ((x7_2).toNat * 4)) = some (.int .i64 ((rd_T44 t467 x7_2).f0))∧w'.cell? ⟨(ad481.add ((x7_2).toNat * 4)).block,(ad481.add ((x7_2).toNat * 4)).off + 1,none⟩ = some (.int .i64 ((rd_T44 t467 x7_2).f1.f0))∧w'.cell? ⟨(ad481.add ((x7_2).toNat * 4)).block,(ad481.add ((x7_2).toNat * 4)).off + 2,none⟩ = some (.int .i64 ((rd_T44 t467 x7_2).f1.f1))∧w'.cell? ⟨(ad481.add ((x7_2).toNat * 4)).block,(ad481.add ((x7_2).toNat * 4)).off + 3,none⟩ = some (.slice A481_3 ((rd_T44 t467 x7_2).f1.f2).length c481_3)) (ds:=[19,20]) #[false,false,false,false,false,false,false,false,false,false,false,false,false,false,false,false,false,false,false,false,false,false] (by kernel_rfl) rfl rfl ⟨(blk_cell BK443.out 0).trans rfl,(blk_cell BK443.out 1).trans rfl,(blk_cell BK443.out 2).trans rfl,hx481_0,hx481_1,hx481_2,hx481_3,hx482_0,hx482_1,hx482_2,hx483_0,hx483_1,hx483_2,hx483_3⟩ (fun hHeld=>?_);refine with_tabW spec_l17Steps.tab17 spec_l17Steps.bits17 (fun HT_ HW_=>?_)
      generalize wr.drew = w52 at HO_3 HO_4 HO_5 HO_444002 BK443 HB HL481_3 HL482_2 HL483_3 HR481_3 HR482_2 HR483_3 hx481_0 hx481_1 hx481_2 hx481_3 hx482_0 hx482_1 hx482_2 hx483_0 hx483_1 hx483_2 hx483_3 hHeld ⊢
      refine pur (i:=0) (N:=some 81) #[true,false,false,false,false,false,false,false,false,false,false,false,false,false,false,false,false,false,false,false,false,false] ?_
      refine pur (i:=1) (N:=some 82) #[true,true,false,false,false,false,false,false,false,false,false,false,false,false,false,false,false,false,false,false,false,false] ?_
      refine pur (i:=2) (N:=some 83) #[true,true,true,false,false,false,false,false,false,false,false,false,false,false,false,false,false,false,false,false,false,false] ?_
      refine pur (i:=3) (N:=some 84) #[true,true,true,true,false,false,false,false,false,false,false,false,false,false,false,false,false,false,false,false,false,false] ?_
      refine pur (i:=4) (N:=some 85) #[true,true,true,true,true,false,false,false,false,false,false,false,false,false,false,false,false,false,false,false,false,false] ?_
      refine pur (i:=6) (N:=some 87) #[true,true,true,true,true,false,true,false,false,false,false,false,false,false,false,false,false,false,false,false,false,false] ?_
      refine pur (i:=8) (N:=some 89) #[true,true,true,true,true,false,true,false,true,false,false,false,false,false,false,false,false,false,false,false,false,false] ?_
      refine pur (i:=12) (N:=some 93) #[true,true,true,true,true,false,true,false,true,false,false,false,true,false,false,false,false,false,false,false,false,false] ?_
      refine pur (i:=13) (N:=some 94) #[true,true,true,true,true,false,true,false,true,false,false,false,true,true,false,false,false,false,false,false,false,false] ?_
      refine pur (i:=14) (N:=some 95) #[true,true,true,true,true,false,true,false,true,false,false,false,true,true,true,false,false,false,false,false,false,false] ?_
      refine pur (i:=15) (N:=some 96) #[true,true,true,true,true,false,true,false,true,false,false,false,true,true,true,true,false,false,false,false,false,false] ?_
      refine tak (i:=5) (N:=some 86) #[true,true,true,true,true,true,true,false,true,false,false,false,true,true,true,true,false,false,false,false,false,false] ?_
      refine tak (i:=7) (N:=some 88) #[true,true,true,true,true,true,true,true,true,false,false,false,true,true,true,true,false,false,false,false,false,false] ?_
      refine tak (i:=9) (N:=some 90) #[true,true,true,true,true,true,true,true,true,true,false,false,true,true,true,true,false,false,false,false,false,false] ?_
      refine pur (i:=10) (N:=some 91) #[true,true,true,true,true,true,true,true,true,true,true,false,true,true,true,true,false,false,false,false,false,false] ?_
      refine tak (i:=11) (N:=some 92) #[true,true,true,true,true,true,true,true,true,true,true,true,true,true,true,true,false,false,false,false,false,false] ?_
      refine tak (i:=16) (N:=some 97) #[true,true,true,true,true,true,true,true,true,true,true,true,true,true,true,true,true,false,false,false,false,false] ?_
      refine one_ (i:=17) (N:=some 98) #[true,true,true,true,true,true,true,true,true,true,true,true,true,true,true,true,true,true,false,false,false,false] rfl rfl (one_of HT_.out (by kernel_rfl)) (by decide) (fun K hK=>?_)
      refine goes1 Try.func66 #[.int .i64 a0_0,.agg #[.int .i64 ((rd_T29 l0_2 0).f0),.int .i64 ((rd_T29 l0_2 0).f1),.slice A482_2 ((rd_T29 l0_2 0).f2).length c482_2],.agg #[.int .i64 ((rd_T44 t467 x7_2).f1.f0),.int .i64 ((rd_T44 t467 x7_2).f1.f1),.slice A481_3 ((rd_T44 t467 x7_2).f1.f2).length c481_3]] ?_
      with_reducible refine (spec_l17Two.calls a0_0 ((rd_T29 l0_2 0).f0) ((rd_T29 l0_2 0).f1) (fun k_=>((P0_2_ k_ ∨ w.heap.size ≤ k_)∧(some k_ ≠ (u3:Value).ownBlock∧(some k_ ≠ (.slice Ao45 t463.length co45:Value).ownBlock∧(some k_ ≠ (.slice (some ad481) t467.length co51:Value).ownBlock∧k_ ≠ gb443))))) _ _ ((rd_T29 l0_2 0).f2) ((rd_T44 t467 x7_2).f1.f0) ((rd_T44 t467 x7_2).f1.f1) (fun k_=>(((P0_2_ k_ ∨ w.heap.size ≤ k_)∧(some k_ ≠ (u3:Value).ownBlock∧(some k_ ≠ (.slice Ao45 t463.length co45:Value).ownBlock∧k_ ≠ gb443)))∧some k_ ≠ (.slice (some ad481) t467.length co51:Value).ownBlock)) _ _ ((rd_T44 t467 x7_2).f1.f2) t484 t485 t486 _ ?side1 ?side2 A49.out).mono ?_
      (case side1=>exact HL482_2.out)
      (case side2=>exact HL483_3.out)
      rintro e w53 ⟨v487,rfl,ho0,hb⟩
      have HS3_:=(hb.cell (World.block_lt_of_cell? _ _ (hHeld.2.2.2.1))).trans (hHeld.2.2.2.1)
      have HS4_:=(hb.cell (World.block_lt_of_cell? _ _ (hHeld.2.2.2.2.1))).trans (hHeld.2.2.2.2.1)
      have HS5_:=(hb.cell (World.block_lt_of_cell? _ _ (hHeld.2.2.2.2.2.1))).trans (hHeld.2.2.2.2.2.1)
      have HS6_:=(hb.cell (World.block_lt_of_cell? _ _ (hHeld.2.2.2.2.2.2.1))).trans (hHeld.2.2.2.2.2.2.1)
      have HS7_:=(hb.cell (World.block_lt_of_cell? _ _ (hHeld.2.2.2.2.2.2.2.1))).trans (hHeld.2.2.2.2.2.2.2.1)
      have HS8_:=(hb.cell (World.block_lt_of_cell? _ _ (hHeld.2.2.2.2.2.2.2.2.1))).trans (hHeld.2.2.2.2.2.2.2.2.1)
      have HS9_:=(hb.cell (World.block_lt_of_cell? _ _ (hHeld.2.2.2.2.2.2.2.2.2.1))).trans (hHeld.2.2.2.2.2.2.2.2.2.1)
      have HS10_:=(hb.cell (World.block_lt_of_cell? _ _ (hHeld.2.2.2.2.2.2.2.2.2.2.1))).trans (hHeld.2.2.2.2.2.2.2.2.2.2.1)
      have HS11_:=(hb.cell (World.block_lt_of_cell? _ _ (hHeld.2.2.2.2.2.2.2.2.2.2.2.1))).trans (hHeld.2.2.2.2.2.2.2.2.2.2.2.1)
      have HS12_:=(hb.cell (World.block_lt_of_cell? _ _ (hHeld.2.2.2.2.2.2.2.2.2.2.2.2.1))).trans (hHeld.2.2.2.2.2.2.2.2.2.2.2.2.1)
      have HS13_:=(hb.cell (World.block_lt_of_cell? _ _ (hHeld.2.2.2.2.2.2.2.2.2.2.2.2.2))).trans (hHeld.2.2.2.2.2.2.2.2.2.2.2.2.2)
      refine ⟨_,rfl,?_⟩
      replace HO_444002:=aQ (Kd.V_elder' (nV HO_444002.out) (Kd.N_base ho0) hb)
      replace HL481_3:=aQ (Kd.V_elder' (nV HL481_3.out) (Kd.N_base ho0) hb)
      replace HL482_2:=aQ (Kd.V_elder' (nV HL482_2.out) (Kd.N_base ho0) hb)
      replace HL483_3:=aQ (Kd.V_elder' (nV HL483_3.out) (Kd.N_base ho0) hb)
      have HO488:=aQ (Kd.N_lower (Kd.N_mono (ok':=fun k_=>(P0_2_ k_ ∨ w.heap.size ≤ k_)∧some k_ ≠ (u3:Value).ownBlock∧some k_ ≠ (.slice Ao45 t463.length co45:Value).ownBlock∧some k_ ≠ (.slice (some ad481) t467.length co51:Value).ownBlock∧k_ ≠ gb443) ho0 (fun k_ hk_=>⟨Or.elim hk_ (fun hs_=>Or.elim hs_ (fun hs_=>hs_.1) (fun hs_=>hs_.1.1)) (fun hn_=>(.inr (Nat.le_trans (below_size bB) hn_))),Or.elim hk_ (fun hs_=>Or.elim hs_ (fun hs_=>hs_.2.1) (fun hs_=>hs_.1.2.1)) (fun hn_=>(Kd.fresh' (Kd.N_lt (nN HO_3.out)) k_ hn_)),Or.elim hk_ (fun hs_=>Or.elim hs_ (fun hs_=>hs_.2.2.1) (fun hs_=>hs_.1.2.2.1)) (fun hn_=>(Kd.fresh' (Kd.N_lt (nN HO_4.out)) k_ hn_)),Or.elim hk_ (fun hs_=>Or.elim hs_ (fun hs_=>hs_.2.2.2.1) (fun hs_=>hs_.2)) (fun hn_=>(Kd.fresh' (Kd.N_lt (nN HO_5.out)) k_ hn_)),Or.elim hk_ (fun hs_=>Or.elim hs_ (fun hs_=>hs_.2.2.2.2) (fun hs_=>hs_.1.2.2.2)) (fun hn_=>(Kd.freshB (nB BK443.out) k_ hn_))⟩)) (below_size bB))
      replace HO_3:=aQ (Kd.N_elder' (nN HO_3.out) (Kd.N_base ho0) hb)
      replace HO_4:=aQ (Kd.N_elder' (nN HO_4.out) (Kd.N_base ho0) hb)
      replace HO_5:=aQ (Kd.N_elder' (nN HO_5.out) (Kd.N_base ho0) hb)
      replace BK443:=aQ (blk_below (nB BK443.out) hb)
      replace HR481_3:=aQ (Kd.C_below (nC HR481_3.out) hb)
      replace HR482_2:=aQ (Kd.C_below (nC HR482_2.out) hb)
      replace HR483_3:=aQ (Kd.C_below (nC HR483_3.out) hb)
      replace HB:=aQ (below_step bB hb)
      (try clear hb)
      (try clear ho0)
      obtain ⟨Ao54,co54,eo54⟩:=Kd.N_slice HO488.out
      (first | subst eo54 | (injection eo54 with f1_ f2_ f3_;have f4_:=f1_.symm;have f5_:=f3_.symm;clear f1_ f2_ f3_;subst f4_;subst f5_))
      refine hK.out _ _ ⟨(blk_cell BK443.out 0).trans rfl,(blk_cell BK443.out 1).trans rfl,(blk_cell BK443.out 2).trans rfl,HS3_,HS4_,HS5_,HS6_,HS7_,HS8_,HS9_,HS10_,HS11_,HS12_,HS13_⟩ (fun hHeld=>?_)
      clear hK K
      refine nrm (N:=some 98) ?_
      refine pur (i:=18) (N:=some 99) #[true,true,true,true,true,true,true,true,true,true,true,true,true,true,true,true,true,true,true,false,false,false] ?_
      refine last_ (i:=19) (N:=some 100) #[true,true,true,true,true,true,true,true,true,true,true,true,true,true,true,true,true,true,true,true,false,false] rfl rfl (one_of HT_.out (by kernel_rfl)) (by decide) (fun K hK=>?_)
      refine value_ (w1:=?_) (v:=?_) (by rfl) rfl ?_ ?_
      rotate_left 2
      ·go_simp
       constructor
       ·rfl
       ·rfl
      refine hK.out _ _ ?_
      clear hK K
      refine nrm (N:=some 100) ?_
      refine last_ (i:=20) (N:=some 101) #[true,true,true,true,true,true,true,true,true,true,true,true,true,true,true,true,true,true,true,true,true,false] rfl rfl (one_of HT_.out (by kernel_rfl)) (by decide) (fun K hK=>?_)
      refine Kd.N_append_step k44 (w0:=w) w.heap.size (by rfl) (.tmp 81) (.tmp 100) 35 44 (.agg #[(.int .i64 0),(.int .i64 0),(.int .i64 0),(.slice none 0 0)]) 48 rfl Try.underlying35 info44 rfl (by decide) (by omega) u3 x3_2 (⟨(rd_T44 t467 x7_2).f0,(⟨t484,t485,t486⟩:S29)⟩:S44) [.int .i64 ((rd_T44 t467 x7_2).f0),.int .i64 t484,.int .i64 t485,.slice Ao54 t486.length co54] (fun k_=>(P0_2_ k_ ∨ w.heap.size ≤ k_)∧some k_ ≠ (.slice Ao45 t463.length co45:Value).ownBlock∧some k_ ≠ (.slice (some ad481) t467.length co51:Value).ownBlock∧k_ ≠ gb443) (fun k_=>((fun k_=>(P0_2_ k_ ∨ w.heap.size ≤ k_)∧some k_ ≠ (.slice Ao45 t463.length co45:Value).ownBlock∧some k_ ≠ (.slice (some ad481) t467.length co51:Value).ownBlock∧k_ ≠ gb443)) k_∧some k_ ≠ (u3:Value).ownBlock) rfl rfl ?aP (fun _ hk=>hk) ?aF ?aO ?aB ?aS ?aL ?_
      (case aP=>exact (k44_mkF _ _ (⟨(rd_T44 t467 x7_2).f0,(⟨t484,t485,t486⟩:S29)⟩:S44) (Kd.N_reads' (Kd.N_mono (ok':=(fun k_=>((fun k_=>(P0_2_ k_ ∨ w.heap.size ≤ k_)∧some k_ ≠ (.slice Ao45 t463.length co45:Value).ownBlock∧some k_ ≠ (.slice (some ad481) t467.length co51:Value).ownBlock∧k_ ≠ gb443)) k_∧some k_ ≠ (u3:Value).ownBlock)) (HO488.out) (fun k_ hk=>⟨⟨hk.1,⟨hk.2.2.1,⟨hk.2.2.2.1,hk.2.2.2.2⟩⟩⟩,hk.2.1⟩))).2.1 (Kd.N_F (Kd.N_mono (ok':=(fun k_=>((fun k_=>(P0_2_ k_ ∨ w.heap.size ≤ k_)∧some k_ ≠ (.slice Ao45 t463.length co45:Value).ownBlock∧some k_ ≠ (.slice (some ad481) t467.length co51:Value).ownBlock∧k_ ≠ gb443)) k_∧some k_ ≠ (u3:Value).ownBlock)) (HO488.out) (fun k_ hk=>⟨⟨hk.1,⟨hk.2.2.1,⟨hk.2.2.2.1,hk.2.2.2.2⟩⟩⟩,hk.2.1⟩)))))
      (case aB=>exact bB)
      (case aF=>exact (fun k_ hk=>⟨(.inr (Nat.le_trans (below_size bB) hk)),Kd.fresh' (Kd.N_lt (nN HO_4.out)) k_ hk,Kd.fresh' (Kd.N_lt (nN HO_5.out)) k_ hk,Kd.freshB (nB BK443.out) k_ hk⟩))
      (case aO=>exact (nN (Kd.N_mono HO_3.out (fun _ hk=>⟨hk.1.1,⟨hk.1.2.1,⟨hk.1.2.2.1,hk.1.2.2.2⟩⟩⟩))))
      (case aS=>exact (below_size bB))
      (case aL=>have:=LMc50.out;omega)
      intro v490 w55 ho hb hg hat
      rw [← Ny489.out] at ho
      have n0_:=aQ (Kd.N_afterv (ok:=(fun k_=>(P0_2_ k_ ∨ w.heap.size ≤ k_)∧some k_ ≠ (.slice (some ad481) t467.length co51:Value).ownBlock∧some k_ ≠ (.slice Ao54 t486.length co54:Value).ownBlock∧k_ ≠ gb443)) (nN (Kd.N_mono HO_4.out (fun _ hk=>⟨⟨hk.1.1,⟨hk.1.2.2.1,⟨hk.2,hk.1.2.2.2⟩⟩⟩,hk.1.2.1⟩))) hg hat)
      have n1_:=aQ (Kd.N_afterv (ok:=(fun k_=>(P0_2_ k_ ∨ w.heap.size ≤ k_)∧some k_ ≠ (.slice Ao45 t463.length co45:Value).ownBlock∧some k_ ≠ (.slice Ao54 t486.length co54:Value).ownBlock∧k_ ≠ gb443)) (nN (Kd.N_mono HO_5.out (fun _ hk=>⟨⟨hk.1.1,⟨hk.1.2.2.1,⟨hk.2,hk.1.2.2.2⟩⟩⟩,hk.1.2.1⟩))) hg hat)
      have n2_:=aQ (Kd.V_afterv (ok:=(fun k_=>(P0_2_ k_ ∨ w.heap.size ≤ k_)∧some k_ ≠ (.slice Ao45 t463.length co45:Value).ownBlock∧some k_ ≠ (.slice (some ad481) t467.length co51:Value).ownBlock∧some k_ ≠ (.slice Ao54 t486.length co54:Value).ownBlock∧k_ ≠ gb443)) (nV (Kd.V_mono HO_444002.out (fun _ hk=>⟨⟨hk.1.1,⟨hk.1.2.2.1,⟨hk.1.2.2.2.1,⟨hk.2,hk.1.2.2.2.2⟩⟩⟩⟩,hk.1.2.1⟩))) hg hat)
      have n3_:=aQ (blk_grown (nB BK443.out) hg (Kd.N_ne HO_3.out BK443.out (by decide)))
      have n4_:=aQ (Kd.V_afterv (ok:=(fun k_=>(P0_2_ k_ ∨ w.heap.size ≤ k_)∧some k_ ≠ (.slice Ao45 t463.length co45:Value).ownBlock∧some k_ ≠ (.slice (some ad481) t467.length co51:Value).ownBlock∧some k_ ≠ (.slice Ao54 t486.length co54:Value).ownBlock∧k_ ≠ gb443)) (nV (Kd.V_mono HL481_3.out (fun _ hk=>⟨⟨hk.1.1.1,⟨hk.1.1.2.2.1,⟨hk.1.2,⟨hk.2,hk.1.1.2.2.2⟩⟩⟩⟩,hk.1.1.2.1⟩))) hg hat)
      have n5_:=aQ (Kd.V_afterv (ok:=(fun k_=>(P0_2_ k_ ∨ w.heap.size ≤ k_)∧some k_ ≠ (.slice Ao45 t463.length co45:Value).ownBlock∧some k_ ≠ (.slice (some ad481) t467.length co51:Value).ownBlock∧some k_ ≠ (.slice Ao54 t486.length co54:Value).ownBlock∧k_ ≠ gb443)) (nV (Kd.V_mono HL482_2.out (fun _ hk=>⟨⟨hk.1.1,⟨hk.1.2.2.1,⟨hk.1.2.2.2.1,⟨hk.2,hk.1.2.2.2.2⟩⟩⟩⟩,hk.1.2.1⟩))) hg hat)
      have n6_:=aQ (Kd.V_afterv (ok:=(fun k_=>(P0_2_ k_ ∨ w.heap.size ≤ k_)∧some k_ ≠ (.slice Ao45 t463.length co45:Value).ownBlock∧some k_ ≠ (.slice (some ad481) t467.length co51:Value).ownBlock∧some k_ ≠ (.slice Ao54 t486.length co54:Value).ownBlock∧k_ ≠ gb443)) (nV (Kd.V_mono HL483_3.out (fun _ hk=>⟨⟨hk.1.1.1,⟨hk.1.1.2.2.1,⟨hk.1.2,⟨hk.2,hk.1.1.2.2.2⟩⟩⟩⟩,hk.1.1.2.1⟩))) hg hat)
      have n7_:=aQ (hb)
      have n8_:=aQ (ho)
      clear HO_4 HO_5 HO_444002 BK443 HL481_3 HL482_2 HL483_3 HB HO_3 HO488
      have HO_4:=n0_
      have HO_5:=n1_
      have HO_444002:=n2_
      have BK443:=n3_
      have HL481_3:=n4_
      have HL482_2:=n5_
      have HL483_3:=n6_
      have HB:=n7_
      have HO491:=n8_
      clear n0_ n1_ n2_ n3_ n4_ n5_ n6_ n7_ n8_
      clear ho hb hg hat
      refine hK.out _ _ ?_
      clear hK K
      refine nrm (N:=some 101) ?_
      refine pur (i:=21) (N:=some 3) #[true,true,true,true,true,true,true,true,true,true,true,true,true,true,true,true,true,true,true,true,true,true] ?_
      refine done_ (done_of HT_.out (by kernel_rfl)) ?_
      try go_wp2
      go_roundg k2
      case measure=>have:=HK1.out;have:=HK2.out;omega
      case rel=>exact ⟨(y489),(wrap64 (x7_2 + 1)),rfl,H',⟨by have:=HK1.out;have:=HK2.out;omega⟩,⟨nN HO491.out⟩,⟨nN (Kd.N_mono HO_4.out (fun _ hk=>⟨hk.1.1,⟨hk.2,⟨hk.1.2.1,hk.1.2.2.2⟩⟩⟩))⟩,⟨nN (Kd.N_mono HO_5.out (fun _ hk=>⟨hk.1.1,⟨hk.2,⟨hk.1.2.1,hk.1.2.2.2⟩⟩⟩))⟩,⟨nV (Kd.V_mono HO_444002.out (fun _ hk=>⟨hk.1.1,⟨hk.2,⟨hk.1.2.1,⟨hk.1.2.2.1,hk.1.2.2.2.2⟩⟩⟩⟩))⟩,⟨nB BK443.out⟩,⟨bB⟩⟩
     rw [if_neg c46] at H
     have c46b0:decide (x7_2 < (t467.length:Int)) = false:=decide_eq_false c46
     clear c46
     have H':=aQ H
     clear H
     obtain ⟨Ao56,co56,eo56⟩:=Kd.N_slice HO_5.out
     subst eo56
     go_wp2
     go_loopg [3,8] k2 (fun kq v3 v8 w'=>∃ (x3_3:List (S44)) (x8_3:Int),v8 = .int .i64 x8_3∧Aside0 (spec_l17Steps.l2 kq x3_3 t463 t467 x8_3 a0_0 a0_1 l0_2 = some r)∧Aside0 (kq ≤ k2)∧Aside0 (Kd.N k44 44 w' w.heap.size (fun k_=>(P0_2_ k_ ∨ w.heap.size ≤ k_)∧some k_ ≠ ((.slice Ao45 t463.length co45):Value).ownBlock∧some k_ ≠ ((.slice Ao56 t467.length co56):Value).ownBlock∧k_ ≠ gb443) v3 x3_3)∧Aside0 (Kd.N k44 44 w' w.heap.size (fun k_=>(P0_2_ k_ ∨ w.heap.size ≤ k_)∧some k_ ≠ (v3:Value).ownBlock∧some k_ ≠ ((.slice Ao56 t467.length co56):Value).ownBlock∧k_ ≠ gb443) (.slice Ao45 t463.length co45) t463)∧Aside0 (Kd.N k44 44 w' w.heap.size (fun k_=>(P0_2_ k_ ∨ w.heap.size ≤ k_)∧some k_ ≠ (v3:Value).ownBlock∧some k_ ≠ ((.slice Ao45 t463.length co45):Value).ownBlock∧k_ ≠ gb443) (.slice Ao56 t467.length co56) t467)∧Aside0 (Kd.V k29 29 w' w.heap.size (fun k_=>(P0_2_ k_ ∨ w.heap.size ≤ k_)∧some k_ ≠ (v3:Value).ownBlock∧some k_ ≠ ((.slice Ao45 t463.length co45):Value).ownBlock∧some k_ ≠ ((.slice Ao56 t467.length co56):Value).ownBlock∧k_ ≠ gb443) (.slice (some ad462) l0_2.length c0_2) l0_2)∧Aside0 (w'.heap[gb443]? = some (.cells #[.int .i64 a0_0,.int .i64 a0_1,(.slice (some ad462) l0_2.length c0_2)] 29 (0,0)))∧Aside0 (Below w.heap.size w w'))
     case atStart=>exact ⟨(x3_2),(0),rfl,H',⟨Nat.le_refl _⟩,⟨nN HO_3.out⟩,⟨nN HO_4.out⟩,⟨nN HO_5.out⟩,⟨nV HO_444002.out⟩,⟨nB BK443.out⟩,⟨bB⟩⟩
     case round =>
      clear H'
      try clear c46b0
      repeat (first | clear HO_3 | clear HO_4 | clear HO_5 | clear HO_444002 | clear BK443 | clear HB)
      obtain ⟨x3_3,x8_3,rfl,HA,HK3,HO_3,HO_4,HO_5,HO_444002,BK443,HB⟩:=hrel
      cases gk with
      | zero=>exact absurd HA.out (by simp [spec_l17Steps.l2])
      | succ k3 =>
       have H:=HA.out
       clear HA
       simp only [spec_l17Steps.l2] at H
       by_cases c57:x8_3 < (t463.length:Int);rotate_left
       ·rw [if_neg c57] at H
        have c57b0:decide (x8_3 < (t463.length:Int)) = false:=decide_eq_false c57
        clear c57
        obtain rfl:=Option.some.inj H
        go_wp2
        go_ret
        exact ⟨_,rfl,by (with_reducible repeat (first | apply Kd.N_alloc | apply Kd.N_drewN | apply Kd.N_drew));exact Kd.N_mono HO_3.out (fun _ hk=>hk.1),bB⟩
       rw [if_pos c57] at H
       have c57b0:decide (x8_3 < (t463.length:Int)) = true:=decide_eq_true c57
       clear c57
       have H':=aQ H
       clear H
       go_wp2
       go_loopg [3,9] k3 (fun kq v3 v9 w'=>∃ (x3_4:List (S44)) (x9_4:Int),v9 = .int .i64 x9_4∧Aside0 (spec_l17Steps.l3 kq x3_4 t463 t467 x8_3 x9_4 a0_0 a0_1 l0_2 = some r)∧Aside0 (kq ≤ k3)∧Aside0 (Kd.N k44 44 w' w.heap.size (fun k_=>(P0_2_ k_ ∨ w.heap.size ≤ k_)∧some k_ ≠ ((.slice Ao45 t463.length co45):Value).ownBlock∧some k_ ≠ ((.slice Ao56 t467.length co56):Value).ownBlock∧k_ ≠ gb443) v3 x3_4)∧Aside0 (Kd.N k44 44 w' w.heap.size (fun k_=>(P0_2_ k_ ∨ w.heap.size ≤ k_)∧some k_ ≠ (v3:Value).ownBlock∧some k_ ≠ ((.slice Ao56 t467.length co56):Value).ownBlock∧k_ ≠ gb443) (.slice Ao45 t463.length co45) t463)∧Aside0 (Kd.N k44 44 w' w.heap.size (fun k_=>(P0_2_ k_ ∨ w.heap.size ≤ k_)∧some k_ ≠ (v3:Value).ownBlock∧some k_ ≠ ((.slice Ao45 t463.length co45):Value).ownBlock∧k_ ≠ gb443) (.slice Ao56 t467.length co56) t467)∧Aside0 (Kd.V k29 29 w' w.heap.size (fun k_=>(P0_2_ k_ ∨ w.heap.size ≤ k_)∧some k_ ≠ (v3:Value).ownBlock∧some k_ ≠ ((.slice Ao45 t463.length co45):Value).ownBlock∧some k_ ≠ ((.slice Ao56 t467.length co56):Value).ownBlock∧k_ ≠ gb443) (.slice (some ad462) l0_2.length c0_2) l0_2)∧Aside0 (w'.heap[gb443]? = some (.cells #[.int .i64 a0_0,.int .i64 a0_1,(.slice (some ad462) l0_2.length c0_2)] 29 (0,0)))∧Aside0 (Below w.heap.size w w'))
       case atStart=>exact ⟨(x3_3),(0),rfl,H',⟨Nat.le_refl _⟩,⟨nN HO_3.out⟩,⟨nN HO_4.out⟩,⟨nN HO_5.out⟩,⟨nV HO_444002.out⟩,⟨nB BK443.out⟩,⟨bB⟩⟩
       case round =>
        clear H'
        try clear c57b0
        repeat (first | clear HO_3 | clear HO_4 | clear HO_5 | clear HO_444002 | clear BK443 | clear HB)
        obtain ⟨x3_4,x9_4,rfl,HA,HK4,HO_3,HO_4,HO_5,HO_444002,BK443,HB⟩:=hrel
        cases gk with
        | zero=>exact absurd HA.out (by simp [spec_l17Steps.l3])
        | succ k4 =>
         have H:=HA.out
         clear HA
         simp only [spec_l17Steps.l3] at H
         by_cases c58:x9_4 < (t467.length:Int);rotate_left
         ·rw [if_neg c58] at H
          have c58b0:decide (x9_4 < (t467.length:Int)) = false:=decide_eq_false c58
          clear c58
          have H':=aQ H
          clear H
          go_wp2
          go_roundg k4
          case measure=>have:=HK1.out;have:=HK2.out;have:=HK3.out;have:=HK4.out;omega
          case rel=>exact ⟨(x3_4),(wrap64 (x8_3 + 1)),rfl,H',⟨by have:=HK1.out;have:=HK2.out;have:=HK3.out;have:=HK4.out;omega⟩,⟨nN HO_3.out⟩,⟨nN HO_4.out⟩,⟨nN HO_5.out⟩,⟨nV HO_444002.out⟩,⟨nB BK443.out⟩,⟨bB⟩⟩
         rw [if_pos c58] at H
         have c58b0:decide (x9_4 < (t467.length:Int)) = true:=decide_eq_true c58
         clear c58
         by_cases c59:0 ≤ x8_3;rotate_left
         ·rw [if_neg c59] at H
          exact absurd H (by simp)
         rw [if_pos c59] at H
         have c59b0:decide (0 ≤ x8_3) = true:=decide_eq_true c59
         clear c59
         by_cases c60:x8_3 < (t463.length:Int);rotate_left
         ·rw [if_neg c60] at H
          exact absurd H (by simp)
         rw [if_pos c60] at H
         have c60b0:decide (x8_3 < (t463.length:Int)) = true:=decide_eq_true c60
         clear c60
         by_cases c61:((rd_T44 t463 x8_3).f0) = 0
         ·rw [if_pos c61] at H
          have c61b0:(((rd_T44 t463 x8_3).f0) == 0) = true:=beq_iff_eq.mpr c61
          have c61b1:(((rd_T44 t463 x8_3).f0) != 0) = false:=bne_eq_false_iff_eq.mpr c61
          clear c61
          have H':=aQ H
          clear H
          try go_wp2
          replace HO_3:=aQ (Kd.N_drew HO_3.out)
          replace HO_4:=aQ (Kd.N_drew HO_4.out)
          replace HO_5:=aQ (Kd.N_drew HO_5.out)
          replace HO_444002:=aQ (Kd.V_drew HO_444002.out)
          replace BK443:=aQ (blk_drew BK443.out)
          replace HB:=aQ (below_drew1 HB.out)
          have p492:0 ≤ (x8_3:Int):=of_decide_eq_true (by first | (with_reducible assumption) | assumption)
          have q492:x8_3 < (t463.length:Int):=of_decide_eq_true (by first | (with_reducible assumption) | assumption)
          obtain ⟨ad492,A492_3,c492_3,e492,hx492_0,hx492_1,hx492_2,hx492_3,hl492_3,hi492_3⟩:=at_T44 (Kd.N_reads' HO_4.out).2.2 x8_3 p492 q492
          cases e492
          obtain ⟨ce492,hce492,hMe492,hcc492⟩:=Kd.N_get HO_4.out z44 x8_3 p492 (by first | exact q492 | exact of_decide_eq_true (by first | (with_reducible assumption) | assumption) | (have e_:=(Kd.N_reads' HO_4.out).1;omega))
          obtain ⟨ua492_3,uc492_3,rfl,ul492_3,ge492_3⟩:=k44_openF hMe492
          have hv492_3:=hcc492 3 _ rfl
          rw [add_field _ _ 3 (by omega)] at hv492_3
          replace hv492_3:=Option.some.inj (hv492_3.symm.trans hx492_3)
          injection hv492_3 with hva_ hvn_ hvc_
          rw [hva_] at ge492_3
          rw [hvc_] at ul492_3
          have HL492_3:=aQ (show Kd.V k29 29 _ w.heap.size _ _ ((rd_T44 t463 x8_3).f1.f2) from Kd.V_mk ul492_3 ge492_3)
          clear hva_ hvn_ hvc_ ge492_3 ul492_3
          clear hcc492 hce492
          have HR492_3:=aQ hi492_3
          have HC492_3:=aQ hl492_3
          clear hi492_3 hl492_3
          replace p492:=eq_true p492
          replace q492:=eq_true q492
          refine start_ (n:=20) (S:=fun w'=>w'.cell? (ad492.add ((x8_3).toNat * 4)) = some (.int .i64 ((rd_T44 t463 x8_3).f0))∧w'.cell? ⟨(ad492.add ((x8_3).toNat * 4)).block,(ad492.add ((x8_3).toNat * 4)).off + 1,none⟩ = some (.int .i64 ((rd_T44 t463 x8_3).f1.f0))∧w'.cell? ⟨(ad492.add ((x8_3).toNat * 4)).block,(ad492.add ((x8_3).toNat * 4)).off + 2,none⟩ = some (.int .i64 ((rd_T44 t463 x8_3).f1.f1))∧w'.cell? ⟨(ad492.add ((x8_3).toNat * 4)).block,(ad492.add ((x8_3).toNat * 4)).off + 3,none⟩ = some (.slice A492_3 ((rd_T44 t463 x8_3).f1.f2).length c492_3)) (ds:=[]) #[false,false,false,false,false,false,false,false,false,false,false,false,false,false,false,false,false,false,false,false] (by kernel_rfl) rfl rfl ⟨hx492_0,hx492_1,hx492_2,hx492_3⟩ (fun hHeld=>?_);refine with_tabW spec_l17Steps.tab24 spec_l17Steps.bits24 (fun HT_ HW_=>?_)
          generalize wr.drew = w62 at HO_3 HO_4 HO_5 HO_444002 BK443 HB HL492_3 HR492_3 hx492_0 hx492_1 hx492_2 hx492_3 hHeld ⊢
          refine pur (i:=0) (N:=some 114) #[true,false,false,false,false,false,false,false,false,false,false,false,false,false,false,false,false,false,false,false] ?_
          refine pur (i:=1) (N:=some 115) #[true,true,false,false,false,false,false,false,false,false,false,false,false,false,false,false,false,false,false,false] ?_
          refine pur (i:=2) (N:=some 116) #[true,true,true,false,false,false,false,false,false,false,false,false,false,false,false,false,false,false,false,false] ?_
          refine pur (i:=3) (N:=some 117) #[true,true,true,true,false,false,false,false,false,false,false,false,false,false,false,false,false,false,false,false] ?_
          refine tak (i:=4) (N:=some 118) #[true,true,true,true,true,false,false,false,false,false,false,false,false,false,false,false,false,false,false,false] ?_
          refine pur (i:=5) (N:=some 119) #[true,true,true,true,true,true,false,false,false,false,false,false,false,false,false,false,false,false,false,false] ?_
          refine pur (i:=6) (N:=some 120) #[true,true,true,true,true,true,true,false,false,false,false,false,false,false,false,false,false,false,false,false] ?_
          refine pure_ (i:=7) (N:=some 121) (v:=undef) (a':=?_) #[true,true,true,true,true,true,true,true,false,false,false,false,false,false,false,false,false,false,false,false] rfl rfl (any_of HT_.out (by kernel_rfl)) (fun _ _ _ h=>h) (Or.inr ⟨by rfl,rfl⟩) ?_ ?_
          rotate_left;·simp only [Act.put,List.setIfInBounds_toArray,List.set_cons_zero,List.set_cons_succ,i64_w,i32_w];rfl
          refine pure_ (i:=8) (N:=some 122) (v:=undef) (a':=?_) #[true,true,true,true,true,true,true,true,true,false,false,false,false,false,false,false,false,false,false,false] rfl rfl (any_of HT_.out (by kernel_rfl)) (fun _ _ _ h=>h) (Or.inr ⟨by rfl,rfl⟩) ?_ ?_
          rotate_left;·simp only [Act.put,List.setIfInBounds_toArray,List.set_cons_zero,List.set_cons_succ,i64_w,i32_w];rfl
          refine pure_ (i:=9) (N:=some 123) (v:=undef) (a':=?_) #[true,true,true,true,true,true,true,true,true,true,false,false,false,false,false,false,false,false,false,false] rfl rfl (any_of HT_.out (by kernel_rfl)) (fun _ _ _ h=>h) (Or.inr ⟨by rfl,rfl⟩) ?_ ?_
          rotate_left;·simp only [Act.put,List.setIfInBounds_toArray,List.set_cons_zero,List.set_cons_succ,i64_w,i32_w];rfl
          refine pure_ (i:=10) (N:=some 124) (v:=undef) (a':=?_) #[true,true,true,true,true,true,true,true,true,true,true,false,false,false,false,false,false,false,false,false] rfl rfl (any_of HT_.out (by kernel_rfl)) (fun _ _ _ h=>h) (Or.inr ⟨by rfl,rfl⟩) ?_ ?_
          rotate_left;·simp only [Act.put,List.setIfInBounds_toArray,List.set_cons_zero,List.set_cons_succ,i64_w,i32_w];rfl
          refine pure_ (i:=11) (N:=some 125) (v:=undef) (a':=?_) #[true,true,true,true,true,true,true,true,true,true,true,true,false,false,false,false,false,false,false,false] rfl rfl (any_of HT_.out (by kernel_rfl)) (fun _ _ _ h=>h) (Or.inr ⟨by rfl,rfl⟩) ?_ ?_
          rotate_left;·simp only [Act.put,List.setIfInBounds_toArray,List.set_cons_zero,List.set_cons_succ,i64_w,i32_w];rfl
          refine pure_ (i:=12) (N:=some 126) (v:=undef) (a':=?_) #[true,true,true,true,true,true,true,true,true,true,true,true,true,false,false,false,false,false,false,false] rfl rfl (any_of HT_.out (by kernel_rfl)) (fun _ _ _ h=>h) (Or.inr ⟨by rfl,rfl⟩) ?_ ?_
          rotate_left;·simp only [Act.put,List.setIfInBounds_toArray,List.set_cons_zero,List.set_cons_succ,i64_w,i32_w];rfl
          refine pure_ (i:=13) (N:=some 127) (v:=undef) (a':=?_) #[true,true,true,true,true,true,true,true,true,true,true,true,true,true,false,false,false,false,false,false] rfl rfl (any_of HT_.out (by kernel_rfl)) (fun _ _ _ h=>h) (Or.inr ⟨by rfl,rfl⟩) ?_ ?_
          rotate_left;·simp only [Act.put,List.setIfInBounds_toArray,List.set_cons_zero,List.set_cons_succ,i64_w,i32_w];rfl
          refine pure_ (i:=14) (N:=some 128) (v:=undef) (a':=?_) #[true,true,true,true,true,true,true,true,true,true,true,true,true,true,true,false,false,false,false,false] rfl rfl (any_of HT_.out (by kernel_rfl)) (fun _ _ _ h=>h) (Or.inr ⟨by rfl,rfl⟩) ?_ ?_
          rotate_left;·simp only [Act.put,List.setIfInBounds_toArray,List.set_cons_zero,List.set_cons_succ,i64_w,i32_w];rfl
          refine pure_ (i:=15) (N:=some 129) (v:=undef) (a':=?_) #[true,true,true,true,true,true,true,true,true,true,true,true,true,true,true,true,false,false,false,false] rfl rfl (any_of HT_.out (by kernel_rfl)) (fun _ _ _ h=>h) (Or.inr ⟨by rfl,rfl⟩) ?_ ?_
          rotate_left;·simp only [Act.put,List.setIfInBounds_toArray,List.set_cons_zero,List.set_cons_succ,i64_w,i32_w];rfl
          refine pure_ (i:=16) (N:=some 130) (v:=undef) (a':=?_) #[true,true,true,true,true,true,true,true,true,true,true,true,true,true,true,true,true,false,false,false] rfl rfl (any_of HT_.out (by kernel_rfl)) (fun _ _ _ h=>h) (Or.inr ⟨by rfl,rfl⟩) ?_ ?_
          rotate_left;·simp only [Act.put,List.setIfInBounds_toArray,List.set_cons_zero,List.set_cons_succ,i64_w,i32_w];rfl
          refine pure_ (i:=17) (N:=some 131) (v:=undef) (a':=?_) #[true,true,true,true,true,true,true,true,true,true,true,true,true,true,true,true,true,true,false,false] rfl rfl (any_of HT_.out (by kernel_rfl)) (fun _ _ _ h=>h) (Or.inr ⟨by rfl,rfl⟩) ?_ ?_
          rotate_left;·simp only [Act.put,List.setIfInBounds_toArray,List.set_cons_zero,List.set_cons_succ,i64_w,i32_w];rfl
          refine pure_ (i:=18) (N:=some 132) (v:=undef) (a':=?_) #[true,true,true,true,true,true,true,true,true,true,true,true,true,true,true,true,true,true,true,false] rfl rfl (any_of HT_.out (by kernel_rfl)) (fun _ _ _ h=>h) (Or.inr ⟨by rfl,rfl⟩) ?_ ?_
          rotate_left;·simp only [Act.put,List.setIfInBounds_toArray,List.set_cons_zero,List.set_cons_succ,i64_w,i32_w];rfl
          refine pur (i:=19) (N:=some 133) #[true,true,true,true,true,true,true,true,true,true,true,true,true,true,true,true,true,true,true,true] ?_
          refine done_ (done_of HT_.out (by kernel_rfl)) ?_
          try go_wp2
          go_roundg k4
          case measure=>have:=HK1.out;have:=HK2.out;have:=HK3.out;have:=HK4.out;omega
          case rel=>exact ⟨(x3_4),(wrap64 (x9_4 + 1)),rfl,H',⟨by have:=HK1.out;have:=HK2.out;have:=HK3.out;have:=HK4.out;omega⟩,⟨nN HO_3.out⟩,⟨nN HO_4.out⟩,⟨nN HO_5.out⟩,⟨nV HO_444002.out⟩,⟨nB BK443.out⟩,⟨bB⟩⟩
         rw [if_neg c61] at H
         have c61b0:(((rd_T44 t463 x8_3).f0) == 0) = false:=beq_eq_false_iff_ne.mpr c61
         have c61b1:(((rd_T44 t463 x8_3).f0) != 0) = true:=bne_iff_ne.mpr c61
         by_cases c63:0 ≤ x9_4;rotate_left
         ·rw [if_neg c63] at H
          exact absurd H (by simp)
         rw [if_pos c63] at H
         have c63b0:decide (0 ≤ x9_4) = true:=decide_eq_true c63
         clear c63
         by_cases c64:((rd_T44 t463 x8_3).f0) = (wrap64 (-((rd_T44 t467 x9_4).f0)));rotate_left
         ·rw [if_neg c64] at H
          have c64b0:(((rd_T44 t463 x8_3).f0) == (wrap64 (-((rd_T44 t467 x9_4).f0)))) = false:=beq_eq_false_iff_ne.mpr c64
          have c64b1:(((rd_T44 t463 x8_3).f0) != (wrap64 (-((rd_T44 t467 x9_4).f0)))) = true:=bne_iff_ne.mpr c64
          have H':=aQ H
          clear H
          try go_wp2
          replace HO_3:=aQ (Kd.N_drew HO_3.out)
          replace HO_4:=aQ (Kd.N_drew HO_4.out)
          replace HO_5:=aQ (Kd.N_drew HO_5.out)
          replace HO_444002:=aQ (Kd.V_drew HO_444002.out)
          replace BK443:=aQ (blk_drew BK443.out)
          replace HB:=aQ (below_drew1 HB.out)
          have p492:0 ≤ (x8_3:Int):=of_decide_eq_true (by first | (with_reducible assumption) | assumption)
          have q492:x8_3 < (t463.length:Int):=of_decide_eq_true (by first | (with_reducible assumption) | assumption)
          obtain ⟨ad492,A492_3,c492_3,e492,hx492_0,hx492_1,hx492_2,hx492_3,hl492_3,hi492_3⟩:=at_T44 (Kd.N_reads' HO_4.out).2.2 x8_3 p492 q492
          cases e492
          obtain ⟨ce492,hce492,hMe492,hcc492⟩:=Kd.N_get HO_4.out z44 x8_3 p492 (by first | exact q492 | exact of_decide_eq_true (by first | (with_reducible assumption) | assumption) | (have e_:=(Kd.N_reads' HO_4.out).1;omega))
          obtain ⟨ua492_3,uc492_3,rfl,ul492_3,ge492_3⟩:=k44_openF hMe492
          have hv492_3:=hcc492 3 _ rfl
          rw [add_field _ _ 3 (by omega)] at hv492_3
          replace hv492_3:=Option.some.inj (hv492_3.symm.trans hx492_3)
          injection hv492_3 with hva_ hvn_ hvc_
          rw [hva_] at ge492_3
          rw [hvc_] at ul492_3
          have HL492_3:=aQ (show Kd.V k29 29 _ w.heap.size _ _ ((rd_T44 t463 x8_3).f1.f2) from Kd.V_mk ul492_3 ge492_3)
          clear hva_ hvn_ hvc_ ge492_3 ul492_3
          clear hcc492 hce492
          have HR492_3:=aQ hi492_3
          have HC492_3:=aQ hl492_3
          clear hi492_3 hl492_3
          replace p492:=eq_true p492
          replace q492:=eq_true q492
          have p493:0 ≤ (x8_3:Int):=of_decide_eq_true (by first | (with_reducible assumption) | assumption)
          have q493:x8_3 < (t463.length:Int):=of_decide_eq_true (by first | (with_reducible assumption) | assumption)
          obtain ⟨ad493,A493_3,c493_3,e493,hx493_0,hx493_1,hx493_2,hx493_3,hl493_3,hi493_3⟩:=at_T44 (Kd.N_reads' HO_4.out).2.2 x8_3 p493 q493
          obtain rfl:ad492 = ad493:=(by injection e493)
          obtain ⟨ce493,hce493,hMe493,hcc493⟩:=Kd.N_get HO_4.out z44 x8_3 p493 (by first | exact q493 | exact of_decide_eq_true (by first | (with_reducible assumption) | assumption) | (have e_:=(Kd.N_reads' HO_4.out).1;omega))
          obtain ⟨ua493_3,uc493_3,rfl,ul493_3,ge493_3⟩:=k44_openF hMe493
          have hv493_3:=hcc493 3 _ rfl
          rw [add_field _ _ 3 (by omega)] at hv493_3
          replace hv493_3:=Option.some.inj (hv493_3.symm.trans hx493_3)
          injection hv493_3 with hva_ hvn_ hvc_
          rw [hva_] at ge493_3
          rw [hvc_] at ul493_3
          have HL493_3:=aQ (show Kd.V k29 29 _ w.heap.size _ _ ((rd_T44 t463 x8_3).f1.f2) from Kd.V_mk ul493_3 ge493_3)
          clear hva_ hvn_ hvc_ ge493_3 ul493_3
          clear hcc493 hce493
          have HR493_3:=aQ hi493_3
          have HC493_3:=aQ hl493_3
          clear hi493_3 hl493_3
          replace p493:=eq_true p493
          replace q493:=eq_true q493
          have ea_:=Option.some.inj (hx492_3.symm.trans hx493_3)
          injection ea_ with ea_ en_ ec_
          subst ea_
          subst ec_
          clear en_
          have p494:0 ≤ (x9_4:Int):=of_decide_eq_true (by first | (with_reducible assumption) | assumption)
          have q494:x9_4 < (t467.length:Int):=of_decide_eq_true (by first | (with_reducible assumption) | assumption)
          obtain ⟨ad494,A494_3,c494_3,e494,hx494_0,hx494_1,hx494_2,hx494_3,hl494_3,hi494_3⟩:=at_T44 (Kd.N_reads' HO_5.out).2.2 x9_4 p494 q494
          cases e494
          obtain ⟨ce494,hce494,hMe494,hcc494⟩:=Kd.N_get HO_5.out z44 x9_4 p494 (by first | exact q494 | exact of_decide_eq_true (by first | (with_reducible assumption) | assumption) | (have e_:=(Kd.N_reads' HO_5.out).1;omega))
          obtain ⟨ua494_3,uc494_3,rfl,ul494_3,ge494_3⟩:=k44_openF hMe494
          have hv494_3:=hcc494 3 _ rfl
          rw [add_field _ _ 3 (by omega)] at hv494_3
          replace hv494_3:=Option.some.inj (hv494_3.symm.trans hx494_3)
          injection hv494_3 with hva_ hvn_ hvc_
          rw [hva_] at ge494_3
          rw [hvc_] at ul494_3
          have HL494_3:=aQ (show Kd.V k29 29 _ w.heap.size _ _ ((rd_T44 t467 x9_4).f1.f2) from Kd.V_mk ul494_3 ge494_3)
          clear hva_ hvn_ hvc_ ge494_3 ul494_3
          clear hcc494 hce494
          have HR494_3:=aQ hi494_3
          have HC494_3:=aQ hl494_3
          clear hi494_3 hl494_3
          replace p494:=eq_true p494
          replace q494:=eq_true q494
          refine start_ (n:=20) (S:=fun w'=>w'.cell? (ad492.add ((x8_3).toNat * 4)) = some (.int .i64 ((rd_T44 t463 x8_3).f0))∧w'.cell? ⟨(ad492.add ((x8_3).toNat * 4)).block,(ad492.add ((x8_3).toNat * 4)).off + 1,none⟩ = some (.int .i64 ((rd_T44 t463 x8_3).f1.f0))∧w'.cell? ⟨(ad492.add ((x8_3).toNat * 4)).block,(ad492.add ((x8_3).toNat * 4)).off + 2,none⟩ = some (.int .i64 ((rd_T44 t463 x8_3).f1.f1))∧w'.cell? ⟨(ad492.add ((x8_3).toNat * 4)).block,(ad492.add ((x8_3).toNat * 4)).off + 3,none⟩ = some (.slice A492_3 ((rd_T44 t463 x8_3).f1.f2).length c492_3)∧w'.cell? (ad492.add ((x8_3).toNat * 4)) = some (.int .i64 ((rd_T44 t463 x8_3).f0))∧w'.cell? ⟨(ad492.add ((x8_3).toNat * 4)).block,(ad492.add ((x8_3).toNat * 4)).off + 1,none⟩ = some (.int .i64 ((rd_T44 t463 x8_3).f1.f0))∧w'.cell? ⟨(ad492.add ((x8_3).toNat * 4)).block,(ad492.add ((x8_3).toNat * 4)).off + 2,none⟩ = some (.int .i64 ((rd_T44 t463 x8_3).f1.f1))∧w'.cell? ⟨(ad492.add ((x8_3).toNat * 4)).block,(ad492.add ((x8_3).toNat * 4)).off + 3,none⟩ = some (.slice A492_3 ((rd_T44 t463 x8_3).f1.f2).length c492_3)∧w'.cell? (ad494.add ((x9_4).toNat * 4)) = some (.int .i64 ((rd_T44 t467 x9_4).f0))∧w'.cell? ⟨(ad494.add ((x9_4).toNat * 4)).block,(ad494.add ((x9_4).toNat * 4)).off + 1,none⟩ = some (.int .i64 ((rd_T44 t467 x9_4).f1.f0))∧w'.cell? ⟨(ad494.add ((x9_4).toNat * 4)).block,(ad494.add ((x9_4).toNat * 4)).off + 2,none⟩ = some (.int .i64 ((rd_T44 t467 x9_4).f1.f1))∧w'.cell? ⟨(ad494.add ((x9_4).toNat * 4)).block,(ad494.add ((x9_4).toNat * 4)).off + 3,none⟩ = some (.slice A494_3 ((rd_T44 t467 x9_4).f1.f2).length c494_3)) (ds:=[]) #[false,false,false,false,false,false,false,false,false,false,false,false,false,false,false,false,false,false,false,false] (by kernel_rfl) rfl rfl ⟨hx492_0,hx492_1,hx492_2,hx492_3,hx493_0,hx493_1,hx493_2,hx493_3,hx494_0,hx494_1,hx494_2,hx494_3⟩ (fun hHeld=>?_);refine with_tabW spec_l17Steps.tab24 spec_l17Steps.bits24 (fun HT_ HW_=>?_)
          generalize wr.drew = w72 at HO_3 HO_4 HO_5 HO_444002 BK443 HB HL492_3 HL493_3 HL494_3 HR492_3 HR493_3 HR494_3 hx492_0 hx492_1 hx492_2 hx492_3 hx493_0 hx493_1 hx493_2 hx493_3 hx494_0 hx494_1 hx494_2 hx494_3 hHeld ⊢
          refine pur (i:=0) (N:=some 114) #[true,false,false,false,false,false,false,false,false,false,false,false,false,false,false,false,false,false,false,false] ?_
          refine pur (i:=1) (N:=some 115) #[true,true,false,false,false,false,false,false,false,false,false,false,false,false,false,false,false,false,false,false] ?_
          refine pur (i:=2) (N:=some 116) #[true,true,true,false,false,false,false,false,false,false,false,false,false,false,false,false,false,false,false,false] ?_
          refine pur (i:=3) (N:=some 117) #[true,true,true,true,false,false,false,false,false,false,false,false,false,false,false,false,false,false,false,false] ?_
          refine tak (i:=4) (N:=some 118) #[true,true,true,true,true,false,false,false,false,false,false,false,false,false,false,false,false,false,false,false] ?_
          refine pur (i:=5) (N:=some 119) #[true,true,true,true,true,true,false,false,false,false,false,false,false,false,false,false,false,false,false,false] ?_
          refine pur (i:=6) (N:=some 120) #[true,true,true,true,true,true,true,false,false,false,false,false,false,false,false,false,false,false,false,false] ?_
          refine pur (i:=7) (N:=some 121) #[true,true,true,true,true,true,true,true,false,false,false,false,false,false,false,false,false,false,false,false] ?_
          refine pur (i:=8) (N:=some 122) #[true,true,true,true,true,true,true,true,true,false,false,false,false,false,false,false,false,false,false,false] ?_
          refine pur (i:=9) (N:=some 123) #[true,true,true,true,true,true,true,true,true,true,false,false,false,false,false,false,false,false,false,false] ?_
          refine pur (i:=10) (N:=some 124) #[true,true,true,true,true,true,true,true,true,true,true,false,false,false,false,false,false,false,false,false] ?_
          refine pur (i:=12) (N:=some 126) #[true,true,true,true,true,true,true,true,true,true,true,false,true,false,false,false,false,false,false,false] ?_
          refine pur (i:=13) (N:=some 127) #[true,true,true,true,true,true,true,true,true,true,true,false,true,true,false,false,false,false,false,false] ?_
          refine pur (i:=14) (N:=some 128) #[true,true,true,true,true,true,true,true,true,true,true,false,true,true,true,false,false,false,false,false] ?_
          refine pur (i:=15) (N:=some 129) #[true,true,true,true,true,true,true,true,true,true,true,false,true,true,true,true,false,false,false,false] ?_
          refine tak (i:=11) (N:=some 125) #[true,true,true,true,true,true,true,true,true,true,true,true,true,true,true,true,false,false,false,false] ?_
          refine tak (i:=16) (N:=some 130) #[true,true,true,true,true,true,true,true,true,true,true,true,true,true,true,true,true,false,false,false] ?_
          refine pur (i:=17) (N:=some 131) #[true,true,true,true,true,true,true,true,true,true,true,true,true,true,true,true,true,true,false,false] ?_
          refine pur (i:=18) (N:=some 132) #[true,true,true,true,true,true,true,true,true,true,true,true,true,true,true,true,true,true,true,false] ?_
          refine pur (i:=19) (N:=some 133) #[true,true,true,true,true,true,true,true,true,true,true,true,true,true,true,true,true,true,true,true] ?_
          refine done_ (done_of HT_.out (by kernel_rfl)) ?_
          try go_wp2
          go_roundg k4
          case measure=>have:=HK1.out;have:=HK2.out;have:=HK3.out;have:=HK4.out;omega
          case rel=>exact ⟨(x3_4),(wrap64 (x9_4 + 1)),rfl,H',⟨by have:=HK1.out;have:=HK2.out;have:=HK3.out;have:=HK4.out;omega⟩,⟨nN HO_3.out⟩,⟨nN HO_4.out⟩,⟨nN HO_5.out⟩,⟨nV HO_444002.out⟩,⟨nB BK443.out⟩,⟨bB⟩⟩
         rw [if_pos c64] at H
         have c64b0:(((rd_T44 t463 x8_3).f0) == (wrap64 (-((rd_T44 t467 x9_4).f0)))) = true:=beq_iff_eq.mpr c64
         have c64b1:(((rd_T44 t463 x8_3).f0) != (wrap64 (-((rd_T44 t467 x9_4).f0)))) = false:=bne_eq_false_iff_eq.mpr c64
         clear c64
         obtain ⟨⟨t497,t498,t499⟩,A65,H⟩:=bQ H
         dsimp only at H
         by_cases c66:x3_4.length < 2932031007402;rotate_left
         ·rw [if_neg c66] at H
          exact absurd H (by simp)
         rw [if_pos c66] at H
         have LMc66:=aQ c66
         clear c66
         obtain ⟨y502,hy502⟩:∃ y_:List (S44),y_ = (x3_4 ++ [(⟨0,(⟨t497,t498,t499⟩:S29)⟩:S44)]):=⟨_,rfl⟩
         replace H:(spec_l17Steps.l3 k4 y502 t463 t467 x8_3 (wrap64 (x9_4 + 1)) a0_0 a0_1 l0_2) = some r:=by rw [hy502];exact H
         have Ny502:=aQ hy502
         clear hy502
         have H':=aQ H
         clear H
         try go_wp2
         replace HO_3:=aQ (Kd.N_drew HO_3.out)
         replace HO_4:=aQ (Kd.N_drew HO_4.out)
         replace HO_5:=aQ (Kd.N_drew HO_5.out)
         replace HO_444002:=aQ (Kd.V_drew HO_444002.out)
         replace BK443:=aQ (blk_drew BK443.out)
         replace HB:=aQ (below_drew1 HB.out)
         have p492:0 ≤ (x8_3:Int):=of_decide_eq_true (by first | (with_reducible assumption) | assumption)
         have q492:x8_3 < (t463.length:Int):=of_decide_eq_true (by first | (with_reducible assumption) | assumption)
         obtain ⟨ad492,A492_3,c492_3,e492,hx492_0,hx492_1,hx492_2,hx492_3,hl492_3,hi492_3⟩:=at_T44 (Kd.N_reads' HO_4.out).2.2 x8_3 p492 q492
         cases e492
         obtain ⟨ce492,hce492,hMe492,hcc492⟩:=Kd.N_get HO_4.out z44 x8_3 p492 (by first | exact q492 | exact of_decide_eq_true (by first | (with_reducible assumption) | assumption) | (have e_:=(Kd.N_reads' HO_4.out).1;omega))
         obtain ⟨ua492_3,uc492_3,rfl,ul492_3,ge492_3⟩:=k44_openF hMe492
         have hv492_3:=hcc492 3 _ rfl
         rw [add_field _ _ 3 (by omega)] at hv492_3
         replace hv492_3:=Option.some.inj (hv492_3.symm.trans hx492_3)
         injection hv492_3 with hva_ hvn_ hvc_
         rw [hva_] at ge492_3
         rw [hvc_] at ul492_3
         have HL492_3:=aQ (show Kd.V k29 29 _ w.heap.size _ _ ((rd_T44 t463 x8_3).f1.f2) from Kd.V_mk ul492_3 ge492_3)
         clear hva_ hvn_ hvc_ ge492_3 ul492_3
         clear hcc492 hce492
         have HR492_3:=aQ hi492_3
         have HC492_3:=aQ hl492_3
         clear hi492_3 hl492_3
         replace p492:=eq_true p492
         replace q492:=eq_true q492
         have p493:0 ≤ (x8_3:Int):=of_decide_eq_true (by first | (with_reducible assumption) | assumption)
         have q493:x8_3 < (t463.length:Int):=of_decide_eq_true (by first | (with_reducible assumption) | assumption)
         obtain ⟨ad493,A493_3,c493_3,e493,hx493_0,hx493_1,hx493_2,hx493_3,hl493_3,hi493_3⟩:=at_T44 (Kd.N_reads' HO_4.out).2.2 x8_3 p493 q493
         obtain rfl:ad492 = ad493:=(by injection e493)
         obtain ⟨ce493,hce493,hMe493,hcc493⟩:=Kd.N_get HO_4.out z44 x8_3 p493 (by first | exact q493 | exact of_decide_eq_true (by first | (with_reducible assumption) | assumption) | (have e_:=(Kd.N_reads' HO_4.out).1;omega))
         obtain ⟨ua493_3,uc493_3,rfl,ul493_3,ge493_3⟩:=k44_openF hMe493
         have hv493_3:=hcc493 3 _ rfl
         rw [add_field _ _ 3 (by omega)] at hv493_3
         replace hv493_3:=Option.some.inj (hv493_3.symm.trans hx493_3)
         injection hv493_3 with hva_ hvn_ hvc_
         rw [hva_] at ge493_3
         rw [hvc_] at ul493_3
         have HL493_3:=aQ (show Kd.V k29 29 _ w.heap.size _ _ ((rd_T44 t463 x8_3).f1.f2) from Kd.V_mk ul493_3 ge493_3)
         clear hva_ hvn_ hvc_ ge493_3 ul493_3
         clear hcc493 hce493
         have HR493_3:=aQ hi493_3
         have HC493_3:=aQ hl493_3
         clear hi493_3 hl493_3
         replace p493:=eq_true p493
         replace q493:=eq_true q493
         have ea_:=Option.some.inj (hx492_3.symm.trans hx493_3)
         injection ea_ with ea_ en_ ec_
         subst ea_
         subst ec_
         clear en_
         have p494:0 ≤ (x9_4:Int):=of_decide_eq_true (by first | (with_reducible assumption) | assumption)
         have q494:x9_4 < (t467.length:Int):=of_decide_eq_true (by first | (with_reducible assumption) | assumption)
         obtain ⟨ad494,A494_3,c494_3,e494,hx494_0,hx494_1,hx494_2,hx494_3,hl494_3,hi494_3⟩:=at_T44 (Kd.N_reads' HO_5.out).2.2 x9_4 p494 q494
         cases e494
         obtain ⟨ce494,hce494,hMe494,hcc494⟩:=Kd.N_get HO_5.out z44 x9_4 p494 (by first | exact q494 | exact of_decide_eq_true (by first | (with_reducible assumption) | assumption) | (have e_:=(Kd.N_reads' HO_5.out).1;omega))
         obtain ⟨ua494_3,uc494_3,rfl,ul494_3,ge494_3⟩:=k44_openF hMe494
         have hv494_3:=hcc494 3 _ rfl
         rw [add_field _ _ 3 (by omega)] at hv494_3
         replace hv494_3:=Option.some.inj (hv494_3.symm.trans hx494_3)
         injection hv494_3 with hva_ hvn_ hvc_
         rw [hva_] at ge494_3
         rw [hvc_] at ul494_3
         have HL494_3:=aQ (show Kd.V k29 29 _ w.heap.size _ _ ((rd_T44 t467 x9_4).f1.f2) from Kd.V_mk ul494_3 ge494_3)
         clear hva_ hvn_ hvc_ ge494_3 ul494_3
         clear hcc494 hce494
         have HR494_3:=aQ hi494_3
         have HC494_3:=aQ hl494_3
         clear hi494_3 hl494_3
         replace p494:=eq_true p494
         replace q494:=eq_true q494
         refine start_ (n:=20) (S:=fun w'=>w'.cell? (ad492.add ((x8_3).toNat * 4)) = some (.int .i64 ((rd_T44 t463 x8_3).f0))∧w'.cell? ⟨(ad492.add ((x8_3).toNat * 4)).block,(ad492.add ((x8_3).toNat * 4)).off + 1,none⟩ = some (.int .i64 ((rd_T44 t463 x8_3).f1.f0))∧w'.cell? ⟨(ad492.add ((x8_3).toNat * 4)).block,(ad492.add ((x8_3).toNat * 4)).off + 2,none⟩ = some (.int .i64 ((rd_T44 t463 x8_3).f1.f1))∧w'.cell? ⟨(ad492.add ((x8_3).toNat * 4)).block,(ad492.add ((x8_3).toNat * 4)).off + 3,none⟩ = some (.slice A492_3 ((rd_T44 t463 x8_3).f1.f2).length c492_3)∧w'.cell? (ad492.add ((x8_3).toNat * 4)) = some (.int .i64 ((rd_T44 t463 x8_3).f0))∧w'.cell? ⟨(ad492.add ((x8_3).toNat * 4)).block,(ad492.add ((x8_3).toNat * 4)).off + 1,none⟩ = some (.int .i64 ((rd_T44 t463 x8_3).f1.f0))∧w'.cell? ⟨(ad492.add ((x8_3).toNat * 4)).block,(ad492.add ((x8_3).toNat * 4)).off + 2,none⟩ = some (.int .i64 ((rd_T44 t463 x8_3).f1.f1))∧w'.cell? ⟨(ad492.add ((x8_3).toNat * 4)).block,(ad492.add ((x8_3).toNat * 4)).off + 3,none⟩ = some (.slice A492_3 ((rd_T44 t463 x8_3).f1.f2).length c492_3)∧w'.cell? (ad494.add ((x9_4).toNat * 4)) = some (.int .i64 ((rd_T44 t467 x9_4).f0))∧w'.cell? ⟨(ad494.add ((x9_4).toNat * 4)).block,(ad494.add ((x9_4).toNat * 4)).off + 1,none⟩ = some (.int .i64 ((rd_T44 t467 x9_4).f1.f0))∧w'.cell? ⟨(ad494.add ((x9_4).toNat * 4)).block,(ad494.add ((x9_4).toNat * 4)).off + 2,none⟩ = some (.int .i64 ((rd_T44 t467 x9_4).f1.f1))∧w'.cell? ⟨(ad494.add ((x9_4).toNat * 4)).block,(ad494.add ((x9_4).toNat * 4)).off + 3,none⟩ = some (.slice A494_3 ((rd_T44 t467 x9_4).f1.f2).length c494_3)) (ds:=[]) #[false,false,false,false,false,false,false,false,false,false,false,false,false,false,false,false,false,false,false,false] (by kernel_rfl) rfl rfl ⟨hx492_0,hx492_1,hx492_2,hx492_3,hx493_0,hx493_1,hx493_2,hx493_3,hx494_0,hx494_1,hx494_2,hx494_3⟩ (fun hHeld=>?_);refine with_tabW spec_l17Steps.tab24 spec_l17Steps.bits24 (fun HT_ HW_=>?_)
         generalize wr.drew = w67 at HO_3 HO_4 HO_5 HO_444002 BK443 HB HL492_3 HL493_3 HL494_3 HR492_3 HR493_3 HR494_3 hx492_0 hx492_1 hx492_2 hx492_3 hx493_0 hx493_1 hx493_2 hx493_3 hx494_0 hx494_1 hx494_2 hx494_3 hHeld ⊢
         refine pur (i:=0) (N:=some 114) #[true,false,false,false,false,false,false,false,false,false,false,false,false,false,false,false,false,false,false,false] ?_
         refine pur (i:=1) (N:=some 115) #[true,true,false,false,false,false,false,false,false,false,false,false,false,false,false,false,false,false,false,false] ?_
         refine pur (i:=2) (N:=some 116) #[true,true,true,false,false,false,false,false,false,false,false,false,false,false,false,false,false,false,false,false] ?_
         refine pur (i:=3) (N:=some 117) #[true,true,true,true,false,false,false,false,false,false,false,false,false,false,false,false,false,false,false,false] ?_
         refine tak (i:=4) (N:=some 118) #[true,true,true,true,true,false,false,false,false,false,false,false,false,false,false,false,false,false,false,false] ?_
         refine pur (i:=5) (N:=some 119) #[true,true,true,true,true,true,false,false,false,false,false,false,false,false,false,false,false,false,false,false] ?_
         refine pur (i:=6) (N:=some 120) #[true,true,true,true,true,true,true,false,false,false,false,false,false,false,false,false,false,false,false,false] ?_
         refine pur (i:=7) (N:=some 121) #[true,true,true,true,true,true,true,true,false,false,false,false,false,false,false,false,false,false,false,false] ?_
         refine pur (i:=8) (N:=some 122) #[true,true,true,true,true,true,true,true,true,false,false,false,false,false,false,false,false,false,false,false] ?_
         refine pur (i:=9) (N:=some 123) #[true,true,true,true,true,true,true,true,true,true,false,false,false,false,false,false,false,false,false,false] ?_
         refine pur (i:=10) (N:=some 124) #[true,true,true,true,true,true,true,true,true,true,true,false,false,false,false,false,false,false,false,false] ?_
         refine pur (i:=12) (N:=some 126) #[true,true,true,true,true,true,true,true,true,true,true,false,true,false,false,false,false,false,false,false] ?_
         refine pur (i:=13) (N:=some 127) #[true,true,true,true,true,true,true,true,true,true,true,false,true,true,false,false,false,false,false,false] ?_
         refine pur (i:=14) (N:=some 128) #[true,true,true,true,true,true,true,true,true,true,true,false,true,true,true,false,false,false,false,false] ?_
         refine pur (i:=15) (N:=some 129) #[true,true,true,true,true,true,true,true,true,true,true,false,true,true,true,true,false,false,false,false] ?_
         refine tak (i:=11) (N:=some 125) #[true,true,true,true,true,true,true,true,true,true,true,true,true,true,true,true,false,false,false,false] ?_
         refine tak (i:=16) (N:=some 130) #[true,true,true,true,true,true,true,true,true,true,true,true,true,true,true,true,true,false,false,false] ?_
         refine pur (i:=17) (N:=some 131) #[true,true,true,true,true,true,true,true,true,true,true,true,true,true,true,true,true,true,false,false] ?_
         refine pur (i:=18) (N:=some 132) #[true,true,true,true,true,true,true,true,true,true,true,true,true,true,true,true,true,true,true,false] ?_
         refine pur (i:=19) (N:=some 133) #[true,true,true,true,true,true,true,true,true,true,true,true,true,true,true,true,true,true,true,true] ?_
         refine done_ (done_of HT_.out (by kernel_rfl)) ?_
         try go_wp2
         replace HO_3:=aQ (Kd.N_drew HO_3.out)
         replace HO_4:=aQ (Kd.N_drew HO_4.out)
         replace HO_5:=aQ (Kd.N_drew HO_5.out)
         replace HO_444002:=aQ (Kd.V_drew HO_444002.out)
         replace HL492_3:=aQ (Kd.V_drew HL492_3.out)
         replace HL493_3:=aQ (Kd.V_drew HL493_3.out)
         replace HL494_3:=aQ (Kd.V_drew HL494_3.out)
         replace BK443:=aQ (blk_drew BK443.out)
         replace HR492_3:=aQ (Kd.C_drew HR492_3.out)
         replace HR493_3:=aQ (Kd.C_drew HR493_3.out)
         replace HR494_3:=aQ (Kd.C_drew HR494_3.out)
         replace HB:=aQ (below_drew1 HB.out)
         have p495:0 ≤ (x8_3:Int):=of_decide_eq_true (by first | (with_reducible assumption) | assumption)
         have q495:x8_3 < (t463.length:Int):=of_decide_eq_true (by first | (with_reducible assumption) | assumption)
         obtain ⟨ad495,A495_3,c495_3,e495,hx495_0,hx495_1,hx495_2,hx495_3,hl495_3,hi495_3⟩:=at_T44 (Kd.N_reads' HO_4.out).2.2 x8_3 p495 q495
         obtain rfl:ad492 = ad495:=(by injection e495)
         obtain ⟨ce495,hce495,hMe495,hcc495⟩:=Kd.N_get HO_4.out z44 x8_3 p495 (by first | exact q495 | exact of_decide_eq_true (by first | (with_reducible assumption) | assumption) | (have e_:=(Kd.N_reads' HO_4.out).1;omega))
         obtain ⟨ua495_3,uc495_3,rfl,ul495_3,ge495_3⟩:=k44_openF hMe495
         have hv495_3:=hcc495 3 _ rfl
         rw [add_field _ _ 3 (by omega)] at hv495_3
         replace hv495_3:=Option.some.inj (hv495_3.symm.trans hx495_3)
         injection hv495_3 with hva_ hvn_ hvc_
         rw [hva_] at ge495_3
         rw [hvc_] at ul495_3
         have HL495_3:=aQ (show Kd.V k29 29 _ w.heap.size _ _ ((rd_T44 t463 x8_3).f1.f2) from Kd.V_mk ul495_3 ge495_3)
         clear hva_ hvn_ hvc_ ge495_3 ul495_3
         clear hcc495 hce495
         have HR495_3:=aQ hi495_3
         have HC495_3:=aQ hl495_3
         clear hi495_3 hl495_3
         replace p495:=eq_true p495
         replace q495:=eq_true q495
         have p496:0 ≤ (x9_4:Int):=of_decide_eq_true (by first | (with_reducible assumption) | assumption)
         have q496:x9_4 < (t467.length:Int):=of_decide_eq_true (by first | (with_reducible assumption) | assumption)
         obtain ⟨ad496,A496_3,c496_3,e496,hx496_0,hx496_1,hx496_2,hx496_3,hl496_3,hi496_3⟩:=at_T44 (Kd.N_reads' HO_5.out).2.2 x9_4 p496 q496
         obtain rfl:ad494 = ad496:=(by injection e496)
         obtain ⟨ce496,hce496,hMe496,hcc496⟩:=Kd.N_get HO_5.out z44 x9_4 p496 (by first | exact q496 | exact of_decide_eq_true (by first | (with_reducible assumption) | assumption) | (have e_:=(Kd.N_reads' HO_5.out).1;omega))
         obtain ⟨ua496_3,uc496_3,rfl,ul496_3,ge496_3⟩:=k44_openF hMe496
         have hv496_3:=hcc496 3 _ rfl
         rw [add_field _ _ 3 (by omega)] at hv496_3
         replace hv496_3:=Option.some.inj (hv496_3.symm.trans hx496_3)
         injection hv496_3 with hva_ hvn_ hvc_
         rw [hva_] at ge496_3
         rw [hvc_] at ul496_3
         have HL496_3:=aQ (show Kd.V k29 29 _ w.heap.size _ _ ((rd_T44 t467 x9_4).f1.f2) from Kd.V_mk ul496_3 ge496_3)
         clear hva_ hvn_ hvc_ ge496_3 ul496_3
         clear hcc496 hce496
         have HR496_3:=aQ hi496_3
         have HC496_3:=aQ hl496_3
         clear hi496_3 hl496_3
         replace p496:=eq_true p496
         replace q496:=eq_true q496
         refine start_ (n:=18) (S:=fun w'=>w'.cell? ⟨gb443,0,none⟩ = some (.int .i64 a0_0)∧w'.cell? ⟨gb443,1,none⟩ = some (.int .i64 a0_1)∧w'.cell? ⟨gb443,2,none⟩ = some (.slice (some ad462) l0_2.length c0_2)∧w'.cell? (ad492.add ((x8_3).toNat * 4)) = some (.int .i64 ((rd_T44 t463 x8_3).f0))∧w'.cell? ⟨(ad492.add ((x8_3).toNat * 4)).block,(ad492.add ((x8_3).toNat * 4)).off + 1,none⟩ = some (.int .i64 ((rd_T44 t463 x8_3).f1.f0))∧w'.cell? ⟨(ad492.add ((x8_3).toNat * 4)).block,(ad492.add ((x8_3).toNat * 4)).off + 2,none⟩ = some (.int .i64 ((rd_T44 t463 x8_3).f1.f1))∧w'.cell? ⟨(ad492.add ((x8_3).toNat * 4)).block,(ad492.add ((x8_3).toNat * 4)).off + 3,none⟩ = some (.slice A495_3 ((rd_T44 t463 x8_3).f1.f2).length c495_3)∧w'.cell? (ad494.add ((x9_4).toNat * 4)) = some (.int .i64 ((rd_T44 t467 x9_4).f0))∧w'.cell? ⟨(ad494.add ((x9_4).toNat * 4)).block,(ad494.add ((x9_4).toNat * 4)).off + 1,none⟩ = some (.int .i64 ((rd_T44 t467 x9_4).f1.f0))∧w'.cell? ⟨(ad494.add ((x9_4).toNat * 4)).block,(ad494.add ((x9_4).toNat * 4)).off + 2,none⟩ = some (.int .i64 ((rd_T44 t467 x9_4).f1.f1))∧w'.cell? ⟨(ad494.add ((x9_4).toNat * 4)).block,(ad494.add ((x9_4).toNat * 4)).off + 3,none⟩ = some (.slice A496_3 ((rd_T44 t467 x9_4).f1.f2).length c496_3)) (ds:=[15,16]) #[false,false,false,false,false,false,false,false,false,false,false,false,false,false,false,false,false,false] (by kernel_rfl) rfl rfl ⟨(blk_cell BK443.out 0).trans rfl,(blk_cell BK443.out 1).trans rfl,(blk_cell BK443.out 2).trans rfl,hx495_0,hx495_1,hx495_2,hx495_3,hx496_0,hx496_1,hx496_2,hx496_3⟩ (fun hHeld=>?_);refine with_tabW spec_l17Steps.tab25 spec_l17Steps.bits25 (fun HT_ HW_=>?_)
         generalize w67.drew = w68 at HO_3 HO_4 HO_5 HO_444002 HL492_3 HL493_3 HL494_3 BK443 HR492_3 HR493_3 HR494_3 HB HL495_3 HL496_3 HR495_3 HR496_3 hx495_0 hx495_1 hx495_2 hx495_3 hx496_0 hx496_1 hx496_2 hx496_3 hHeld ⊢
         refine pur (i:=0) (N:=some 134) #[true,false,false,false,false,false,false,false,false,false,false,false,false,false,false,false,false,false] ?_
         refine pur (i:=1) (N:=some 135) #[true,true,false,false,false,false,false,false,false,false,false,false,false,false,false,false,false,false] ?_
         refine pur (i:=3) (N:=some 137) #[true,true,false,true,false,false,false,false,false,false,false,false,false,false,false,false,false,false] ?_
         refine pur (i:=4) (N:=some 138) #[true,true,false,true,true,false,false,false,false,false,false,false,false,false,false,false,false,false] ?_
         refine pur (i:=5) (N:=some 139) #[true,true,false,true,true,true,false,false,false,false,false,false,false,false,false,false,false,false] ?_
         refine pur (i:=6) (N:=some 140) #[true,true,false,true,true,true,true,false,false,false,false,false,false,false,false,false,false,false] ?_
         refine pur (i:=8) (N:=some 142) #[true,true,false,true,true,true,true,false,true,false,false,false,false,false,false,false,false,false] ?_
         refine pur (i:=9) (N:=some 143) #[true,true,false,true,true,true,true,false,true,true,false,false,false,false,false,false,false,false] ?_
         refine pur (i:=10) (N:=some 144) #[true,true,false,true,true,true,true,false,true,true,true,false,false,false,false,false,false,false] ?_
         refine pur (i:=11) (N:=some 145) #[true,true,false,true,true,true,true,false,true,true,true,true,false,false,false,false,false,false] ?_
         refine tak (i:=2) (N:=some 136) #[true,true,true,true,true,true,true,false,true,true,true,true,false,false,false,false,false,false] ?_
         refine tak (i:=7) (N:=some 141) #[true,true,true,true,true,true,true,true,true,true,true,true,false,false,false,false,false,false] ?_
         refine tak (i:=12) (N:=some 146) #[true,true,true,true,true,true,true,true,true,true,true,true,true,false,false,false,false,false] ?_
         refine one_ (i:=13) (N:=some 147) #[true,true,true,true,true,true,true,true,true,true,true,true,true,true,false,false,false,false] rfl rfl (one_of HT_.out (by kernel_rfl)) (by decide) (fun K hK=>?_)
         refine goes1 Try.func66 #[.int .i64 a0_0,.agg #[.int .i64 ((rd_T44 t463 x8_3).f1.f0),.int .i64 ((rd_T44 t463 x8_3).f1.f1),.slice A495_3 ((rd_T44 t463 x8_3).f1.f2).length c495_3],.agg #[.int .i64 ((rd_T44 t467 x9_4).f1.f0),.int .i64 ((rd_T44 t467 x9_4).f1.f1),.slice A496_3 ((rd_T44 t467 x9_4).f1.f2).length c496_3]] ?_
         with_reducible refine (spec_l17Two.calls a0_0 ((rd_T44 t463 x8_3).f1.f0) ((rd_T44 t463 x8_3).f1.f1) (fun k_=>(((P0_2_ k_ ∨ w.heap.size ≤ k_)∧(some k_ ≠ (u3:Value).ownBlock∧(some k_ ≠ (.slice (some ad494) t467.length co56:Value).ownBlock∧k_ ≠ gb443)))∧some k_ ≠ (.slice (some ad492) t463.length co45:Value).ownBlock)) _ _ ((rd_T44 t463 x8_3).f1.f2) ((rd_T44 t467 x9_4).f1.f0) ((rd_T44 t467 x9_4).f1.f1) (fun k_=>(((P0_2_ k_ ∨ w.heap.size ≤ k_)∧(some k_ ≠ (u3:Value).ownBlock∧(some k_ ≠ (.slice (some ad492) t463.length co45:Value).ownBlock∧k_ ≠ gb443)))∧some k_ ≠ (.slice (some ad494) t467.length co56:Value).ownBlock)) _ _ ((rd_T44 t467 x9_4).f1.f2) t497 t498 t499 _ ?side1 ?side2 A65.out).mono ?_
         (case side1=>exact HL495_3.out)
         (case side2=>exact HL496_3.out)
         rintro e w69 ⟨v500,rfl,ho0,hb⟩
         have HS3_:=(hb.cell (World.block_lt_of_cell? _ _ (hHeld.2.2.2.1))).trans (hHeld.2.2.2.1)
         have HS4_:=(hb.cell (World.block_lt_of_cell? _ _ (hHeld.2.2.2.2.1))).trans (hHeld.2.2.2.2.1)
         have HS5_:=(hb.cell (World.block_lt_of_cell? _ _ (hHeld.2.2.2.2.2.1))).trans (hHeld.2.2.2.2.2.1)
         have HS6_:=(hb.cell (World.block_lt_of_cell? _ _ (hHeld.2.2.2.2.2.2.1))).trans (hHeld.2.2.2.2.2.2.1)
         have HS7_:=(hb.cell (World.block_lt_of_cell? _ _ (hHeld.2.2.2.2.2.2.2.1))).trans (hHeld.2.2.2.2.2.2.2.1)
         have HS8_:=(hb.cell (World.block_lt_of_cell? _ _ (hHeld.2.2.2.2.2.2.2.2.1))).trans (hHeld.2.2.2.2.2.2.2.2.1)
         have HS9_:=(hb.cell (World.block_lt_of_cell? _ _ (hHeld.2.2.2.2.2.2.2.2.2.1))).trans (hHeld.2.2.2.2.2.2.2.2.2.1)
         have HS10_:=(hb.cell (World.block_lt_of_cell? _ _ (hHeld.2.2.2.2.2.2.2.2.2.2))).trans (hHeld.2.2.2.2.2.2.2.2.2.2)
         refine ⟨_,rfl,?_⟩
         replace HO_444002:=aQ (Kd.V_elder' (nV HO_444002.out) (Kd.N_base ho0) hb)
         replace HL492_3:=aQ (Kd.V_elder' (nV HL492_3.out) (Kd.N_base ho0) hb)
         replace HL493_3:=aQ (Kd.V_elder' (nV HL493_3.out) (Kd.N_base ho0) hb)
         replace HL494_3:=aQ (Kd.V_elder' (nV HL494_3.out) (Kd.N_base ho0) hb)
         replace HL495_3:=aQ (Kd.V_elder' (nV HL495_3.out) (Kd.N_base ho0) hb)
         replace HL496_3:=aQ (Kd.V_elder' (nV HL496_3.out) (Kd.N_base ho0) hb)
         have HO501:=aQ (Kd.N_lower (Kd.N_mono (ok':=fun k_=>(P0_2_ k_ ∨ w.heap.size ≤ k_)∧some k_ ≠ (u3:Value).ownBlock∧some k_ ≠ (.slice (some ad492) t463.length co45:Value).ownBlock∧some k_ ≠ (.slice (some ad494) t467.length co56:Value).ownBlock∧k_ ≠ gb443) ho0 (fun k_ hk_=>⟨Or.elim hk_ (fun hs_=>Or.elim hs_ (fun hs_=>hs_.1.1) (fun hs_=>hs_.1.1)) (fun hn_=>(.inr (Nat.le_trans (below_size bB) hn_))),Or.elim hk_ (fun hs_=>Or.elim hs_ (fun hs_=>hs_.1.2.1) (fun hs_=>hs_.1.2.1)) (fun hn_=>(Kd.fresh' (Kd.N_lt (nN HO_3.out)) k_ hn_)),Or.elim hk_ (fun hs_=>Or.elim hs_ (fun hs_=>hs_.2) (fun hs_=>hs_.1.2.2.1)) (fun hn_=>(Kd.fresh' (Kd.N_lt (nN HO_4.out)) k_ hn_)),Or.elim hk_ (fun hs_=>Or.elim hs_ (fun hs_=>hs_.1.2.2.1) (fun hs_=>hs_.2)) (fun hn_=>(Kd.fresh' (Kd.N_lt (nN HO_5.out)) k_ hn_)),Or.elim hk_ (fun hs_=>Or.elim hs_ (fun hs_=>hs_.1.2.2.2) (fun hs_=>hs_.1.2.2.2)) (fun hn_=>(Kd.freshB (nB BK443.out) k_ hn_))⟩)) (below_size bB))
         replace HO_3:=aQ (Kd.N_elder' (nN HO_3.out) (Kd.N_base ho0) hb)
         replace HO_4:=aQ (Kd.N_elder' (nN HO_4.out) (Kd.N_base ho0) hb)
         replace HO_5:=aQ (Kd.N_elder' (nN HO_5.out) (Kd.N_base ho0) hb)
         replace BK443:=aQ (blk_below (nB BK443.out) hb)
         replace HR492_3:=aQ (Kd.C_below (nC HR492_3.out) hb)
         replace HR493_3:=aQ (Kd.C_below (nC HR493_3.out) hb)
         replace HR494_3:=aQ (Kd.C_below (nC HR494_3.out) hb)
         replace HR495_3:=aQ (Kd.C_below (nC HR495_3.out) hb)
         replace HR496_3:=aQ (Kd.C_below (nC HR496_3.out) hb)
         replace HB:=aQ (below_step bB hb)
         (try clear hb)
         (try clear ho0)
         obtain ⟨Ao70,co70,eo70⟩:=Kd.N_slice HO501.out
         (first | subst eo70 | (injection eo70 with f1_ f2_ f3_;have f4_:=f1_.symm;have f5_:=f3_.symm;clear f1_ f2_ f3_;subst f4_;subst f5_))
         refine hK.out _ _ ⟨(blk_cell BK443.out 0).trans rfl,(blk_cell BK443.out 1).trans rfl,(blk_cell BK443.out 2).trans rfl,HS3_,HS4_,HS5_,HS6_,HS7_,HS8_,HS9_,HS10_⟩ (fun hHeld=>?_)
         clear hK K
         refine nrm (N:=some 147) ?_
         refine pur (i:=14) (N:=some 148) #[true,true,true,true,true,true,true,true,true,true,true,true,true,true,true,false,false,false] ?_
         refine last_ (i:=15) (N:=some 149) #[true,true,true,true,true,true,true,true,true,true,true,true,true,true,true,true,false,false] rfl rfl (one_of HT_.out (by kernel_rfl)) (by decide) (fun K hK=>?_)
         refine value_ (w1:=?_) (v:=?_) (by rfl) rfl ?_ ?_
         rotate_left 2
         ·go_simp
          constructor
          ·rfl
          ·rfl
         refine hK.out _ _ ?_
         clear hK K
         refine nrm (N:=some 149) ?_
         refine last_ (i:=16) (N:=some 150) #[true,true,true,true,true,true,true,true,true,true,true,true,true,true,true,true,true,false] rfl rfl (one_of HT_.out (by kernel_rfl)) (by decide) (fun K hK=>?_)
         refine Kd.N_append_step k44 (w0:=w) w.heap.size (by rfl) (.tmp 134) (.tmp 149) 35 44 (.agg #[(.int .i64 0),(.int .i64 0),(.int .i64 0),(.slice none 0 0)]) 48 rfl Try.underlying35 info44 rfl (by decide) (by omega) u3 x3_4 (⟨0,(⟨t497,t498,t499⟩:S29)⟩:S44) [.int .i64 0,.int .i64 t497,.int .i64 t498,.slice Ao70 t499.length co70] (fun k_=>(P0_2_ k_ ∨ w.heap.size ≤ k_)∧some k_ ≠ (.slice (some ad492) t463.length co45:Value).ownBlock∧some k_ ≠ (.slice (some ad494) t467.length co56:Value).ownBlock∧k_ ≠ gb443) (fun k_=>((fun k_=>(P0_2_ k_ ∨ w.heap.size ≤ k_)∧some k_ ≠ (.slice (some ad492) t463.length co45:Value).ownBlock∧some k_ ≠ (.slice (some ad494) t467.length co56:Value).ownBlock∧k_ ≠ gb443)) k_∧some k_ ≠ (u3:Value).ownBlock) rfl rfl ?aP (fun _ hk=>hk) ?aF ?aO ?aB ?aS ?aL ?_
         (case aP=>exact (k44_mkF _ _ (⟨0,(⟨t497,t498,t499⟩:S29)⟩:S44) (Kd.N_reads' (Kd.N_mono (ok':=(fun k_=>((fun k_=>(P0_2_ k_ ∨ w.heap.size ≤ k_)∧some k_ ≠ (.slice (some ad492) t463.length co45:Value).ownBlock∧some k_ ≠ (.slice (some ad494) t467.length co56:Value).ownBlock∧k_ ≠ gb443)) k_∧some k_ ≠ (u3:Value).ownBlock)) (HO501.out) (fun k_ hk=>⟨⟨hk.1,⟨hk.2.2.1,⟨hk.2.2.2.1,hk.2.2.2.2⟩⟩⟩,hk.2.1⟩))).2.1 (Kd.N_F (Kd.N_mono (ok':=(fun k_=>((fun k_=>(P0_2_ k_ ∨ w.heap.size ≤ k_)∧some k_ ≠ (.slice (some ad492) t463.length co45:Value).ownBlock∧some k_ ≠ (.slice (some ad494) t467.length co56:Value).ownBlock∧k_ ≠ gb443)) k_∧some k_ ≠ (u3:Value).ownBlock)) (HO501.out) (fun k_ hk=>⟨⟨hk.1,⟨hk.2.2.1,⟨hk.2.2.2.1,hk.2.2.2.2⟩⟩⟩,hk.2.1⟩)))))
         (case aB=>exact bB)
         (case aF=>exact (fun k_ hk=>⟨(.inr (Nat.le_trans (below_size bB) hk)),Kd.fresh' (Kd.N_lt (nN HO_4.out)) k_ hk,Kd.fresh' (Kd.N_lt (nN HO_5.out)) k_ hk,Kd.freshB (nB BK443.out) k_ hk⟩))
         (case aO=>exact (nN (Kd.N_mono HO_3.out (fun _ hk=>⟨hk.1.1,⟨hk.1.2.1,⟨hk.1.2.2.1,hk.1.2.2.2⟩⟩⟩))))
         (case aS=>exact (below_size bB))
         (case aL=>have:=LMc66.out;omega)
         intro v503 w71 ho hb hg hat
         rw [← Ny502.out] at ho
         have n0_:=aQ (Kd.N_afterv (ok:=(fun k_=>(P0_2_ k_ ∨ w.heap.size ≤ k_)∧some k_ ≠ (.slice (some ad494) t467.length co56:Value).ownBlock∧some k_ ≠ (.slice Ao70 t499.length co70:Value).ownBlock∧k_ ≠ gb443)) (nN (Kd.N_mono HO_4.out (fun _ hk=>⟨⟨hk.1.1,⟨hk.1.2.2.1,⟨hk.2,hk.1.2.2.2⟩⟩⟩,hk.1.2.1⟩))) hg hat)
         have n1_:=aQ (Kd.N_afterv (ok:=(fun k_=>(P0_2_ k_ ∨ w.heap.size ≤ k_)∧some k_ ≠ (.slice (some ad492) t463.length co45:Value).ownBlock∧some k_ ≠ (.slice Ao70 t499.length co70:Value).ownBlock∧k_ ≠ gb443)) (nN (Kd.N_mono HO_5.out (fun _ hk=>⟨⟨hk.1.1,⟨hk.1.2.2.1,⟨hk.2,hk.1.2.2.2⟩⟩⟩,hk.1.2.1⟩))) hg hat)
         have n2_:=aQ (Kd.V_afterv (ok:=(fun k_=>(P0_2_ k_ ∨ w.heap.size ≤ k_)∧some k_ ≠ (.slice (some ad492) t463.length co45:Value).ownBlock∧some k_ ≠ (.slice (some ad494) t467.length co56:Value).ownBlock∧some k_ ≠ (.slice Ao70 t499.length co70:Value).ownBlock∧k_ ≠ gb443)) (nV (Kd.V_mono HO_444002.out (fun _ hk=>⟨⟨hk.1.1,⟨hk.1.2.2.1,⟨hk.1.2.2.2.1,⟨hk.2,hk.1.2.2.2.2⟩⟩⟩⟩,hk.1.2.1⟩))) hg hat)
         have n3_:=aQ (blk_grown (nB BK443.out) hg (Kd.N_ne HO_3.out BK443.out (by decide)))
         have n4_:=aQ (Kd.V_afterv (ok:=(fun k_=>(P0_2_ k_ ∨ w.heap.size ≤ k_)∧some k_ ≠ (.slice (some ad492) t463.length co45:Value).ownBlock∧some k_ ≠ (.slice (some ad494) t467.length co56:Value).ownBlock∧some k_ ≠ (.slice Ao70 t499.length co70:Value).ownBlock∧k_ ≠ gb443)) (nV (Kd.V_mono HL492_3.out (fun _ hk=>⟨⟨hk.1.1.1,⟨hk.1.2,⟨hk.1.1.2.2.1,⟨hk.2,hk.1.1.2.2.2⟩⟩⟩⟩,hk.1.1.2.1⟩))) hg hat)
         have n5_:=aQ (Kd.V_afterv (ok:=(fun k_=>(P0_2_ k_ ∨ w.heap.size ≤ k_)∧some k_ ≠ (.slice (some ad492) t463.length co45:Value).ownBlock∧some k_ ≠ (.slice (some ad494) t467.length co56:Value).ownBlock∧some k_ ≠ (.slice Ao70 t499.length co70:Value).ownBlock∧k_ ≠ gb443)) (nV (Kd.V_mono HL493_3.out (fun _ hk=>⟨⟨hk.1.1.1,⟨hk.1.2,⟨hk.1.1.2.2.1,⟨hk.2,hk.1.1.2.2.2⟩⟩⟩⟩,hk.1.1.2.1⟩))) hg hat)
         have n6_:=aQ (Kd.V_afterv (ok:=(fun k_=>(P0_2_ k_ ∨ w.heap.size ≤ k_)∧some k_ ≠ (.slice (some ad492) t463.length co45:Value).ownBlock∧some k_ ≠ (.slice (some ad494) t467.length co56:Value).ownBlock∧some k_ ≠ (.slice Ao70 t499.length co70:Value).ownBlock∧k_ ≠ gb443)) (nV (Kd.V_mono HL494_3.out (fun _ hk=>⟨⟨hk.1.1.1,⟨hk.1.1.2.2.1,⟨hk.1.2,⟨hk.2,hk.1.1.2.2.2⟩⟩⟩⟩,hk.1.1.2.1⟩))) hg hat)
         have n7_:=aQ (Kd.V_afterv (ok:=(fun k_=>(P0_2_ k_ ∨ w.heap.size ≤ k_)∧some k_ ≠ (.slice (some ad492) t463.length co45:Value).ownBlock∧some k_ ≠ (.slice (some ad494) t467.length co56:Value).ownBlock∧some k_ ≠ (.slice Ao70 t499.length co70:Value).ownBlock∧k_ ≠ gb443)) (nV (Kd.V_mono HL495_3.out (fun _ hk=>⟨⟨hk.1.1.1,⟨hk.1.2,⟨hk.1.1.2.2.1,⟨hk.2,hk.1.1.2.2.2⟩⟩⟩⟩,hk.1.1.2.1⟩))) hg hat)
         have n8_:=aQ (Kd.V_afterv (ok:=(fun k_=>(P0_2_ k_ ∨ w.heap.size ≤ k_)∧some k_ ≠ (.slice (some ad492) t463.length co45:Value).ownBlock∧some k_ ≠ (.slice (some ad494) t467.length co56:Value).ownBlock∧some k_ ≠ (.slice Ao70 t499.length co70:Value).ownBlock∧k_ ≠ gb443)) (nV (Kd.V_mono HL496_3.out (fun _ hk=>⟨⟨hk.1.1.1,⟨hk.1.1.2.2.1,⟨hk.1.2,⟨hk.2,hk.1.1.2.2.2⟩⟩⟩⟩,hk.1.1.2.1⟩))) hg hat)
         have n9_:=aQ (hb)
         have n10_:=aQ (ho)
         clear HO_4 HO_5 HO_444002 BK443 HL492_3 HL493_3 HL494_3 HL495_3 HL496_3 HB HO_3 HO501
         have HO_4:=n0_
         have HO_5:=n1_
         have HO_444002:=n2_
         have BK443:=n3_
         have HL492_3:=n4_
         have HL493_3:=n5_
         have HL494_3:=n6_
         have HL495_3:=n7_
         have HL496_3:=n8_
         have HB:=n9_
         have HO504:=n10_
         clear n0_ n1_ n2_ n3_ n4_ n5_ n6_ n7_ n8_ n9_ n10_
         clear ho hb hg hat
         refine hK.out _ _ ?_
         clear hK K
         refine nrm (N:=some 150) ?_
         refine pur (i:=17) (N:=some 3) #[true,true,true,true,true,true,true,true,true,true,true,true,true,true,true,true,true,true] ?_
         refine done_ (done_of HT_.out (by kernel_rfl)) ?_
         try go_wp2
         go_roundg k4
         case measure=>have:=HK1.out;have:=HK2.out;have:=HK3.out;have:=HK4.out;omega
         case rel=>exact ⟨(y502),(wrap64 (x9_4 + 1)),rfl,H',⟨by have:=HK1.out;have:=HK2.out;have:=HK3.out;have:=HK4.out;omega⟩,⟨nN HO504.out⟩,⟨nN (Kd.N_mono HO_4.out (fun _ hk=>⟨hk.1.1,⟨hk.2,⟨hk.1.2.1,hk.1.2.2.2⟩⟩⟩))⟩,⟨nN (Kd.N_mono HO_5.out (fun _ hk=>⟨hk.1.1,⟨hk.2,⟨hk.1.2.1,hk.1.2.2.2⟩⟩⟩))⟩,⟨nV (Kd.V_mono HO_444002.out (fun _ hk=>⟨hk.1.1,⟨hk.2,⟨hk.1.2.1,⟨hk.1.2.2.1,hk.1.2.2.2.2⟩⟩⟩⟩))⟩,⟨nB BK443.out⟩,⟨bB⟩⟩
mutual
def spec_l17Meet.l0:Nat → List (S44) → List (S44) → Int → Option (Bool)
 | 0,_,_,_=>none
 | k + 1,x5,x6,x7=>if x7 < (x5.length:Int) then (spec_l17Meet.l1 k x5 x6 x7 0) else (some false)
def spec_l17Meet.l1:Nat → List (S44) → List (S44) → Int → Int → Option (Bool)
 | 0,_,_,_,_=>none
 | k + 1,x5,x6,x7,x8=>if x8 < (x6.length:Int) then (if 0 ≤ x7 then (if x7 < (x5.length:Int) then (if ((rd_T44 x5 x7).f0) = 0 then (spec_l17Meet.l1 k x5 x6 x7 (wrap64 (x8 + 1))) else (if 0 ≤ x8 then (if ((rd_T44 x5 x7).f0) = (wrap64 (-((rd_T44 x6 x8).f0))) then (some true) else (spec_l17Meet.l1 k x5 x6 x7 (wrap64 (x8 + 1)))) else (none))) else (none)) else (none)) else (spec_l17Meet.l0 k x5 x6 (wrap64 (x7 + 1)))
end
def spec_l17Meet.f (k:Nat) (a0_0:Int) (a0_1:Int) (l0_2:List (S29)) (a1_0:Int) (a1_1:Int) (l1_2:List (S29)):Option (Bool):=(spec_l17Steps.f k a0_0 a0_1 l0_2).bind fun t510=>((spec_l17Steps.f k a1_0 a1_1 l1_2).bind fun t513=>(spec_l17Meet.l0 k t510 t513 0))
theorem spec_l17Meet.mono_l:∀ k,(∀ y0 y1 y2,LeO (spec_l17Meet.l0 k y0 y1 y2) (spec_l17Meet.l0 (k + 1) y0 y1 y2))∧(∀ y0 y1 y2 y3,LeO (spec_l17Meet.l1 k y0 y1 y2 y3) (spec_l17Meet.l1 (k + 1) y0 y1 y2 y3))
 | 0=>⟨fun _ _ _ r h=>by simp [spec_l17Meet.l0] at h,fun _ _ _ _ r h=>by simp [spec_l17Meet.l1] at h⟩
 | k + 1=>by
  obtain ⟨ih0,ih1⟩:=spec_l17Meet.mono_l k
  refine ⟨?_,?_⟩
  ·intro y0 y1 y2
   unfold spec_l17Meet.l0
   repeat' first
   | (with_reducible exact ih0 _ _ _)
   | (with_reducible exact ih1 _ _ _ _)
   | (with_reducible exact spec_l17Steps.mono _ _ _ _)
   | (with_reducible exact LeO.refl _)
   | (with_reducible exact LeO.none _)
   | (with_reducible refine LeO.ite ?_ ?_)
   | (with_reducible refine LeO.bind ?_ (fun _=>?_))
   | exact ih0 _ _ _
   | exact ih1 _ _ _ _
   | exact spec_l17Steps.mono _ _ _ _
   | exact LeO.none _
   | refine LeO.ite ?_ ?_
   | refine LeO.bind ?_ (fun _=>?_)
  ·intro y0 y1 y2 y3
   unfold spec_l17Meet.l1
   repeat' first
   | (with_reducible exact ih0 _ _ _)
   | (with_reducible exact ih1 _ _ _ _)
   | (with_reducible exact spec_l17Steps.mono _ _ _ _)
   | (with_reducible exact LeO.refl _)
   | (with_reducible exact LeO.none _)
   | (with_reducible refine LeO.ite ?_ ?_)
   | (with_reducible refine LeO.bind ?_ (fun _=>?_))
   | exact ih0 _ _ _
   | exact ih1 _ _ _ _
   | exact spec_l17Steps.mono _ _ _ _
   | exact LeO.none _
   | refine LeO.ite ?_ ?_
   | refine LeO.bind ?_ (fun _=>?_)
theorem spec_l17Meet.mono:∀ a0 a1 a2 a3 a4 a5 k,LeO (spec_l17Meet.f k a0 a1 a2 a3 a4 a5) (spec_l17Meet.f (k + 1) a0 a1 a2 a3 a4 a5):=by
 intro a0 a1 a2 a3 a4 a5 k
 obtain ⟨ih0,ih1⟩:=spec_l17Meet.mono_l k
 unfold spec_l17Meet.f
 repeat' first
   | (with_reducible exact ih0 _ _ _)
   | (with_reducible exact ih1 _ _ _ _)
   | (with_reducible exact spec_l17Steps.mono _ _ _ _)
   | (with_reducible exact LeO.refl _)
   | (with_reducible exact LeO.none _)
   | (with_reducible refine LeO.ite ?_ ?_)
   | (with_reducible refine LeO.bind ?_ (fun _=>?_))
   | exact ih0 _ _ _
   | exact ih1 _ _ _ _
   | exact spec_l17Steps.mono _ _ _ _
   | exact LeO.none _
   | refine LeO.ite ?_ ?_
   | refine LeO.bind ?_ (fun _=>?_)
set_option maxHeartbeats 8000000 in
set_option maxRecDepth 100000 in
theorem spec_l17Meet.calls (k:Nat) (a0_0:Int) (a0_1:Int) (A0_2:Option Addr) (c0_2:Nat) (l0_2:List (S29)) (a1_0:Int) (a1_1:Int) (A1_2:Option Addr) (c1_2:Nat) (l1_2:List (S29)) (r:Bool) (w:World) (hr0_2:Kd.C k29 w A0_2 l0_2.length l0_2) (hc0_2:l0_2.length ≤ c0_2) (hr1_2:Kd.C k29 w A1_2 l1_2.length l1_2) (hc1_2:l1_2.length ≤ c1_2) (h:spec_l17Meet.f k a0_0 a0_1 l0_2 a1_0 a1_1 l1_2 = some r) :
  Calls Try.prog 65 #[.agg #[.int .i64 a0_0,.int .i64 a0_1,.slice A0_2 l0_2.length c0_2],.agg #[.int .i64 a1_0,.int .i64 a1_1,.slice A1_2 l1_2.length c1_2]] w fun e w'=>e = .returned (.bool r)∧Below w.heap.size w w':=by
 have hu29:=Try.underlying29
 have HR0_2:=aQ hr0_2
 have HC0_2:=aQ hc0_2
 clear hr0_2 hc0_2
 have HR1_2:=aQ hr1_2
 have HC1_2:=aQ hc1_2
 clear hr1_2 hc1_2
 have HB:=aQ (Below.refl w.heap.size w)
 have H:=h
 clear h
 obtain ⟨t510,A3,H⟩:=bQ H
 (try dsimp only at H)
 obtain ⟨t513,A4,H⟩:=bQ H
 replace H:(spec_l17Meet.l0 k t510 t513 0) = some r:=H
 have H':=aQ H
 clear H
 go_enter Try.func65,Try.ntmps65
 go_wp2_with (first | ((with_reducible refine gate_dst (N:=2) rfl ?_);refine box1 (N:=2) (cs:=#[.int .i64 a0_0,.int .i64 a0_1,.slice A0_2 l0_2.length c0_2]) (t:=29) ?_;intro gb508 hg w5 hbox hb;have BK508:=aQ (hbox);have GW508:=aQ (gB:w.heap.size ≤ gb508);have GE508:=GW508;replace HB:=aQ (below_step bB hb);clear hb hbox hg) | ((with_reducible refine gate_dst (N:=3) rfl ?_);refine box1 (N:=3) (cs:=#[.int .i64 a1_0,.int .i64 a1_1,.slice A1_2 l1_2.length c1_2]) (t:=29) ?_;intro gb509 hg w6 hbox hb;have BK509:=aQ (hbox);have GW509:=aQ (gB:w.heap.size ≤ gb509);have GE509:=GW509;replace HB:=aQ (below_step bB hb);have NB508_509:=aQ ((by rw [hg];exact Nat.ne_of_lt (blk_lt (nB BK508.out)):gb508 ≠ gb509));have NB509_508:=aQ NB508_509.out.symm;replace BK508:=aQ (blk_below (nB BK508.out) hb);clear hb hbox hg;have hnb7:=NB508_509.out;have hnc7:=NB509_508.out;obtain ⟨hcz8_0,hcz8_1,hcz8_2,hfz8_0,hfz8_1,hfz8_2⟩:=cz3 BK508.out) | (go_at_call 51;(with_reducible refine (spec_l17Steps.calls k a0_0 a0_1 (fun k_=>k_ < w.heap.size) _ _ l0_2 t510 _ ?side1 A3.out).mono ?_);(case side1=>exact Kd.V_mk HC0_2.out (Kd.F_below (Kd.C_F k29_heap HR0_2.out) bB));rintro e w9 ⟨v511,rfl,ho0,hb⟩;have HO512:=aQ (Kd.N_lower (Kd.N_mono (ok':=fun k_=>k_ ≠ gb508∧k_ ≠ gb509) ho0 (fun k_ hk_=>⟨Or.elim hk_ (fun hs_=>fun e_=>Nat.not_le.2 hs_ (by rw [e_];exact GW508.out)) (fun hn_=>(Kd.freshB (nB BK508.out) k_ hn_)),Or.elim hk_ (fun hs_=>fun e_=>Nat.not_le.2 hs_ (by rw [e_];exact GW509.out)) (fun hn_=>(Kd.freshB (nB BK509.out) k_ hn_))⟩)) (below_size bB));replace BK508:=aQ (blk_below (nB BK508.out) hb);replace BK509:=aQ (blk_below (nB BK509.out) hb);replace HB:=aQ (below_step bB hb);(try clear hb);(try clear ho0);obtain ⟨hcz10_0,hcz10_1,hcz10_2,hfz10_0,hfz10_1,hfz10_2⟩:=cz3 BK509.out) | (go_at_call 51;(with_reducible refine (spec_l17Steps.calls k a1_0 a1_1 (fun k_=>k_ < w.heap.size) _ _ l1_2 t513 _ ?side1 A4.out).mono ?_);(case side1=>exact Kd.V_mk HC1_2.out (Kd.F_below (Kd.C_F k29_heap HR1_2.out) bB));rintro e w11 ⟨v514,rfl,ho0,hb⟩;have HO515:=aQ (Kd.N_lower (Kd.N_mono (ok':=fun k_=>some k_ ≠ (v511:Value).ownBlock∧k_ ≠ gb508∧k_ ≠ gb509) ho0 (fun k_ hk_=>⟨Or.elim hk_ (fun hs_=>fun e_=>Nat.not_le.2 hs_ (Kd.N_base HO512.out k_ e_.symm)) (fun hn_=>(Kd.fresh' (Kd.N_lt (nN HO512.out)) k_ hn_)),Or.elim hk_ (fun hs_=>fun e_=>Nat.not_le.2 hs_ (by rw [e_];exact GW508.out)) (fun hn_=>(Kd.freshB (nB BK508.out) k_ hn_)),Or.elim hk_ (fun hs_=>fun e_=>Nat.not_le.2 hs_ (by rw [e_];exact GW509.out)) (fun hn_=>(Kd.freshB (nB BK509.out) k_ hn_))⟩)) (below_size bB));replace HO512:=aQ (Kd.N_elder' (nN HO512.out) (Kd.N_base ho0) hb);replace BK508:=aQ (blk_below (nB BK508.out) hb);replace BK509:=aQ (blk_below (nB BK509.out) hb);replace HB:=aQ (below_step bB hb);(try clear hb);(try clear ho0)))
 repeat (go_quiet (first | ((with_reducible refine gate_dst (N:=2) rfl ?_);refine box1 (N:=2) (cs:=#[.int .i64 a0_0,.int .i64 a0_1,.slice A0_2 l0_2.length c0_2]) (t:=29) ?_;intro gb508 hg w5 hbox hb;have BK508:=aQ (hbox);have GW508:=aQ (gB:w.heap.size ≤ gb508);have GE508:=GW508;replace HB:=aQ (below_step bB hb);clear hb hbox hg) | ((with_reducible refine gate_dst (N:=3) rfl ?_);refine box1 (N:=3) (cs:=#[.int .i64 a1_0,.int .i64 a1_1,.slice A1_2 l1_2.length c1_2]) (t:=29) ?_;intro gb509 hg w6 hbox hb;have BK509:=aQ (hbox);have GW509:=aQ (gB:w.heap.size ≤ gb509);have GE509:=GW509;replace HB:=aQ (below_step bB hb);have NB508_509:=aQ ((by rw [hg];exact Nat.ne_of_lt (blk_lt (nB BK508.out)):gb508 ≠ gb509));have NB509_508:=aQ NB508_509.out.symm;replace BK508:=aQ (blk_below (nB BK508.out) hb);clear hb hbox hg;have hnb7:=NB508_509.out;have hnc7:=NB509_508.out;obtain ⟨hcz8_0,hcz8_1,hcz8_2,hfz8_0,hfz8_1,hfz8_2⟩:=cz3 BK508.out) | (go_at_call 51;(with_reducible refine (spec_l17Steps.calls k a0_0 a0_1 (fun k_=>k_ < w.heap.size) _ _ l0_2 t510 _ ?side1 A3.out).mono ?_);(case side1=>exact Kd.V_mk HC0_2.out (Kd.F_below (Kd.C_F k29_heap HR0_2.out) bB));rintro e w9 ⟨v511,rfl,ho0,hb⟩;have HO512:=aQ (Kd.N_lower (Kd.N_mono (ok':=fun k_=>k_ ≠ gb508∧k_ ≠ gb509) ho0 (fun k_ hk_=>⟨Or.elim hk_ (fun hs_=>fun e_=>Nat.not_le.2 hs_ (by rw [e_];exact GW508.out)) (fun hn_=>(Kd.freshB (nB BK508.out) k_ hn_)),Or.elim hk_ (fun hs_=>fun e_=>Nat.not_le.2 hs_ (by rw [e_];exact GW509.out)) (fun hn_=>(Kd.freshB (nB BK509.out) k_ hn_))⟩)) (below_size bB));replace BK508:=aQ (blk_below (nB BK508.out) hb);replace BK509:=aQ (blk_below (nB BK509.out) hb);replace HB:=aQ (below_step bB hb);(try clear hb);(try clear hb2);(try clear hk);(try clear hi);(try clear ho0);obtain ⟨hcz10_0,hcz10_1,hcz10_2,hfz10_0,hfz10_1,hfz10_2⟩:=cz3 BK509.out) | (go_at_call 51;(with_reducible refine (spec_l17Steps.calls k a1_0 a1_1 (fun k_=>k_ < w.heap.size) _ _ l1_2 t513 _ ?side1 A4.out).mono ?_);(case side1=>exact Kd.V_mk HC1_2.out (Kd.F_below (Kd.C_F k29_heap HR1_2.out) bB));rintro e w11 ⟨v514,rfl,ho0,hb⟩;have HO515:=aQ (Kd.N_lower (Kd.N_mono (ok':=fun k_=>some k_ ≠ (v511:Value).ownBlock∧k_ ≠ gb508∧k_ ≠ gb509) ho0 (fun k_ hk_=>⟨Or.elim hk_ (fun hs_=>fun e_=>Nat.not_le.2 hs_ (Kd.N_base HO512.out k_ e_.symm)) (fun hn_=>(Kd.fresh' (Kd.N_lt (nN HO512.out)) k_ hn_)),Or.elim hk_ (fun hs_=>fun e_=>Nat.not_le.2 hs_ (by rw [e_];exact GW508.out)) (fun hn_=>(Kd.freshB (nB BK508.out) k_ hn_)),Or.elim hk_ (fun hs_=>fun e_=>Nat.not_le.2 hs_ (by rw [e_];exact GW509.out)) (fun hn_=>(Kd.freshB (nB BK509.out) k_ hn_))⟩)) (below_size bB));replace HO512:=aQ (Kd.N_elder' (nN HO512.out) (Kd.N_base ho0) hb);replace BK508:=aQ (blk_below (nB BK508.out) hb);replace BK509:=aQ (blk_below (nB BK509.out) hb);replace HB:=aQ (below_step bB hb);(try clear hb);(try clear hb2);(try clear hk);(try clear hi);(try clear ho0)));try go_wp2_with (first | ((with_reducible refine gate_dst (N:=2) rfl ?_);refine box1 (N:=2) (cs:=#[.int .i64 a0_0,.int .i64 a0_1,.slice A0_2 l0_2.length c0_2]) (t:=29) ?_;intro gb508 hg w5 hbox hb;have BK508:=aQ (hbox);have GW508:=aQ (gB:w.heap.size ≤ gb508);have GE508:=GW508;replace HB:=aQ (below_step bB hb);clear hb hbox hg) | ((with_reducible refine gate_dst (N:=3) rfl ?_);refine box1 (N:=3) (cs:=#[.int .i64 a1_0,.int .i64 a1_1,.slice A1_2 l1_2.length c1_2]) (t:=29) ?_;intro gb509 hg w6 hbox hb;have BK509:=aQ (hbox);have GW509:=aQ (gB:w.heap.size ≤ gb509);have GE509:=GW509;replace HB:=aQ (below_step bB hb);have NB508_509:=aQ ((by rw [hg];exact Nat.ne_of_lt (blk_lt (nB BK508.out)):gb508 ≠ gb509));have NB509_508:=aQ NB508_509.out.symm;replace BK508:=aQ (blk_below (nB BK508.out) hb);clear hb hbox hg;have hnb7:=NB508_509.out;have hnc7:=NB509_508.out;obtain ⟨hcz8_0,hcz8_1,hcz8_2,hfz8_0,hfz8_1,hfz8_2⟩:=cz3 BK508.out) | (go_at_call 51;(with_reducible refine (spec_l17Steps.calls k a0_0 a0_1 (fun k_=>k_ < w.heap.size) _ _ l0_2 t510 _ ?side1 A3.out).mono ?_);(case side1=>exact Kd.V_mk HC0_2.out (Kd.F_below (Kd.C_F k29_heap HR0_2.out) bB));rintro e w9 ⟨v511,rfl,ho0,hb⟩;have HO512:=aQ (Kd.N_lower (Kd.N_mono (ok':=fun k_=>k_ ≠ gb508∧k_ ≠ gb509) ho0 (fun k_ hk_=>⟨Or.elim hk_ (fun hs_=>fun e_=>Nat.not_le.2 hs_ (by rw [e_];exact GW508.out)) (fun hn_=>(Kd.freshB (nB BK508.out) k_ hn_)),Or.elim hk_ (fun hs_=>fun e_=>Nat.not_le.2 hs_ (by rw [e_];exact GW509.out)) (fun hn_=>(Kd.freshB (nB BK509.out) k_ hn_))⟩)) (below_size bB));replace BK508:=aQ (blk_below (nB BK508.out) hb);replace BK509:=aQ (blk_below (nB BK509.out) hb);replace HB:=aQ (below_step bB hb);(try clear hb);(try clear hb2);(try clear hk);(try clear hi);(try clear ho0);obtain ⟨hcz10_0,hcz10_1,hcz10_2,hfz10_0,hfz10_1,hfz10_2⟩:=cz3 BK509.out) | (go_at_call 51;(with_reducible refine (spec_l17Steps.calls k a1_0 a1_1 (fun k_=>k_ < w.heap.size) _ _ l1_2 t513 _ ?side1 A4.out).mono ?_);(case side1=>exact Kd.V_mk HC1_2.out (Kd.F_below (Kd.C_F k29_heap HR1_2.out) bB));rintro e w11 ⟨v514,rfl,ho0,hb⟩;have HO515:=aQ (Kd.N_lower (Kd.N_mono (ok':=fun k_=>some k_ ≠ (v511:Value).ownBlock∧k_ ≠ gb508∧k_ ≠ gb509) ho0 (fun k_ hk_=>⟨Or.elim hk_ (fun hs_=>fun e_=>Nat.not_le.2 hs_ (Kd.N_base HO512.out k_ e_.symm)) (fun hn_=>(Kd.fresh' (Kd.N_lt (nN HO512.out)) k_ hn_)),Or.elim hk_ (fun hs_=>fun e_=>Nat.not_le.2 hs_ (by rw [e_];exact GW508.out)) (fun hn_=>(Kd.freshB (nB BK508.out) k_ hn_)),Or.elim hk_ (fun hs_=>fun e_=>Nat.not_le.2 hs_ (by rw [e_];exact GW509.out)) (fun hn_=>(Kd.freshB (nB BK509.out) k_ hn_))⟩)) (below_size bB));replace HO512:=aQ (Kd.N_elder' (nN HO512.out) (Kd.N_base ho0) hb);replace BK508:=aQ (blk_below (nB BK508.out) hb);replace BK509:=aQ (blk_below (nB BK509.out) hb);replace HB:=aQ (below_step bB hb);(try clear hb);(try clear hb2);(try clear hk);(try clear hi);(try clear ho0))))
 go_loopg [7] k (fun kq v7 w'=>∃ (x7_1:Int),v7 = .int .i64 x7_1∧Aside0 (spec_l17Meet.l0 kq t510 t513 x7_1 = some r)∧Aside0 (kq ≤ k)∧Aside0 (Kd.N k44 44 w' w.heap.size (fun k_=>some k_ ≠ (v514:Value).ownBlock∧k_ ≠ gb508∧k_ ≠ gb509) v511 t510)∧Aside0 (Kd.N k44 44 w' w.heap.size (fun k_=>some k_ ≠ (v511:Value).ownBlock∧k_ ≠ gb508∧k_ ≠ gb509) v514 t513)∧Aside0 (w'.heap[gb508]? = some (.cells #[.int .i64 a0_0,.int .i64 a0_1,(.slice A0_2 l0_2.length c0_2)] 29 (0,0)))∧Aside0 (w'.heap[gb509]? = some (.cells #[.int .i64 a1_0,.int .i64 a1_1,(.slice A1_2 l1_2.length c1_2)] 29 (0,0)))∧Aside0 (Below w.heap.size w w'))
 case atStart=>exact ⟨(0),rfl,H',⟨Nat.le_refl _⟩,⟨nN (Kd.N_mono HO512.out (fun _ hk=>⟨hk.2,⟨hk.1.1,hk.1.2⟩⟩))⟩,⟨nN HO515.out⟩,⟨nB BK508.out⟩,⟨nB BK509.out⟩,⟨bB⟩⟩
 case round =>
  clear H'
  try clear hcz10_0
  try clear hcz10_1
  try clear hcz10_2
  try clear hcz8_0
  try clear hcz8_1
  try clear hcz8_2
  try clear hfz10_0
  try clear hfz10_1
  try clear hfz10_2
  try clear hfz8_0
  try clear hfz8_1
  try clear hfz8_2
  repeat (first | clear HO_5 | clear HO_6 | clear BK508 | clear BK509 | clear HB)
  obtain ⟨x7_1,rfl,HA,HK1,HO_5,HO_6,BK508,BK509,HB⟩:=hrel
  cases gk with
  | zero=>exact absurd HA.out (by simp [spec_l17Meet.l0])
  | succ k1 =>
   have H:=HA.out
   clear HA
   simp only [spec_l17Meet.l0] at H
   by_cases c12:x7_1 < (t510.length:Int);rotate_left
   ·rw [if_neg c12] at H
    have c12b0:decide (x7_1 < (t510.length:Int)) = false:=decide_eq_false c12
    clear c12
    obtain rfl:=Option.some.inj H
    obtain ⟨Ao24,co24,eo24⟩:=Kd.N_slice HO_5.out
    subst eo24
    go_wp2
    repeat (go_quiet (fail);try go_wp2)
    go_ret
    exact ⟨rfl,bB⟩
   rw [if_pos c12] at H
   have c12b0:decide (x7_1 < (t510.length:Int)) = true:=decide_eq_true c12
   clear c12
   have H':=aQ H
   clear H
   obtain ⟨Ao13,co13,eo13⟩:=Kd.N_slice HO_5.out
   subst eo13
   go_wp2
   repeat (go_quiet (fail);try go_wp2)
   go_loopg [8] k1 (fun kq v8 w'=>∃ (x8_2:Int),v8 = .int .i64 x8_2∧Aside0 (spec_l17Meet.l1 kq t510 t513 x7_1 x8_2 = some r)∧Aside0 (kq ≤ k1)∧Aside0 (Kd.N k44 44 w' w.heap.size (fun k_=>some k_ ≠ (v514:Value).ownBlock∧k_ ≠ gb508∧k_ ≠ gb509) (.slice Ao13 t510.length co13) t510)∧Aside0 (Kd.N k44 44 w' w.heap.size (fun k_=>some k_ ≠ ((.slice Ao13 t510.length co13):Value).ownBlock∧k_ ≠ gb508∧k_ ≠ gb509) v514 t513)∧Aside0 (w'.heap[gb508]? = some (.cells #[.int .i64 a0_0,.int .i64 a0_1,(.slice A0_2 l0_2.length c0_2)] 29 (0,0)))∧Aside0 (w'.heap[gb509]? = some (.cells #[.int .i64 a1_0,.int .i64 a1_1,(.slice A1_2 l1_2.length c1_2)] 29 (0,0)))∧Aside0 (Below w.heap.size w w'))
   case atStart=>exact ⟨(0),rfl,H',⟨Nat.le_refl _⟩,⟨nN HO_5.out⟩,⟨nN HO_6.out⟩,⟨nB BK508.out⟩,⟨nB BK509.out⟩,⟨bB⟩⟩
   case round =>
    clear H'
    try clear c12b0
    repeat (first | clear HO_5 | clear HO_6 | clear BK508 | clear BK509 | clear HB)
    obtain ⟨x8_2,rfl,HA,HK2,HO_5,HO_6,BK508,BK509,HB⟩:=hrel
    cases gk with
    | zero=>exact absurd HA.out (by simp [spec_l17Meet.l1])
    | succ k2 =>
     have H:=HA.out
     clear HA
     simp only [spec_l17Meet.l1] at H
     by_cases c14:x8_2 < (t513.length:Int);rotate_left
     ·rw [if_neg c14] at H
      have c14b0:decide (x8_2 < (t513.length:Int)) = false:=decide_eq_false c14
      clear c14
      have H':=aQ H
      clear H
      obtain ⟨Ao23,co23,eo23⟩:=Kd.N_slice HO_6.out
      subst eo23
      go_wp2
      repeat (go_quiet (fail);try go_wp2)
      go_roundg k2
      case measure=>have:=HK1.out;have:=HK2.out;omega
      case rel=>exact ⟨(wrap64 (x7_1 + 1)),rfl,H',⟨by have:=HK1.out;have:=HK2.out;omega⟩,⟨nN HO_5.out⟩,⟨nN HO_6.out⟩,⟨nB BK508.out⟩,⟨nB BK509.out⟩,⟨bB⟩⟩
     rw [if_pos c14] at H
     have c14b0:decide (x8_2 < (t513.length:Int)) = true:=decide_eq_true c14
     clear c14
     by_cases c15:0 ≤ x7_1;rotate_left
     ·rw [if_neg c15] at H
      exact absurd H (by simp)
     rw [if_pos c15] at H
     have c15b0:decide (0 ≤ x7_1) = true:=decide_eq_true c15
     clear c15
     by_cases c16:x7_1 < (t510.length:Int);rotate_left
     ·rw [if_neg c16] at H
      exact absurd H (by simp)
     rw [if_pos c16] at H
     have c16b0:decide (x7_1 < (t510.length:Int)) = true:=decide_eq_true c16
     clear c16
     by_cases c17:((rd_T44 t510 x7_1).f0) = 0
     ·rw [if_pos c17] at H
      have c17b0:(((rd_T44 t510 x7_1).f0) == 0) = true:=beq_iff_eq.mpr c17
      have c17b1:(((rd_T44 t510 x7_1).f0) != 0) = false:=bne_eq_false_iff_eq.mpr c17
      clear c17
      have H':=aQ H
      clear H
      obtain ⟨Ao18,co18,eo18⟩:=Kd.N_slice HO_6.out
      subst eo18
      have p516:0 ≤ (x7_1:Int):=of_decide_eq_true (by first | (with_reducible assumption) | assumption)
      have q516:x7_1 < (t510.length:Int):=of_decide_eq_true (by first | (with_reducible assumption) | assumption)
      obtain ⟨ad516,A516_3,c516_3,e516,hx516_0,hx516_1,hx516_2,hx516_3,hl516_3,hi516_3⟩:=at_T44 (Kd.N_reads' HO_5.out).2.2 x7_1 p516 q516
      cases e516
      obtain ⟨ce516,hce516,hMe516,hcc516⟩:=Kd.N_get HO_5.out z44 x7_1 p516 (by first | exact q516 | exact of_decide_eq_true (by first | (with_reducible assumption) | assumption) | (have e_:=(Kd.N_reads' HO_5.out).1;omega))
      obtain ⟨ua516_3,uc516_3,rfl,ul516_3,ge516_3⟩:=k44_openF hMe516
      have hv516_3:=hcc516 3 _ rfl
      rw [add_field _ _ 3 (by omega)] at hv516_3
      replace hv516_3:=Option.some.inj (hv516_3.symm.trans hx516_3)
      injection hv516_3 with hva_ hvn_ hvc_
      rw [hva_] at ge516_3
      rw [hvc_] at ul516_3
      have HL516_3:=aQ (show Kd.V k29 29 _ w.heap.size _ _ ((rd_T44 t510 x7_1).f1.f2) from Kd.V_mk ul516_3 ge516_3)
      clear hva_ hvn_ hvc_ ge516_3 ul516_3
      clear hcc516 hce516
      have HR516_3:=aQ hi516_3
      have HC516_3:=aQ hl516_3
      clear hi516_3 hl516_3
      replace p516:=eq_true p516
      replace q516:=eq_true q516
      go_wp2
      repeat (go_quiet (fail);try go_wp2)
      go_roundg k2
      case measure=>have:=HK1.out;have:=HK2.out;omega
      case rel=>exact ⟨(wrap64 (x8_2 + 1)),rfl,H',⟨by have:=HK1.out;have:=HK2.out;omega⟩,⟨nN HO_5.out⟩,⟨nN HO_6.out⟩,⟨nB BK508.out⟩,⟨nB BK509.out⟩,⟨bB⟩⟩
     rw [if_neg c17] at H
     have c17b0:(((rd_T44 t510 x7_1).f0) == 0) = false:=beq_eq_false_iff_ne.mpr c17
     have c17b1:(((rd_T44 t510 x7_1).f0) != 0) = true:=bne_iff_ne.mpr c17
     by_cases c19:0 ≤ x8_2;rotate_left
     ·rw [if_neg c19] at H
      exact absurd H (by simp)
     rw [if_pos c19] at H
     have c19b0:decide (0 ≤ x8_2) = true:=decide_eq_true c19
     clear c19
     by_cases c20:((rd_T44 t510 x7_1).f0) = (wrap64 (-((rd_T44 t513 x8_2).f0)))
     ·rw [if_pos c20] at H
      have c20b0:(((rd_T44 t510 x7_1).f0) == (wrap64 (-((rd_T44 t513 x8_2).f0)))) = true:=beq_iff_eq.mpr c20
      have c20b1:(((rd_T44 t510 x7_1).f0) != (wrap64 (-((rd_T44 t513 x8_2).f0)))) = false:=bne_eq_false_iff_eq.mpr c20
      clear c20
      obtain rfl:=Option.some.inj H
      obtain ⟨Ao21,co21,eo21⟩:=Kd.N_slice HO_6.out
      subst eo21
      have p516:0 ≤ (x7_1:Int):=of_decide_eq_true (by first | (with_reducible assumption) | assumption)
      have q516:x7_1 < (t510.length:Int):=of_decide_eq_true (by first | (with_reducible assumption) | assumption)
      obtain ⟨ad516,A516_3,c516_3,e516,hx516_0,hx516_1,hx516_2,hx516_3,hl516_3,hi516_3⟩:=at_T44 (Kd.N_reads' HO_5.out).2.2 x7_1 p516 q516
      cases e516
      obtain ⟨ce516,hce516,hMe516,hcc516⟩:=Kd.N_get HO_5.out z44 x7_1 p516 (by first | exact q516 | exact of_decide_eq_true (by first | (with_reducible assumption) | assumption) | (have e_:=(Kd.N_reads' HO_5.out).1;omega))
      obtain ⟨ua516_3,uc516_3,rfl,ul516_3,ge516_3⟩:=k44_openF hMe516
      have hv516_3:=hcc516 3 _ rfl
      rw [add_field _ _ 3 (by omega)] at hv516_3
      replace hv516_3:=Option.some.inj (hv516_3.symm.trans hx516_3)
      injection hv516_3 with hva_ hvn_ hvc_
      rw [hva_] at ge516_3
      rw [hvc_] at ul516_3
      have HL516_3:=aQ (show Kd.V k29 29 _ w.heap.size _ _ ((rd_T44 t510 x7_1).f1.f2) from Kd.V_mk ul516_3 ge516_3)
      clear hva_ hvn_ hvc_ ge516_3 ul516_3
      clear hcc516 hce516
      have HR516_3:=aQ hi516_3
      have HC516_3:=aQ hl516_3
      clear hi516_3 hl516_3
      replace p516:=eq_true p516
      replace q516:=eq_true q516
      have p517:0 ≤ (x7_1:Int):=of_decide_eq_true (by first | (with_reducible assumption) | assumption)
      have q517:x7_1 < (t510.length:Int):=of_decide_eq_true (by first | (with_reducible assumption) | assumption)
      obtain ⟨ad517,A517_3,c517_3,e517,hx517_0,hx517_1,hx517_2,hx517_3,hl517_3,hi517_3⟩:=at_T44 (Kd.N_reads' HO_5.out).2.2 x7_1 p517 q517
      obtain rfl:ad516 = ad517:=(by injection e517)
      obtain ⟨ce517,hce517,hMe517,hcc517⟩:=Kd.N_get HO_5.out z44 x7_1 p517 (by first | exact q517 | exact of_decide_eq_true (by first | (with_reducible assumption) | assumption) | (have e_:=(Kd.N_reads' HO_5.out).1;omega))
      obtain ⟨ua517_3,uc517_3,rfl,ul517_3,ge517_3⟩:=k44_openF hMe517
      have hv517_3:=hcc517 3 _ rfl
      rw [add_field _ _ 3 (by omega)] at hv517_3
      replace hv517_3:=Option.some.inj (hv517_3.symm.trans hx517_3)
      injection hv517_3 with hva_ hvn_ hvc_
      rw [hva_] at ge517_3
      rw [hvc_] at ul517_3
      have HL517_3:=aQ (show Kd.V k29 29 _ w.heap.size _ _ ((rd_T44 t510 x7_1).f1.f2) from Kd.V_mk ul517_3 ge517_3)
      clear hva_ hvn_ hvc_ ge517_3 ul517_3
      clear hcc517 hce517
      have HR517_3:=aQ hi517_3
      have HC517_3:=aQ hl517_3
      clear hi517_3 hl517_3
      replace p517:=eq_true p517
      replace q517:=eq_true q517
      have ea_:=Option.some.inj (hx516_3.symm.trans hx517_3)
      injection ea_ with ea_ en_ ec_
      subst ea_
      subst ec_
      clear en_
      have p518:0 ≤ (x8_2:Int):=of_decide_eq_true (by first | (with_reducible assumption) | assumption)
      have q518:x8_2 < (t513.length:Int):=of_decide_eq_true (by first | (with_reducible assumption) | assumption)
      obtain ⟨ad518,A518_3,c518_3,e518,hx518_0,hx518_1,hx518_2,hx518_3,hl518_3,hi518_3⟩:=at_T44 (Kd.N_reads' HO_6.out).2.2 x8_2 p518 q518
      cases e518
      obtain ⟨ce518,hce518,hMe518,hcc518⟩:=Kd.N_get HO_6.out z44 x8_2 p518 (by first | exact q518 | exact of_decide_eq_true (by first | (with_reducible assumption) | assumption) | (have e_:=(Kd.N_reads' HO_6.out).1;omega))
      obtain ⟨ua518_3,uc518_3,rfl,ul518_3,ge518_3⟩:=k44_openF hMe518
      have hv518_3:=hcc518 3 _ rfl
      rw [add_field _ _ 3 (by omega)] at hv518_3
      replace hv518_3:=Option.some.inj (hv518_3.symm.trans hx518_3)
      injection hv518_3 with hva_ hvn_ hvc_
      rw [hva_] at ge518_3
      rw [hvc_] at ul518_3
      have HL518_3:=aQ (show Kd.V k29 29 _ w.heap.size _ _ ((rd_T44 t513 x8_2).f1.f2) from Kd.V_mk ul518_3 ge518_3)
      clear hva_ hvn_ hvc_ ge518_3 ul518_3
      clear hcc518 hce518
      have HR518_3:=aQ hi518_3
      have HC518_3:=aQ hl518_3
      clear hi518_3 hl518_3
      replace p518:=eq_true p518
      replace q518:=eq_true q518
      go_wp2
      repeat (go_quiet (fail);try go_wp2)
      go_ret
      exact ⟨rfl,bB⟩
     rw [if_neg c20] at H
     have c20b0:(((rd_T44 t510 x7_1).f0) == (wrap64 (-((rd_T44 t513 x8_2).f0)))) = false:=beq_eq_false_iff_ne.mpr c20
     have c20b1:(((rd_T44 t510 x7_1).f0) != (wrap64 (-((rd_T44 t513 x8_2).f0)))) = true:=bne_iff_ne.mpr c20
     have H':=aQ H
     clear H
     obtain ⟨Ao22,co22,eo22⟩:=Kd.N_slice HO_6.out
     subst eo22
     have p516:0 ≤ (x7_1:Int):=of_decide_eq_true (by first | (with_reducible assumption) | assumption)
     have q516:x7_1 < (t510.length:Int):=of_decide_eq_true (by first | (with_reducible assumption) | assumption)
     obtain ⟨ad516,A516_3,c516_3,e516,hx516_0,hx516_1,hx516_2,hx516_3,hl516_3,hi516_3⟩:=at_T44 (Kd.N_reads' HO_5.out).2.2 x7_1 p516 q516
     cases e516
     obtain ⟨ce516,hce516,hMe516,hcc516⟩:=Kd.N_get HO_5.out z44 x7_1 p516 (by first | exact q516 | exact of_decide_eq_true (by first | (with_reducible assumption) | assumption) | (have e_:=(Kd.N_reads' HO_5.out).1;omega))
     obtain ⟨ua516_3,uc516_3,rfl,ul516_3,ge516_3⟩:=k44_openF hMe516
     have hv516_3:=hcc516 3 _ rfl
     rw [add_field _ _ 3 (by omega)] at hv516_3
     replace hv516_3:=Option.some.inj (hv516_3.symm.trans hx516_3)
     injection hv516_3 with hva_ hvn_ hvc_
     rw [hva_] at ge516_3
     rw [hvc_] at ul516_3
     have HL516_3:=aQ (show Kd.V k29 29 _ w.heap.size _ _ ((rd_T44 t510 x7_1).f1.f2) from Kd.V_mk ul516_3 ge516_3)
     clear hva_ hvn_ hvc_ ge516_3 ul516_3
     clear hcc516 hce516
     have HR516_3:=aQ hi516_3
     have HC516_3:=aQ hl516_3
     clear hi516_3 hl516_3
     replace p516:=eq_true p516
     replace q516:=eq_true q516
     have p517:0 ≤ (x7_1:Int):=of_decide_eq_true (by first | (with_reducible assumption) | assumption)
     have q517:x7_1 < (t510.length:Int):=of_decide_eq_true (by first | (with_reducible assumption) | assumption)
     obtain ⟨ad517,A517_3,c517_3,e517,hx517_0,hx517_1,hx517_2,hx517_3,hl517_3,hi517_3⟩:=at_T44 (Kd.N_reads' HO_5.out).2.2 x7_1 p517 q517
     obtain rfl:ad516 = ad517:=(by injection e517)
     obtain ⟨ce517,hce517,hMe517,hcc517⟩:=Kd.N_get HO_5.out z44 x7_1 p517 (by first | exact q517 | exact of_decide_eq_true (by first | (with_reducible assumption) | assumption) | (have e_:=(Kd.N_reads' HO_5.out).1;omega))
     obtain ⟨ua517_3,uc517_3,rfl,ul517_3,ge517_3⟩:=k44_openF hMe517
     have hv517_3:=hcc517 3 _ rfl
     rw [add_field _ _ 3 (by omega)] at hv517_3
     replace hv517_3:=Option.some.inj (hv517_3.symm.trans hx517_3)
     injection hv517_3 with hva_ hvn_ hvc_
     rw [hva_] at ge517_3
     rw [hvc_] at ul517_3
     have HL517_3:=aQ (show Kd.V k29 29 _ w.heap.size _ _ ((rd_T44 t510 x7_1).f1.f2) from Kd.V_mk ul517_3 ge517_3)
     clear hva_ hvn_ hvc_ ge517_3 ul517_3
     clear hcc517 hce517
     have HR517_3:=aQ hi517_3
     have HC517_3:=aQ hl517_3
     clear hi517_3 hl517_3
     replace p517:=eq_true p517
     replace q517:=eq_true q517
     have ea_:=Option.some.inj (hx516_3.symm.trans hx517_3)
     injection ea_ with ea_ en_ ec_
     subst ea_
     subst ec_
     clear en_
     have p518:0 ≤ (x8_2:Int):=of_decide_eq_true (by first | (with_reducible assumption) | assumption)
     have q518:x8_2 < (t513.length:Int):=of_decide_eq_true (by first | (with_reducible assumption) | assumption)
     obtain ⟨ad518,A518_3,c518_3,e518,hx518_0,hx518_1,hx518_2,hx518_3,hl518_3,hi518_3⟩:=at_T44 (Kd.N_reads' HO_6.out).2.2 x8_2 p518 q518
     cases e518
     obtain ⟨ce518,hce518,hMe518,hcc518⟩:=Kd.N_get HO_6.out z44 x8_2 p518 (by first | exact q518 | exact of_decide_eq_true (by first | (with_reducible assumption) | assumption) | (have e_:=(Kd.N_reads' HO_6.out).1;omega))
     obtain ⟨ua518_3,uc518_3,rfl,ul518_3,ge518_3⟩:=k44_openF hMe518
     have hv518_3:=hcc518 3 _ rfl
     rw [add_field _ _ 3 (by omega)] at hv518_3
     replace hv518_3:=Option.some.inj (hv518_3.symm.trans hx518_3)
     injection hv518_3 with hva_ hvn_ hvc_
     rw [hva_] at ge518_3
     rw [hvc_] at ul518_3
     have HL518_3:=aQ (show Kd.V k29 29 _ w.heap.size _ _ ((rd_T44 t513 x8_2).f1.f2) from Kd.V_mk ul518_3 ge518_3)
     clear hva_ hvn_ hvc_ ge518_3 ul518_3
     clear hcc518 hce518
     have HR518_3:=aQ hi518_3
     have HC518_3:=aQ hl518_3
     clear hi518_3 hl518_3
     replace p518:=eq_true p518
     replace q518:=eq_true q518
     go_wp2
     repeat (go_quiet (fail);try go_wp2)
     go_roundg k2
     case measure=>have:=HK1.out;have:=HK2.out;omega
     case rel=>exact ⟨(wrap64 (x8_2 + 1)),rfl,H',⟨by have:=HK1.out;have:=HK2.out;omega⟩,⟨nN HO_5.out⟩,⟨nN HO_6.out⟩,⟨nB BK508.out⟩,⟨nB BK509.out⟩,⟨bB⟩⟩
def spec_l6Rd_pick.j0:Nat → Int → Bool → List Int → Int → Option (Int × Int)
 | 0,_,_,_,_=>none
 | k + 1,x1,x24,x1000,x1001=>if x24 = true then (some (0,x1001)) else (if (wrap64 (x1001 - 1)) < (x1000.length:Int) then (if 0 ≤ (wrap64 (x1001 - 1)) then (if x1 = 0 then (none) else (some (Int.tmod (wrap64 (rd x1000 (wrap64 (x1001 - 1)))) x1,x1001))) else (none)) else (if (x1000.length:Int) = 0 then (none) else (if 0 ≤ (Int.tmod (wrap64 (x1001 - 1)) (x1000.length:Int)) then (if (Int.tmod (wrap64 (x1001 - 1)) (x1000.length:Int)) < (x1000.length:Int) then (if 0 ≤ (Int.tmod (wrap64 ((wrap64 ((wrap64 (x1001 - 1)) * 7)) + 3)) (x1000.length:Int)) then (if (Int.tmod (wrap64 ((wrap64 ((wrap64 (x1001 - 1)) * 7)) + 3)) (x1000.length:Int)) < (x1000.length:Int) then (if x1 = 0 then (none) else (some (Int.tmod (Go.bits .xor .i64 (wrap64 ((wrap64 ((wrap64 ((wrap64 ((wrap64 (rd x1000 (Int.tmod (wrap64 (x1001 - 1)) (x1000.length:Int)))) * 131)) + (wrap64 ((wrap64 (rd x1000 (Int.tmod (wrap64 ((wrap64 ((wrap64 (x1001 - 1)) * 7)) + 3)) (x1000.length:Int)))) * 1117)))) + (wrap64 ((wrap64 (x1001 - 1)) * 29)))) + (wrap64 ((wrap64 (Int.tdiv (wrap64 (x1001 - 1)) (x1000.length:Int))) * 53)))) (wrap64 (Int.tdiv (wrap64 ((wrap64 ((wrap64 ((wrap64 ((wrap64 (rd x1000 (Int.tmod (wrap64 (x1001 - 1)) (x1000.length:Int)))) * 131)) + (wrap64 ((wrap64 (rd x1000 (Int.tmod (wrap64 ((wrap64 ((wrap64 (x1001 - 1)) * 7)) + 3)) (x1000.length:Int)))) * 1117)))) + (wrap64 ((wrap64 (x1001 - 1)) * 29)))) + (wrap64 ((wrap64 (Int.tdiv (wrap64 (x1001 - 1)) (x1000.length:Int))) * 53)))) 64))) x1,x1001))) else (none)) else (none)) else (none)) else (none))))
def spec_l6Rd_pick.f (k:Nat) (s0_0:List Int) (s0_1:Int) (a1:Int):Option (Int × Int):=if a1 < 1 then (spec_l6Rd_pick.j0 k a1 true s0_0 (wrap64 (s0_1 + 1))) else (spec_l6Rd_pick.j0 k a1 ((s0_0.length:Int) == 0) s0_0 (wrap64 (s0_1 + 1)))
theorem spec_l6Rd_pick.mono_l:∀ k,(∀ y0 y1 y2 y3,LeO (spec_l6Rd_pick.j0 k y0 y1 y2 y3) (spec_l6Rd_pick.j0 (k + 1) y0 y1 y2 y3))
 | 0=>fun _ _ _ _ r h=>by simp [spec_l6Rd_pick.j0] at h
 | k + 1=>by
  have ih0:=spec_l6Rd_pick.mono_l k
  ·intro y0 y1 y2 y3
   unfold spec_l6Rd_pick.j0
   repeat' first
   | (with_reducible exact ih0 _ _ _ _)
   | (with_reducible exact LeO.refl _)
   | (with_reducible exact LeO.none _)
   | (with_reducible refine LeO.ite ?_ ?_)
   | (with_reducible refine LeO.bind ?_ (fun _=>?_))
   | exact ih0 _ _ _ _
   | exact LeO.none _
   | refine LeO.ite ?_ ?_
   | refine LeO.bind ?_ (fun _=>?_)
theorem spec_l6Rd_pick.mono:∀ a0 a1 a2 k,LeO (spec_l6Rd_pick.f k a0 a1 a2) (spec_l6Rd_pick.f (k + 1) a0 a1 a2):=by
 intro a0 a1 a2 k
 have ih0:=spec_l6Rd_pick.mono_l k
 unfold spec_l6Rd_pick.f
 repeat' first
   | (with_reducible exact ih0 _ _ _ _)
   | (with_reducible exact LeO.refl _)
   | (with_reducible exact LeO.none _)
   | (with_reducible refine LeO.ite ?_ ?_)
   | (with_reducible refine LeO.bind ?_ (fun _=>?_))
   | exact ih0 _ _ _ _
   | exact LeO.none _
   | refine LeO.ite ?_ ?_
   | refine LeO.bind ?_ (fun _=>?_)
set_option maxHeartbeats 8000000 in
set_option maxRecDepth 100000 in
theorem spec_l6Rd_pick.calls (k:Nat) (g:Nat) (s0_0:List Int) (s0_1:Int) (a1:Int) (r1:Int) (r2:Int) (w0 w:World) (hI:IsS67 w0 w g s0_0 s0_1) (hB:Below w0.heap.size w0 w) (h:spec_l6Rd_pick.f k s0_0 s0_1 a1 = some (r1,r2)) :
  Calls Try.prog 56 #[.pointer (some ⟨g,0,none⟩),.int .i64 a1] w fun e w'=>e = .returned (.int .i64 r1)∧IsS67 w0 w' g s0_0 r2∧Below w0.heap.size w0 w'∧KeepBut w w' g none:=by
 have HI0:=aQ hI
 have HK:=aQ (KeepBut.refl w g none)
 have HL:=aQ hB.size
 clear hI
 have HW0:=aQ hB.size
 have HB:=aQ hB
 clear hB
 have H:(if a1 < 1 then (spec_l6Rd_pick.j0 k a1 true s0_0 (wrap64 (s0_1 + 1))) else (spec_l6Rd_pick.j0 k a1 ((s0_0.length:Int) == 0) s0_0 (wrap64 (s0_1 + 1)))) = some (r1,r2):=h
 clear h
 have HC3:=aQ H
 clear H
 obtain ⟨ASz4_0,cSz4_0,HGz4,hgz4,HSz4_0⟩:=HI0.out
 have hcz4_0:=cellS67_0 HGz4
 have hcz4_1:=cellS67_1 HGz4
 have hfz4_1:=blk_frozen HGz4 1
 clear HGz4 hgz4
 go_enter Try.func56,Try.ntmps56
 go_upto_region 2 with (fail)
 repeat (go_quiet (fail);go_upto_region 2 with (fail))
 go_cut [24] (fun v24 wc=>∃ (kq:Nat) (x24_2:Bool),v24 = .bool x24_2∧Aside0 (spec_l6Rd_pick.j0 kq a1 x24_2 s0_0 (wrap64 (s0_1 + 1)) = some (r1,r2))∧Aside0 (kq ≤ k)∧Aside0 (IsS67 w0 wc g s0_0 (wrap64 (s0_1 + 1)))∧Aside0 (KeepBut w wc g none)∧Aside0 (Below w0.heap.size w0 wc))
 case first =>
  have H:=HC3.out
  clear HC3
  by_cases c5:a1 < 1
  ·rw [if_pos c5] at H
   have c5b0:decide (a1 < 1) = true:=decide_eq_true c5
   clear c5
   (first | rw [c5b0] | (simp only [i64_w,i32_w];rw [c5b0]) | skip)
   have H':=aQ H
   clear H
   go_wp2
   repeat (go_quiet (fail);try go_wp2)
   go_meet
   case rel=>exact ⟨_,(true),rfl,H',⟨by first | omega | exact Nat.le_refl _⟩,⟨bI⟩,⟨bK⟩,⟨bB⟩⟩
  rw [if_neg c5] at H
  have c5b0:decide (a1 < 1) = false:=decide_eq_false c5
  clear c5
  (first | rw [c5b0] | (simp only [i64_w,i32_w];rw [c5b0]) | skip)
  have H':=aQ H
  clear H
  obtain ⟨ASz6_0,cSz6_0,HGz6,hgz6,HSz6_0⟩:=HI0.out
  have hcz6_0:=cellS67_0 HGz6
  have hcz6_1:=cellS67_1 HGz6
  have hfz6_1:=blk_frozen HGz6 1
  clear HGz6 hgz6
  go_wp2
  repeat (go_quiet (fail);try go_wp2)
  go_meet
  case rel=>exact ⟨_,(((s0_0.length:Int) == 0)),rfl,H',⟨by first | omega | exact Nat.le_refl _⟩,⟨bI⟩,⟨bK⟩,⟨bB⟩⟩
 case rest =>
  clear HC3
  try clear hcz4_0
  try clear hcz4_1
  try clear hfz4_1
  obtain ⟨kq,x24_2,rfl,HA,HJ2,HI0,HK,HB⟩:=hcut
  cases kq with
  | zero=>exact absurd HA.out (by simp [spec_l6Rd_pick.j0])
  | succ kj2 =>
   have H:=HA.out
   clear HA
   simp only [spec_l6Rd_pick.j0] at H
   by_cases c7:x24_2 = true
   ·subst c7
    have H1:(some (0,(wrap64 (s0_1 + 1)))) = some (r1,r2):=by rw [if_pos rfl] at H;exact H
    clear H
    have H:=H1
    clear H1
    simp only [Option.some.injEq,Prod.mk.injEq] at H
    obtain ⟨rfl,rfl⟩:=H
    go_wp2
    repeat (go_quiet (fail);try go_wp2)
    go_ret
    exact ⟨eW,bI,bB,bK⟩
   ·replace c7:=Bool.eq_false_iff.mpr c7
    subst c7
    have H1:(if (wrap64 ((wrap64 (s0_1 + 1)) - 1)) < (s0_0.length:Int) then (if 0 ≤ (wrap64 ((wrap64 (s0_1 + 1)) - 1)) then (if a1 = 0 then (none) else (some (Int.tmod (wrap64 (rd s0_0 (wrap64 ((wrap64 (s0_1 + 1)) - 1)))) a1,(wrap64 (s0_1 + 1))))) else (none)) else (if (s0_0.length:Int) = 0 then (none) else (if 0 ≤ (Int.tmod (wrap64 ((wrap64 (s0_1 + 1)) - 1)) (s0_0.length:Int)) then (if (Int.tmod (wrap64 ((wrap64 (s0_1 + 1)) - 1)) (s0_0.length:Int)) < (s0_0.length:Int) then (if 0 ≤ (Int.tmod (wrap64 ((wrap64 ((wrap64 ((wrap64 (s0_1 + 1)) - 1)) * 7)) + 3)) (s0_0.length:Int)) then (if (Int.tmod (wrap64 ((wrap64 ((wrap64 ((wrap64 (s0_1 + 1)) - 1)) * 7)) + 3)) (s0_0.length:Int)) < (s0_0.length:Int) then (if a1 = 0 then (none) else (some (Int.tmod (Go.bits .xor .i64 (wrap64 ((wrap64 ((wrap64 ((wrap64 ((wrap64 (rd s0_0 (Int.tmod (wrap64 ((wrap64 (s0_1 + 1)) - 1)) (s0_0.length:Int)))) * 131)) + (wrap64 ((wrap64 (rd s0_0 (Int.tmod (wrap64 ((wrap64 ((wrap64 ((wrap64 (s0_1 + 1)) - 1)) * 7)) + 3)) (s0_0.length:Int)))) * 1117)))) + (wrap64 ((wrap64 ((wrap64 (s0_1 + 1)) - 1)) * 29)))) + (wrap64 ((wrap64 (Int.tdiv (wrap64 ((wrap64 (s0_1 + 1)) - 1)) (s0_0.length:Int))) * 53)))) (wrap64 (Int.tdiv (wrap64 ((wrap64 ((wrap64 ((wrap64 ((wrap64 (rd s0_0 (Int.tmod (wrap64 ((wrap64 (s0_1 + 1)) - 1)) (s0_0.length:Int)))) * 131)) + (wrap64 ((wrap64 (rd s0_0 (Int.tmod (wrap64 ((wrap64 ((wrap64 ((wrap64 (s0_1 + 1)) - 1)) * 7)) + 3)) (s0_0.length:Int)))) * 1117)))) + (wrap64 ((wrap64 ((wrap64 (s0_1 + 1)) - 1)) * 29)))) + (wrap64 ((wrap64 (Int.tdiv (wrap64 ((wrap64 (s0_1 + 1)) - 1)) (s0_0.length:Int))) * 53)))) 64))) a1,(wrap64 (s0_1 + 1))))) else (none)) else (none)) else (none)) else (none)))) = some (r1,r2):=by rw [if_neg (show ¬ (false = true) by decide)] at H;exact H
    clear H
    have H:=H1
    clear H1
    by_cases c8:(wrap64 ((wrap64 (s0_1 + 1)) - 1)) < (s0_0.length:Int)
    ·rw [if_pos c8] at H
     have c8b0:decide ((wrap64 ((wrap64 (s0_1 + 1)) - 1)) < (s0_0.length:Int)) = true:=decide_eq_true c8
     clear c8
     obtain ⟨ji9,hji9⟩:∃ j_:Int,(wrap64 ((wrap64 (s0_1 + 1)) - 1)) = j_:=⟨_,rfl⟩
     replace H:(if 0 ≤ (ji9) then (if a1 = 0 then (none) else (some (Int.tmod (wrap64 (rd s0_0 (ji9))) a1,(wrap64 (s0_1 + 1))))) else (none)) = some (r1,r2):=by first | (rw [hji9] at H;exact H) | (simp only [hji9] at H ⊢;exact H)
     (try rw [hji9] at c8b0)
     have hji9w:(IntKind.i64.wrap ((wrap64 (s0_1 + 1)) - 1)) = ji9:=(i64_w _).trans hji9
     by_cases c10:0 ≤ (ji9);rotate_left
     ·rw [if_neg c10] at H
      exact absurd H (by simp)
     rw [if_pos c10] at H
     have c10b0:decide (0 ≤ (ji9)) = true:=decide_eq_true c10
     clear c10
     by_cases c11:a1 = 0
     ·rw [if_pos c11] at H
      exact absurd H (by simp)
     rw [if_neg c11] at H
     have c11b0:(a1 == 0) = false:=beq_eq_false_iff_ne.mpr c11
     have c11b1:(a1 != 0) = true:=bne_iff_ne.mpr c11
     simp only [Option.some.injEq,Prod.mk.injEq] at H
     obtain ⟨rfl,rfl⟩:=H
     obtain ⟨ASz12_0,cSz12_0,HGz12,hgz12,HSz12_0⟩:=HI0.out
     have hcz12_0:=cellS67_0 HGz12
     have hcz12_1:=cellS67_1 HGz12
     have hfz12_1:=blk_frozen HGz12 1
     clear HGz12 hgz12
     have p193:0 ≤ ((ji9):Int):=of_decide_eq_true (by first | (with_reducible assumption) | assumption)
     have q193:(ji9) < (s0_0.length:Int):=of_decide_eq_true (by first | (with_reducible assumption) | assumption)
     obtain ⟨ad193,e193,hx193_0⟩:=Kd.at_int HSz12_0 (ji9) p193 q193
     cases e193
     replace hx193_0:=pw_cell_below HB.out hx193_0
     replace p193:=eq_true p193
     replace q193:=eq_true q193
     go_wp2
     repeat (go_quiet (fail);try go_wp2)
     go_ret
     exact ⟨by first | rfl | (simp [errW_none,errW_some] <;> rfl) | (simp only [← hji9];first | rfl | (simp [errW_none,errW_some] <;> rfl)) | (simp [*,errW_none,errW_some] <;> rfl),bI,bB,bK⟩
    rw [if_neg c8] at H
    have c8b0:decide ((wrap64 ((wrap64 (s0_1 + 1)) - 1)) < (s0_0.length:Int)) = false:=decide_eq_false c8
    clear c8
    by_cases c13:(s0_0.length:Int) = 0
    ·rw [if_pos c13] at H
     exact absurd H (by simp)
    rw [if_neg c13] at H
    have c13b0:((s0_0.length:Int) == 0) = false:=beq_eq_false_iff_ne.mpr c13
    have c13b1:((s0_0.length:Int) != 0) = true:=bne_iff_ne.mpr c13
    have c13b2:¬ (s0_0 = []):=fun h_=>c13 (by rw [h_];rfl)
    obtain ⟨ji14,hji14⟩:∃ j_:Int,(Int.tmod (wrap64 ((wrap64 (s0_1 + 1)) - 1)) (s0_0.length:Int)) = j_:=⟨_,rfl⟩
    replace H:(if 0 ≤ (ji14) then (if (ji14) < (s0_0.length:Int) then (if 0 ≤ (Int.tmod (wrap64 ((wrap64 ((wrap64 ((wrap64 (s0_1 + 1)) - 1)) * 7)) + 3)) (s0_0.length:Int)) then (if (Int.tmod (wrap64 ((wrap64 ((wrap64 ((wrap64 (s0_1 + 1)) - 1)) * 7)) + 3)) (s0_0.length:Int)) < (s0_0.length:Int) then (if a1 = 0 then (none) else (some (Int.tmod (Go.bits .xor .i64 (wrap64 ((wrap64 ((wrap64 ((wrap64 ((wrap64 (rd s0_0 (ji14))) * 131)) + (wrap64 ((wrap64 (rd s0_0 (Int.tmod (wrap64 ((wrap64 ((wrap64 ((wrap64 (s0_1 + 1)) - 1)) * 7)) + 3)) (s0_0.length:Int)))) * 1117)))) + (wrap64 ((wrap64 ((wrap64 (s0_1 + 1)) - 1)) * 29)))) + (wrap64 ((wrap64 (Int.tdiv (wrap64 ((wrap64 (s0_1 + 1)) - 1)) (s0_0.length:Int))) * 53)))) (wrap64 (Int.tdiv (wrap64 ((wrap64 ((wrap64 ((wrap64 ((wrap64 (rd s0_0 (ji14))) * 131)) + (wrap64 ((wrap64 (rd s0_0 (Int.tmod (wrap64 ((wrap64 ((wrap64 ((wrap64 (s0_1 + 1)) - 1)) * 7)) + 3)) (s0_0.length:Int)))) * 1117)))) + (wrap64 ((wrap64 ((wrap64 (s0_1 + 1)) - 1)) * 29)))) + (wrap64 ((wrap64 (Int.tdiv (wrap64 ((wrap64 (s0_1 + 1)) - 1)) (s0_0.length:Int))) * 53)))) 64))) a1,(wrap64 (s0_1 + 1))))) else (none)) else (none)) else (none)) else (none)) = some (r1,r2):=by first | (rw [hji14] at H;exact H) | (simp only [hji14] at H ⊢;exact H)
    by_cases c15:0 ≤ (ji14);rotate_left
    ·rw [if_neg c15] at H
     exact absurd H (by simp)
    rw [if_pos c15] at H
    have c15b0:decide (0 ≤ (ji14)) = true:=decide_eq_true c15
    clear c15
    by_cases c16:(ji14) < (s0_0.length:Int);rotate_left
    ·rw [if_neg c16] at H
     exact absurd H (by simp)
    rw [if_pos c16] at H
    have c16b0:decide ((ji14) < (s0_0.length:Int)) = true:=decide_eq_true c16
    clear c16
    obtain ⟨ji17,hji17⟩:∃ j_:Int,(Int.tmod (wrap64 ((wrap64 ((wrap64 ((wrap64 (s0_1 + 1)) - 1)) * 7)) + 3)) (s0_0.length:Int)) = j_:=⟨_,rfl⟩
    replace H:(if 0 ≤ (ji17) then (if (ji17) < (s0_0.length:Int) then (if a1 = 0 then (none) else (some (Int.tmod (Go.bits .xor .i64 (wrap64 ((wrap64 ((wrap64 ((wrap64 ((wrap64 (rd s0_0 (ji14))) * 131)) + (wrap64 ((wrap64 (rd s0_0 (ji17))) * 1117)))) + (wrap64 ((wrap64 ((wrap64 (s0_1 + 1)) - 1)) * 29)))) + (wrap64 ((wrap64 (Int.tdiv (wrap64 ((wrap64 (s0_1 + 1)) - 1)) (s0_0.length:Int))) * 53)))) (wrap64 (Int.tdiv (wrap64 ((wrap64 ((wrap64 ((wrap64 ((wrap64 (rd s0_0 (ji14))) * 131)) + (wrap64 ((wrap64 (rd s0_0 (ji17))) * 1117)))) + (wrap64 ((wrap64 ((wrap64 (s0_1 + 1)) - 1)) * 29)))) + (wrap64 ((wrap64 (Int.tdiv (wrap64 ((wrap64 (s0_1 + 1)) - 1)) (s0_0.length:Int))) * 53)))) 64))) a1,(wrap64 (s0_1 + 1))))) else (none)) else (none)) = some (r1,r2):=by first | (rw [hji17] at H;exact H) | (simp only [hji17] at H ⊢;exact H)
    by_cases c18:0 ≤ (ji17);rotate_left
    ·rw [if_neg c18] at H
     exact absurd H (by simp)
    rw [if_pos c18] at H
    have c18b0:decide (0 ≤ (ji17)) = true:=decide_eq_true c18
    clear c18
    by_cases c19:(ji17) < (s0_0.length:Int);rotate_left
    ·rw [if_neg c19] at H
     exact absurd H (by simp)
    rw [if_pos c19] at H
    have c19b0:decide ((ji17) < (s0_0.length:Int)) = true:=decide_eq_true c19
    clear c19
    by_cases c20:a1 = 0
    ·rw [if_pos c20] at H
     exact absurd H (by simp)
    rw [if_neg c20] at H
    have c20b0:(a1 == 0) = false:=beq_eq_false_iff_ne.mpr c20
    have c20b1:(a1 != 0) = true:=bne_iff_ne.mpr c20
    simp only [Option.some.injEq,Prod.mk.injEq] at H
    obtain ⟨rfl,rfl⟩:=H
    obtain ⟨ASz21_0,cSz21_0,HGz21,hgz21,HSz21_0⟩:=HI0.out
    have hcz21_0:=cellS67_0 HGz21
    have hcz21_1:=cellS67_1 HGz21
    have hfz21_1:=blk_frozen HGz21 1
    clear HGz21 hgz21
    have p194:0 ≤ ((ji14):Int):=of_decide_eq_true (by first | (with_reducible assumption) | assumption)
    have q194:(ji14) < (s0_0.length:Int):=of_decide_eq_true (by first | (with_reducible assumption) | assumption)
    obtain ⟨ad194,e194,hx194_0⟩:=Kd.at_int HSz21_0 (ji14) p194 q194
    cases e194
    replace hx194_0:=pw_cell_below HB.out hx194_0
    replace p194:=eq_true p194
    replace q194:=eq_true q194
    have p195:0 ≤ ((ji17):Int):=of_decide_eq_true (by first | (with_reducible assumption) | assumption)
    have q195:(ji17) < (s0_0.length:Int):=of_decide_eq_true (by first | (with_reducible assumption) | assumption)
    obtain ⟨ad195,e195,hx195_0⟩:=Kd.at_int HSz21_0 (ji17) p195 q195
    obtain rfl:ad194 = ad195:=(by injection e195)
    replace hx195_0:=pw_cell_below HB.out hx195_0
    replace p195:=eq_true p195
    replace q195:=eq_true q195
    go_wp2
    repeat (go_quiet (fail);try go_wp2)
    go_ret
    exact ⟨by first | rfl | (simp [errW_none,errW_some] <;> rfl) | (simp only [← hji14,← hji17];first | rfl | (simp [errW_none,errW_some] <;> rfl)) | (simp [*,errW_none,errW_some] <;> rfl),bI,bB,bK⟩
def spec_l91Do.f (k:Nat) (s0_0:List Int) (s0_1:Int):Option (Int × Int):=(spec_l6Rd_pick.f k s0_0 s0_1 3).bind fun bt196=>(if bt196.1 > 0 then ((spec_l6Rd_pick.f k s0_0 bt196.2 5).bind fun bt198=>(some (wrap64 (bt198.1 - 2),bt198.2))) else ((spec_l6Rd_pick.f k s0_0 bt196.2 9).bind fun bt200=>(some (wrap64 (bt200.1 - 4),bt200.2))))
theorem spec_l91Do.mono:∀ a0 a1 k,LeO (spec_l91Do.f k a0 a1) (spec_l91Do.f (k + 1) a0 a1):=by
 intro a0 a1 k
 unfold spec_l91Do.f
 repeat' first
   | (with_reducible exact spec_l6Rd_pick.mono _ _ _ _)
   | (with_reducible exact LeO.refl _)
   | (with_reducible exact LeO.none _)
   | (with_reducible refine LeO.ite ?_ ?_)
   | (with_reducible refine LeO.bind ?_ (fun _=>?_))
   | exact spec_l6Rd_pick.mono _ _ _ _
   | exact LeO.none _
   | refine LeO.ite ?_ ?_
   | refine LeO.bind ?_ (fun _=>?_)
set_option maxHeartbeats 8000000 in
set_option maxRecDepth 100000 in
theorem spec_l91Do.calls (k:Nat) (g:Nat) (s0_0:List Int) (s0_1:Int) (r1:Int) (r2:Int) (w0 w:World) (hI:IsS67 w0 w g s0_0 s0_1) (hB:Below w0.heap.size w0 w) (h:spec_l91Do.f k s0_0 s0_1 = some (r1,r2)) :
  Calls Try.prog 70 #[.pointer (some ⟨g,0,none⟩)] w fun e w'=>e = .returned (.int .i64 r1)∧IsS67 w0 w' g s0_0 r2∧Below w0.heap.size w0 w'∧KeepBut w w' g none:=by
 have HI0:=aQ hI
 have HK:=aQ (KeepBut.refl w g none)
 have HL:=aQ hB.size
 clear hI
 have HW0:=aQ hB.size
 have HB:=aQ hB
 clear hB
 have H:=h
 clear h
 obtain ⟨⟨t196,t197⟩,A2,H⟩:=bQ H
 dsimp only at H
 by_cases c3:t196 > 0
 ·rw [if_pos c3] at H
  have c3b0:decide (0 < t196) = true:=decide_eq_true c3
  clear c3
  obtain ⟨⟨t198,t199⟩,A4,H⟩:=bQ H
  dsimp only at H
  simp only [Option.some.injEq,Prod.mk.injEq] at H
  obtain ⟨rfl,rfl⟩:=H
  go_enter Try.func70,Try.ntmps70
  go_wp2_with (first | ((with_reducible refine gate_callee (f:=56) rfl ?_);refine goesL_ (some 4) rfl rfl Try.func56 (by kernel_rfl) rfl #[.pointer (some ⟨g,0,none⟩),.int .i64 3] rfl mP ?_;(with_reducible refine (spec_l6Rd_pick.calls k g s0_0 s0_1 3 t196 t197 w0 _ ?side1 ?side2 A2.out).mono ?_);(case side1=>exact bI);(case side2=>exact bB);rintro e w5 ⟨rfl,hi,hb,hk⟩;refine ⟨_,rfl,?_⟩;replace HK:=aQ (KeepBut.trans bK hk (.inl rfl));replace HB:=aQ (hb);replace HI0:=aQ (hi);(try clear hb);(try clear hk);(try clear hi)) | ((with_reducible refine gate_callee (f:=56) rfl ?_);refine goesL_ (some 7) rfl rfl Try.func56 (by kernel_rfl) rfl #[.pointer (some ⟨g,0,none⟩),.int .i64 5] rfl mP ?_;(with_reducible refine (spec_l6Rd_pick.calls k g s0_0 t197 5 t198 t199 w0 _ ?side1 ?side2 A4.out).mono ?_);(case side1=>exact bI);(case side2=>exact bB);rintro e w6 ⟨rfl,hi,hb,hk⟩;refine ⟨_,rfl,?_⟩;replace HK:=aQ (KeepBut.trans bK hk (.inl rfl));replace HB:=aQ (hb);replace HI0:=aQ (hi);(try clear hb);(try clear hk);(try clear hi)))
  go_ret
  exact ⟨rfl,bI,bB,bK⟩
 rw [if_neg c3] at H
 have c3b0:decide (0 < t196) = false:=decide_eq_false c3
 clear c3
 obtain ⟨⟨t200,t201⟩,A7,H⟩:=bQ H
 dsimp only at H
 simp only [Option.some.injEq,Prod.mk.injEq] at H
 obtain ⟨rfl,rfl⟩:=H
 go_enter Try.func70,Try.ntmps70
 go_wp2_with (first | ((with_reducible refine gate_callee (f:=56) rfl ?_);refine goesL_ (some 4) rfl rfl Try.func56 (by kernel_rfl) rfl #[.pointer (some ⟨g,0,none⟩),.int .i64 3] rfl mP ?_;(with_reducible refine (spec_l6Rd_pick.calls k g s0_0 s0_1 3 t196 t197 w0 _ ?side1 ?side2 A2.out).mono ?_);(case side1=>exact bI);(case side2=>exact bB);rintro e w8 ⟨rfl,hi,hb,hk⟩;refine ⟨_,rfl,?_⟩;replace HK:=aQ (KeepBut.trans bK hk (.inl rfl));replace HB:=aQ (hb);replace HI0:=aQ (hi);(try clear hb);(try clear hk);(try clear hi)) | ((with_reducible refine gate_callee (f:=56) rfl ?_);refine goesL_ (some 10) rfl rfl Try.func56 (by kernel_rfl) rfl #[.pointer (some ⟨g,0,none⟩),.int .i64 9] rfl mP ?_;(with_reducible refine (spec_l6Rd_pick.calls k g s0_0 t197 9 t200 t201 w0 _ ?side1 ?side2 A7.out).mono ?_);(case side1=>exact bI);(case side2=>exact bB);rintro e w9 ⟨rfl,hi,hb,hk⟩;refine ⟨_,rfl,?_⟩;replace HK:=aQ (KeepBut.trans bK hk (.inl rfl));replace HB:=aQ (hb);replace HI0:=aQ (hi);(try clear hb);(try clear hk);(try clear hi)))
 go_ret
 exact ⟨rfl,bI,bB,bK⟩
def spec_l91Act.f (k:Nat) (s0_0:List Int) (s0_1:Int):Option (Int × Int):=(spec_l6Rd_pick.f k s0_0 s0_1 30).bind fun bt202=>(if bt202.1 = 0 then ((some (([5,(-5),4611686018427387904]:List Int):List Int)).bind fun y204=>((spec_l6Rd_pick.f k s0_0 bt202.2 3).bind fun bt207=>(if 0 ≤ bt207.1 then (if bt207.1 < (y204.length:Int) then (some (rd y204 bt207.1,bt207.2)) else (none)) else (none)))) else ((spec_l91Do.f k s0_0 bt202.2).bind fun bt210=>(some (bt210.1,bt210.2))))
theorem spec_l91Act.mono:∀ a0 a1 k,LeO (spec_l91Act.f k a0 a1) (spec_l91Act.f (k + 1) a0 a1):=by
 intro a0 a1 k
 unfold spec_l91Act.f
 repeat' first
   | (with_reducible exact spec_l6Rd_pick.mono _ _ _ _)
   | (with_reducible exact spec_l91Do.mono _ _ _)
   | (with_reducible exact LeO.refl _)
   | (with_reducible exact LeO.none _)
   | (with_reducible refine LeO.ite ?_ ?_)
   | (with_reducible refine LeO.bind ?_ (fun _=>?_))
   | exact spec_l6Rd_pick.mono _ _ _ _
   | exact spec_l91Do.mono _ _ _
   | exact LeO.none _
   | refine LeO.ite ?_ ?_
   | refine LeO.bind ?_ (fun _=>?_)
set_option maxHeartbeats 8000000 in
set_option maxRecDepth 100000 in
theorem spec_l91Act.calls (k:Nat) (g:Nat) (s0_0:List Int) (s0_1:Int) (r1:Int) (r2:Int) (w0 w:World) (hI:IsS67 w0 w g s0_0 s0_1) (hB:Below w0.heap.size w0 w) (h:spec_l91Act.f k s0_0 s0_1 = some (r1,r2)) :
  Calls Try.prog 68 #[.pointer (some ⟨g,0,none⟩)] w fun e w'=>e = .returned (.int .i64 r1)∧IsS67 w0 w' g s0_0 r2∧Below w0.heap.size w0 w'∧KeepBut w w' g none:=by
 have HI0:=aQ hI
 have HK:=aQ (KeepBut.refl w g none)
 have HL:=aQ hB.size
 clear hI
 have HW0:=aQ hB.size
 have HB:=aQ hB
 clear hB
 have H:=h
 clear h
 obtain ⟨⟨t202,t203⟩,A2,H⟩:=bQ H
 dsimp only at H
 by_cases c3:t202 = 0;rotate_left
 ·rw [if_neg c3] at H
  have c3b0:(t202 == 0) = false:=beq_eq_false_iff_ne.mpr c3
  have c3b1:(t202 != 0) = true:=bne_iff_ne.mpr c3
  obtain ⟨⟨t210,t211⟩,A12,H⟩:=bQ H
  replace H:(some (t210,t211)) = some (r1,r2):=H
  simp only [Option.some.injEq,Prod.mk.injEq] at H
  obtain ⟨rfl,rfl⟩:=H
  go_enter Try.func68,Try.ntmps68
  go_wp2_with (first | ((with_reducible refine gate_callee (f:=56) rfl ?_);refine goesL_ (some 4) rfl rfl Try.func56 (by kernel_rfl) rfl #[.pointer (some ⟨g,0,none⟩),.int .i64 30] rfl mP ?_;(with_reducible refine (spec_l6Rd_pick.calls k g s0_0 s0_1 30 t202 t203 w0 _ ?side1 ?side2 A2.out).mono ?_);(case side1=>exact bI);(case side2=>exact bB);rintro e w13 ⟨rfl,hi,hb,hk⟩;refine ⟨_,rfl,?_⟩;replace HK:=aQ (KeepBut.trans bK hk (.inl rfl));replace HB:=aQ (hb);replace HI0:=aQ (hi);(try clear hb);(try clear hk);(try clear hi)) | ((with_reducible refine gate_callee (f:=70) rfl ?_);refine goesL_ (some 12) rfl rfl Try.func70 (by kernel_rfl) rfl #[.pointer (some ⟨g,0,none⟩)] rfl mP ?_;(with_reducible refine (spec_l91Do.calls k g s0_0 t203 t210 t211 w0 _ ?side1 ?side2 A12.out).mono ?_);(case side1=>exact bI);(case side2=>exact bB);rintro e w14 ⟨rfl,hi,hb,hk⟩;refine ⟨_,rfl,?_⟩;replace HK:=aQ (KeepBut.trans bK hk (.inl rfl));replace HB:=aQ (hb);replace HI0:=aQ (hi);(try clear hb);(try clear hk);(try clear hi)))
  go_ret
  exact ⟨rfl,bI,bB,bK⟩
 rw [if_pos c3] at H
 have c3b0:(t202 == 0) = true:=beq_iff_eq.mpr c3
 have c3b1:(t202 != 0) = false:=bne_eq_false_iff_eq.mpr c3
 clear c3
 obtain ⟨y204,hy204⟩:∃ y_:List Int,y_ = (([5,(-5),4611686018427387904]:List Int)):=⟨_,rfl⟩
 replace H:((spec_l6Rd_pick.f k s0_0 t203 3).bind fun bt207=>(if 0 ≤ bt207.1 then (if bt207.1 < (y204.length:Int) then (some (rd y204 bt207.1,bt207.2)) else (none)) else (none))) = some (r1,r2):=by rw [hy204];exact H
 have Ny204:=aQ hy204
 clear hy204
 obtain ⟨⟨t207,t208⟩,A4,H⟩:=bQ H
 dsimp only at H
 by_cases c5:0 ≤ t207;rotate_left
 ·rw [if_neg c5] at H
  exact absurd H (by simp)
 rw [if_pos c5] at H
 have c5b0:decide (0 ≤ t207) = true:=decide_eq_true c5
 clear c5
 by_cases c6:t207 < (y204.length:Int);rotate_left
 ·rw [if_neg c6] at H
  exact absurd H (by simp)
 rw [if_pos c6] at H
 have c6b0:decide (t207 < (y204.length:Int)) = true:=decide_eq_true c6
 clear c6
 simp only [Option.some.injEq,Prod.mk.injEq] at H
 obtain ⟨rfl,rfl⟩:=H
 go_enter Try.func68,Try.ntmps68
 go_wp2_with (first | ((with_reducible refine gate_callee (f:=56) rfl ?_);refine goesL_ (some 4) rfl rfl Try.func56 (by kernel_rfl) rfl #[.pointer (some ⟨g,0,none⟩),.int .i64 30] rfl mP ?_;(with_reducible refine (spec_l6Rd_pick.calls k g s0_0 s0_1 30 t202 t203 w0 _ ?side1 ?side2 A2.out).mono ?_);(case side1=>exact bI);(case side2=>exact bB);rintro e w7 ⟨rfl,hi,hb,hk⟩;refine ⟨_,rfl,?_⟩;replace HK:=aQ (KeepBut.trans bK hk (.inl rfl));replace HB:=aQ (hb);replace HI0:=aQ (hi);(try clear hb);(try clear hk);(try clear hi)) | ((with_reducible refine gate_dst (N:=6) rfl ?_);refine Kd.R_lit (Kd.int .i64) _ 3 ?hg (N:=6) ?hd (xs:=([5,(-5),4611686018427387904]:List Int)) (inner:=[.int .i64 5,.int .i64 (-5),.int .i64 4611686018427387904]) (ok:=fun _=>True) (okp:=fun _=>True) ?hr ?hp (fun _ hk=>hk) trivial (Below.refl _ _) (Nat.le_refl _) (by simp) ?_;(case hd=>rfl);(case hg=>rfl);(case hr=>first | (go_simp;done) | (go_simp;rfl));(case hp=>exact (Reps.one (show Kd.M (Kd.int .i64) _ _ _ 5 [.int .i64 5] from rfl) (Reps.one (show Kd.M (Kd.int .i64) _ _ _ (-5) [.int .i64 (-5)] from rfl) (Reps.one (show Kd.M (Kd.int .i64) _ _ _ 4611686018427387904 [.int .i64 4611686018427387904] from rfl) (Reps.none _ _)))));intro v205 w8 ho9 hb hg_ hnew_;clear hg_ hnew_;(first | rw [← Ny204.out] at ho9 | (simp only [Int.reduceToNat] at ho9;rw [← Ny204.out] at ho9));have HO206:=aQ (Kd.R_lower ho9 (keep_size (w:=w) (g:=g) (row:=none) bK));replace HI0:=aQ (IsS67.below bI hb);replace HK:=aQ (KeepBut.trans bK (KeepBut.of_below hb g none) (.inl rfl));replace HB:=aQ (below_step bB hb);clear hb ho9) | ((with_reducible refine gate_callee (f:=56) rfl ?_);refine goesL_ (some 8) rfl rfl Try.func56 (by kernel_rfl) rfl #[.pointer (some ⟨g,0,none⟩),.int .i64 3] rfl mP ?_;(with_reducible refine (spec_l6Rd_pick.calls k g s0_0 t203 3 t207 t208 w0 _ ?side1 ?side2 A4.out).mono ?_);(case side1=>exact bI);(case side2=>exact bB);rintro e w10 ⟨rfl,hi,hb,hk⟩;refine ⟨_,rfl,?_⟩;replace HO206:=aQ (Kd.R_mono (Kd.R_keep (IsS67.apart (show IsS67 w0 _ g s0_0 t203 from bI) (nR HO206.out) (by decide)) hk (fun _ h=>h.2)) (fun _ h=>h.1));replace HK:=aQ (KeepBut.trans bK hk (.inl rfl));replace HB:=aQ (hb);replace HI0:=aQ (hi);(try clear hb);(try clear hk);(try clear hi);obtain ⟨Ao11,co11,eo11⟩:=Kd.R_slice HO206.out;subst eo11;have p209:0 ≤ (t207:Int):=of_decide_eq_true (by first | (with_reducible assumption) | assumption);have q209:t207 < (y204.length:Int):=of_decide_eq_true (by first | (with_reducible assumption) | assumption);obtain ⟨ad209,e209,hx209_0⟩:=Kd.at_int (Kd.R_reads' HO206.out).2.2 t207 p209 q209;cases e209;replace p209:=eq_true p209;replace q209:=eq_true q209))
 go_ret
 exact ⟨rfl,bI,bB,bK⟩
def impl_ClockOk.f (k:Nat) (a0_0:Int) (a0_1:Int) (l0_2:List (S29)):Option (Bool):=(impl_clockNodes.f k a0_0 a0_1 l0_2 16).bind fun t155=>(if t155 ≤ 16 then ((impl_clockShape.f k a0_0 a0_1 l0_2).bind fun t156=>(some t156)) else (some false))
theorem impl_ClockOk.mono:∀ a0 a1 a2 k,LeO (impl_ClockOk.f k a0 a1 a2) (impl_ClockOk.f (k + 1) a0 a1 a2):=by
 intro a0 a1 a2 k
 unfold impl_ClockOk.f
 repeat' first
   | (with_reducible exact impl_clockNodes.mono _ _ _ _ _)
   | (with_reducible exact impl_clockShape.mono _ _ _ _)
   | (with_reducible exact LeO.refl _)
   | (with_reducible exact LeO.none _)
   | (with_reducible refine LeO.ite ?_ ?_)
   | (with_reducible refine LeO.bind ?_ (fun _=>?_))
   | exact impl_clockNodes.mono _ _ _ _ _
   | exact impl_clockShape.mono _ _ _ _
   | exact LeO.none _
   | refine LeO.ite ?_ ?_
   | refine LeO.bind ?_ (fun _=>?_)
set_option maxHeartbeats 8000000 in
set_option maxRecDepth 100000 in
theorem impl_ClockOk.calls (k:Nat) (a0_0:Int) (a0_1:Int) (A0_2:Option Addr) (c0_2:Nat) (l0_2:List (S29)) (r:Bool) (w:World) (hr0_2:Kd.C k29 w A0_2 l0_2.length l0_2) (hc0_2:l0_2.length ≤ c0_2) (h:impl_ClockOk.f k a0_0 a0_1 l0_2 = some r) :
  Calls Try.prog 16 #[.agg #[.int .i64 a0_0,.int .i64 a0_1,.slice A0_2 l0_2.length c0_2]] w fun e w'=>e = .returned (.bool r)∧Below w.heap.size w w':=by
 have hu29:=Try.underlying29
 have HR0_2:=aQ hr0_2
 have HC0_2:=aQ hc0_2
 clear hr0_2 hc0_2
 have HB:=aQ (Below.refl w.heap.size w)
 have H:=h
 clear h
 obtain ⟨t155,A2,H⟩:=bQ H
 (try dsimp only at H)
 by_cases c3:t155 ≤ 16;rotate_left
 ·rw [if_neg c3] at H
  have c3b0:decide (t155 ≤ 16) = false:=decide_eq_false c3
  clear c3
  obtain rfl:=Option.some.inj H
  go_enter Try.func16,Try.ntmps16
  go_wp2_with (first | ((with_reducible refine gate_dst (N:=1) rfl ?_);refine box1 (N:=1) (cs:=#[.int .i64 a0_0,.int .i64 a0_1,.slice A0_2 l0_2.length c0_2]) (t:=29) ?_;intro gb154 hg w10 hbox hb;have BK154:=aQ (hbox);have GW154:=aQ (gB:w.heap.size ≤ gb154);have GE154:=GW154;replace HB:=aQ (below_step bB hb);clear hb hbox hg;obtain ⟨hcz11_0,hcz11_1,hcz11_2,hfz11_0,hfz11_1,hfz11_2⟩:=cz3 BK154.out) | ((with_reducible refine gate_callee (f:=42) rfl ?_);refine goesL_ (some 4) rfl rfl Try.func42 (by kernel_rfl) rfl #[.agg #[.int .i64 a0_0,.int .i64 a0_1,.slice A0_2 l0_2.length c0_2],.int .i64 16] rfl mP ?_;(with_reducible refine (impl_clockNodes.calls k a0_0 a0_1 _ _ l0_2 16 t155 _ ?side1 ?side2 A2.out).mono ?_);(case side1=>repeat (first | exact (Kd.C_below HR0_2.out HB.out) | (with_reducible refine Kd.C_alloc ?_ _) | (with_reducible refine Kd.C_drewN ?_ _) | (with_reducible refine Kd.C_drew ?_)));(case side2=>exact HC0_2.out);rintro e w12 ⟨rfl,hb⟩;refine ⟨_,rfl,?_⟩;replace BK154:=aQ (blk_below (nB BK154.out) hb);replace HB:=aQ (below_step bB hb);(try clear hb)))
  go_ret
  exact ⟨rfl,bB⟩
 rw [if_pos c3] at H
 have c3b0:decide (t155 ≤ 16) = true:=decide_eq_true c3
 clear c3
 obtain ⟨t156,A4,H⟩:=bQ H
 replace H:(some t156) = some r:=H
 obtain rfl:=Option.some.inj H
 go_enter Try.func16,Try.ntmps16
 go_wp2_with (first | ((with_reducible refine gate_dst (N:=1) rfl ?_);refine box1 (N:=1) (cs:=#[.int .i64 a0_0,.int .i64 a0_1,.slice A0_2 l0_2.length c0_2]) (t:=29) ?_;intro gb154 hg w5 hbox hb;have BK154:=aQ (hbox);have GW154:=aQ (gB:w.heap.size ≤ gb154);have GE154:=GW154;replace HB:=aQ (below_step bB hb);clear hb hbox hg;obtain ⟨hcz6_0,hcz6_1,hcz6_2,hfz6_0,hfz6_1,hfz6_2⟩:=cz3 BK154.out) | ((with_reducible refine gate_callee (f:=42) rfl ?_);refine goesL_ (some 4) rfl rfl Try.func42 (by kernel_rfl) rfl #[.agg #[.int .i64 a0_0,.int .i64 a0_1,.slice A0_2 l0_2.length c0_2],.int .i64 16] rfl mP ?_;(with_reducible refine (impl_clockNodes.calls k a0_0 a0_1 _ _ l0_2 16 t155 _ ?side1 ?side2 A2.out).mono ?_);(case side1=>repeat (first | exact (Kd.C_below HR0_2.out HB.out) | (with_reducible refine Kd.C_alloc ?_ _) | (with_reducible refine Kd.C_drewN ?_ _) | (with_reducible refine Kd.C_drew ?_)));(case side2=>exact HC0_2.out);rintro e w7 ⟨rfl,hb⟩;refine ⟨_,rfl,?_⟩;replace BK154:=aQ (blk_below (nB BK154.out) hb);replace HB:=aQ (below_step bB hb);(try clear hb);obtain ⟨hcz8_0,hcz8_1,hcz8_2,hfz8_0,hfz8_1,hfz8_2⟩:=cz3 BK154.out) | (go_at_call 43;(with_reducible refine (impl_clockShape.calls k a0_0 a0_1 _ _ l0_2 t156 _ ?side1 ?side2 A4.out).mono ?_);(case side1=>repeat (first | exact (Kd.C_below HR0_2.out HB.out) | (with_reducible refine Kd.C_alloc ?_ _) | (with_reducible refine Kd.C_drewN ?_ _) | (with_reducible refine Kd.C_drew ?_)));(case side2=>exact HC0_2.out);rintro e w9 ⟨rfl,hb⟩;replace BK154:=aQ (blk_below (nB BK154.out) hb);replace HB:=aQ (below_step bB hb);(try clear hb)))
 go_ret
 exact ⟨rfl,bB⟩
def impl_ClockUrgent.l0:Nat → Int → Int → Int → List (S29) → Option (Int)
 | 0,_,_,_,_=>none
 | k + 1,x3,x404000,x404001,x404002=>if x3 < 100 then ((impl_pass.f k x404000 x404001 x404002).bind fun bt405=>(if bt405.2.2.2 = true then (impl_ClockUrgent.l0 k (wrap64 (x3 + 1)) bt405.1 bt405.2.1 bt405.2.2.1) else (some x3))) else (some x3)
def impl_ClockUrgent.f (k:Nat) (a0_0:Int) (a0_1:Int) (l0_2:List (S29)):Option (Int):=(impl_ClockOk.f k a0_0 a0_1 l0_2).bind fun t404=>(if t404 = true then (impl_ClockUrgent.l0 k 0 a0_0 a0_1 l0_2) else (some (-1)))
theorem impl_ClockUrgent.mono_l:∀ k,(∀ y0 y1 y2 y3,LeO (impl_ClockUrgent.l0 k y0 y1 y2 y3) (impl_ClockUrgent.l0 (k + 1) y0 y1 y2 y3))
 | 0=>fun _ _ _ _ r h=>by simp [impl_ClockUrgent.l0] at h
 | k + 1=>by
  have ih0:=impl_ClockUrgent.mono_l k
  ·intro y0 y1 y2 y3
   unfold impl_ClockUrgent.l0
   repeat' first
   | (with_reducible exact ih0 _ _ _ _)
   | (with_reducible exact impl_ClockOk.mono _ _ _ _)
   | (with_reducible exact impl_pass.mono _ _ _ _)
   | (with_reducible exact LeO.refl _)
   | (with_reducible exact LeO.none _)
   | (with_reducible refine LeO.ite ?_ ?_)
   | (with_reducible refine LeO.bind ?_ (fun _=>?_))
   | exact ih0 _ _ _ _
   | exact impl_ClockOk.mono _ _ _ _
   | exact impl_pass.mono _ _ _ _
   | exact LeO.none _
   | refine LeO.ite ?_ ?_
   | refine LeO.bind ?_ (fun _=>?_)
theorem impl_ClockUrgent.mono:∀ a0 a1 a2 k,LeO (impl_ClockUrgent.f k a0 a1 a2) (impl_ClockUrgent.f (k + 1) a0 a1 a2):=by
 intro a0 a1 a2 k
 have ih0:=impl_ClockUrgent.mono_l k
 unfold impl_ClockUrgent.f
 repeat' first
   | (with_reducible exact ih0 _ _ _ _)
   | (with_reducible exact impl_ClockOk.mono _ _ _ _)
   | (with_reducible exact impl_pass.mono _ _ _ _)
   | (with_reducible exact LeO.refl _)
   | (with_reducible exact LeO.none _)
   | (with_reducible refine LeO.ite ?_ ?_)
   | (with_reducible refine LeO.bind ?_ (fun _=>?_))
   | exact ih0 _ _ _ _
   | exact impl_ClockOk.mono _ _ _ _
   | exact impl_pass.mono _ _ _ _
   | exact LeO.none _
   | refine LeO.ite ?_ ?_
   | refine LeO.bind ?_ (fun _=>?_)
set_option maxHeartbeats 8000000 in
set_option maxRecDepth 100000 in
theorem impl_ClockUrgent.calls (k:Nat) (a0_0:Int) (a0_1:Int) (P0_2_:Nat → Prop) (A0_2:Option Addr) (c0_2:Nat) (l0_2:List (S29)) (r:Int) (w:World) (hs0_2:Kd.V k29 29 w w.heap.size (fun k_=>P0_2_ k_) (.slice A0_2 l0_2.length c0_2) l0_2) (h:impl_ClockUrgent.f k a0_0 a0_1 l0_2 = some r) :
  Calls Try.prog 20 #[.agg #[.int .i64 a0_0,.int .i64 a0_1,.slice A0_2 l0_2.length c0_2]] w fun e w'=>e = .returned (.int .i64 r)∧Below w.heap.size w w':=by
 have hu29:=Try.underlying29
 have HO0_2:=aQ (show Kd.V k29 29 w w.heap.size (fun k_=>(P0_2_ k_ ∨ w.heap.size ≤ k_)) (.slice A0_2 l0_2.length c0_2) l0_2 from Kd.V_mono hs0_2 (fun k_ hk=>.inl hk))
 have HB:=aQ (Below.refl w.heap.size w)
 have H:=h
 clear h
 obtain ⟨t404,A2,H⟩:=bQ H
 (try dsimp only at H)
 by_cases c3:t404 = true
 ·subst c3
  have H1:(impl_ClockUrgent.l0 k 0 a0_0 a0_1 l0_2) = some r:=by rw [if_pos rfl] at H;exact H
  clear H
  have H:=H1
  clear H1
  have H':=aQ H
  clear H
  go_enter Try.func20,Try.ntmps20
  go_wp2_with (first | ((with_reducible refine gate_dst (N:=1) rfl ?_);refine box1 (N:=1) (cs:=#[.int .i64 a0_0,.int .i64 a0_1,.slice A0_2 l0_2.length c0_2]) (t:=29) ?_;intro gb403 hg w4 hbox hb;replace HO0_2:=aQ (Kd.V_below (Kd.V_elderB (nV HO0_2.out) gb403 (Nat.le_of_eq hg.symm)) hb);have BK403:=aQ (hbox);have GW403:=aQ (gB:w.heap.size ≤ gb403);have GE403:=GW403;replace HB:=aQ (below_step bB hb);clear hb hbox hg;obtain ⟨hcz5_0,hcz5_1,hcz5_2,hfz5_0,hfz5_1,hfz5_2⟩:=cz3 BK403.out) | ((with_reducible refine gate_callee (f:=16) rfl ?_);refine goesL_ (some 7) rfl rfl Try.func16 (by kernel_rfl) rfl #[.agg #[.int .i64 a0_0,.int .i64 a0_1,.slice A0_2 l0_2.length c0_2]] rfl mP ?_;(with_reducible refine (impl_ClockOk.calls k a0_0 a0_1 _ _ l0_2 true _ ?side1 ?side2 A2.out).mono ?_);(case side1=>repeat (first | exact (Kd.V_reads' HO0_2.out).2.2 | (with_reducible refine Kd.C_alloc ?_ _) | (with_reducible refine Kd.C_drewN ?_ _) | (with_reducible refine Kd.C_drew ?_)));(case side2=>exact (Kd.V_reads' HO0_2.out).2.1);rintro e w6 ⟨rfl,hb⟩;refine ⟨_,rfl,?_⟩;replace HO0_2:=aQ (Kd.V_below (nV HO0_2.out) hb);replace BK403:=aQ (blk_below (nB BK403.out) hb);replace HB:=aQ (below_step bB hb);(try clear hb)))
  go_loopg [3] k (fun kq v3 w'=>∃ (x3_1:Int) (x404000_1:Int) (x404001_1:Int) (x404002_1:List (S29)) (u404002:Value),v3 = .int .i64 x3_1∧Aside0 (impl_ClockUrgent.l0 kq x3_1 x404000_1 x404001_1 x404002_1 = some r)∧Aside0 (kq ≤ k)∧Aside0 (Kd.V k29 29 w' w.heap.size (fun k_=>(P0_2_ k_ ∨ w.heap.size ≤ k_)∧k_ ≠ gb403) u404002 x404002_1)∧Aside0 (w'.heap[gb403]? = some (.cells #[.int .i64 x404000_1,.int .i64 x404001_1,u404002] 29 (0,0)))∧Aside0 (Below w.heap.size w w'))
  case atStart=>exact ⟨(0),(a0_0),(a0_1),(l0_2),(.slice A0_2 l0_2.length c0_2),rfl,H',⟨Nat.le_refl _⟩,⟨nV HO0_2.out⟩,⟨nB BK403.out⟩,⟨bB⟩⟩
  case round =>
   clear H'
   try clear hcz5_0
   try clear hcz5_1
   try clear hcz5_2
   try clear hfz5_0
   try clear hfz5_1
   try clear hfz5_2
   repeat (first | clear HO_404002 | clear BK403 | clear HB)
   obtain ⟨x3_1,x404000_1,x404001_1,x404002_1,u404002,rfl,HA,HK1,HO_404002,BK403,HB⟩:=hrel
   cases gk with
   | zero=>exact absurd HA.out (by simp [impl_ClockUrgent.l0])
   | succ k1 =>
    have H:=HA.out
    clear HA
    simp only [impl_ClockUrgent.l0] at H
    by_cases c7:x3_1 < 100;rotate_left
    ·rw [if_neg c7] at H
     have c7b0:decide (x3_1 < 100) = false:=decide_eq_false c7
     clear c7
     obtain rfl:=Option.some.inj H
     go_wp2
     go_ret
     exact ⟨rfl,bB⟩
    rw [if_pos c7] at H
    have c7b0:decide (x3_1 < 100) = true:=decide_eq_true c7
    clear c7
    obtain ⟨⟨t405,t406,t407,t410⟩,A8,H⟩:=bQ H
    dsimp only at H
    by_cases c9:t410 = true
    ·subst c9
     have H1:(impl_ClockUrgent.l0 k1 (wrap64 (x3_1 + 1)) t405 t406 t407) = some r:=by rw [if_pos rfl] at H;exact H
     clear H
     have H:=H1
     clear H1
     have H':=aQ H
     clear H
     obtain ⟨hcz10_0,hcz10_1,hcz10_2,hfz10_0,hfz10_1,hfz10_2⟩:=cz3 BK403.out
     obtain ⟨Ao11,co11,eo11⟩:=Kd.V_slice HO_404002.out
     subst eo11
     go_wp2_with (first | ((with_reducible refine gate_callee (f:=49) rfl ?_);refine goesL_ (some 13) rfl rfl Try.func49 (by kernel_rfl) rfl #[.agg #[.int .i64 x404000_1,.int .i64 x404001_1,.slice Ao11 x404002_1.length co11]] rfl mP ?_;(with_reducible refine (impl_pass.calls k1 x404000_1 x404001_1 (fun k_=>((P0_2_ k_ ∨ w.heap.size ≤ k_)∧k_ ≠ gb403)) _ _ x404002_1 t405 t406 t407 true _ ?side1 A8.out).mono ?_);(case side1=>exact HO_404002.out);rintro e w12 ⟨v408,rfl,ho0,hb⟩;refine ⟨_,rfl,?_⟩;replace HO_404002:=aQ (Kd.V_elder' (nV HO_404002.out) (Kd.N_base ho0) hb);have HO409:=aQ (Kd.N_lower (Kd.N_mono (ok':=fun k_=>(P0_2_ k_ ∨ w.heap.size ≤ k_)∧k_ ≠ gb403) ho0 (fun k_ hk_=>⟨Or.elim hk_ (fun hs_=>hs_.1) (fun hn_=>(.inr (Nat.le_trans (below_size bB) hn_))),Or.elim hk_ (fun hs_=>hs_.2) (fun hn_=>(Kd.freshB (nB BK403.out) k_ hn_))⟩)) (below_size bB));replace BK403:=aQ (blk_below (nB BK403.out) hb);replace HB:=aQ (below_step bB hb);(try clear hb);(try clear ho0)) | ((with_reducible refine gate_dst (N:=4) rfl ?_);refine box1 (N:=4) (cs:=#[.int .i64 0,.int .i64 0,.slice none 0 0]) (t:=29) ?_;intro gb411 hg w13 hbox hb;replace HO_404002:=aQ (Kd.V_below (Kd.V_elderB (nV HO_404002.out) gb411 (Nat.le_of_eq hg.symm)) hb);replace HO409:=aQ (Kd.N_below (Kd.N_elderB (nN HO409.out) gb411 (Nat.le_of_eq hg.symm)) hb);have BK411:=aQ (hbox);have GW411:=aQ (gB:w.heap.size ≤ gb411);have GE411:=GW411;replace HB:=aQ (below_step bB hb);have NB403_411:=aQ ((by rw [hg];exact Nat.ne_of_lt (blk_lt (nB BK403.out)):gb403 ≠ gb411));have NB411_403:=aQ NB403_411.out.symm;replace BK403:=aQ (blk_below (nB BK403.out) hb);clear hb hbox hg;have hnb14:=NB411_403.out;have hnc14:=NB403_411.out;obtain ⟨hcz15_0,hcz15_1,hcz15_2,hfz15_0,hfz15_1,hfz15_2⟩:=cz3 BK411.out;obtain ⟨Ao16,co16,eo16⟩:=Kd.N_slice HO409.out;subst eo16;obtain ⟨hcz17_0,hcz17_1,hcz17_2,hfz17_0,hfz17_1,hfz17_2⟩:=cz3 BK403.out))
     go_roundg k1
     case measure=>have:=HK1.out;omega
     case rel=>exact ⟨(wrap64 (x3_1 + 1)),(t405),(t406),(t407),(.slice Ao16 t407.length co16),rfl,H',⟨by have:=HK1.out;omega⟩,⟨Kd.N_V (nN (Kd.N_mono (Kd.N_far (p:=⟨gb403,2,none⟩) (Kd.N_far (p:=⟨gb403,1,none⟩) (Kd.N_far (p:=⟨gb403,0,none⟩) (Kd.N_far (p:=⟨gb411,2,none⟩) (Kd.N_far (p:=⟨gb411,1,none⟩) (Kd.N_far (p:=⟨gb411,0,none⟩) (Kd.N_mono (Kd.N_mono HO409.out (fun k_ hk=>(⟨hk,hk.2⟩:_∧k_ ≠ gb411))) (fun k_ hk=>(⟨hk,hk.1.1.2⟩:_∧k_ ≠ gb403))) (fun _ hk=>hk.1.2) (.int .i64 t405)) (fun _ hk=>hk.1.2) (.int .i64 t406)) (fun _ hk=>hk.1.2) (.slice Ao16 t407.length co16)) (fun _ hk=>hk.2) (.int .i64 t405)) (fun _ hk=>hk.2) (.int .i64 t406)) (fun _ hk=>hk.2) (.slice Ao16 t407.length co16)) (fun _ hk=>⟨hk.1.1.1.1,hk.1.1.1.2⟩)))⟩,⟨by (with_reducible repeat (first | refine blk_drewN ?_ _ | refine blk_drew ?_ | refine blk_alloc ?_ _));refine blk_put (cs:=#[.int .i64 t405,.int .i64 t406,.slice Ao11 x404002_1.length co11]) ?_ 2 _ rfl;(with_reducible repeat (first | refine blk_drewN ?_ _ | refine blk_drew ?_ | refine blk_alloc ?_ _));refine blk_put (cs:=#[.int .i64 t405,.int .i64 x404001_1,.slice Ao11 x404002_1.length co11]) ?_ 1 _ rfl;(with_reducible repeat (first | refine blk_drewN ?_ _ | refine blk_drew ?_ | refine blk_alloc ?_ _));refine blk_put (cs:=#[.int .i64 x404000_1,.int .i64 x404001_1,.slice Ao11 x404002_1.length co11]) ?_ 0 _ rfl;(with_reducible repeat (first | refine blk_drewN ?_ _ | refine blk_drew ?_ | refine blk_alloc ?_ _));refine blk_far ?_ NB403_411.out _;(with_reducible repeat (first | refine blk_drewN ?_ _ | refine blk_drew ?_ | refine blk_alloc ?_ _));refine blk_far ?_ NB403_411.out _;(with_reducible repeat (first | refine blk_drewN ?_ _ | refine blk_drew ?_ | refine blk_alloc ?_ _));refine blk_far ?_ NB403_411.out _;(with_reducible repeat (first | refine blk_drewN ?_ _ | refine blk_drew ?_ | refine blk_alloc ?_ _));exact BK403.out⟩,⟨bB⟩⟩
    ·replace c9:=Bool.eq_false_iff.mpr c9
     subst c9
     have H1:(some x3_1) = some r:=by rw [if_neg (show ¬ (false = true) by decide)] at H;exact H
     clear H
     have H:=H1
     clear H1
     obtain rfl:=Option.some.inj H
     obtain ⟨hcz18_0,hcz18_1,hcz18_2,hfz18_0,hfz18_1,hfz18_2⟩:=cz3 BK403.out
     obtain ⟨Ao19,co19,eo19⟩:=Kd.V_slice HO_404002.out
     subst eo19
     go_wp2_with (first | ((with_reducible refine gate_callee (f:=49) rfl ?_);refine goesL_ (some 13) rfl rfl Try.func49 (by kernel_rfl) rfl #[.agg #[.int .i64 x404000_1,.int .i64 x404001_1,.slice Ao19 x404002_1.length co19]] rfl mP ?_;(with_reducible refine (impl_pass.calls k1 x404000_1 x404001_1 (fun k_=>((P0_2_ k_ ∨ w.heap.size ≤ k_)∧k_ ≠ gb403)) _ _ x404002_1 t405 t406 t407 false _ ?side1 A8.out).mono ?_);(case side1=>exact HO_404002.out);rintro e w20 ⟨v408,rfl,ho0,hb⟩;refine ⟨_,rfl,?_⟩;replace HO_404002:=aQ (Kd.V_elder' (nV HO_404002.out) (Kd.N_base ho0) hb);have HO409:=aQ (Kd.N_lower (Kd.N_mono (ok':=fun k_=>(P0_2_ k_ ∨ w.heap.size ≤ k_)∧k_ ≠ gb403) ho0 (fun k_ hk_=>⟨Or.elim hk_ (fun hs_=>hs_.1) (fun hn_=>(.inr (Nat.le_trans (below_size bB) hn_))),Or.elim hk_ (fun hs_=>hs_.2) (fun hn_=>(Kd.freshB (nB BK403.out) k_ hn_))⟩)) (below_size bB));replace BK403:=aQ (blk_below (nB BK403.out) hb);replace HB:=aQ (below_step bB hb);(try clear hb);(try clear ho0)) | ((with_reducible refine gate_dst (N:=4) rfl ?_);refine box1 (N:=4) (cs:=#[.int .i64 0,.int .i64 0,.slice none 0 0]) (t:=29) ?_;intro gb411 hg w21 hbox hb;replace HO_404002:=aQ (Kd.V_below (Kd.V_elderB (nV HO_404002.out) gb411 (Nat.le_of_eq hg.symm)) hb);replace HO409:=aQ (Kd.N_below (Kd.N_elderB (nN HO409.out) gb411 (Nat.le_of_eq hg.symm)) hb);have BK411:=aQ (hbox);have GW411:=aQ (gB:w.heap.size ≤ gb411);have GE411:=GW411;replace HB:=aQ (below_step bB hb);have NB403_411:=aQ ((by rw [hg];exact Nat.ne_of_lt (blk_lt (nB BK403.out)):gb403 ≠ gb411));have NB411_403:=aQ NB403_411.out.symm;replace BK403:=aQ (blk_below (nB BK403.out) hb);clear hb hbox hg;have hnb22:=NB411_403.out;have hnc22:=NB403_411.out;obtain ⟨hcz23_0,hcz23_1,hcz23_2,hfz23_0,hfz23_1,hfz23_2⟩:=cz3 BK411.out;obtain ⟨Ao24,co24,eo24⟩:=Kd.N_slice HO409.out;subst eo24))
     go_ret
     exact ⟨rfl,bB⟩
 ·replace c3:=Bool.eq_false_iff.mpr c3
  subst c3
  have H1:(some (-1)) = some r:=by rw [if_neg (show ¬ (false = true) by decide)] at H;exact H
  clear H
  have H:=H1
  clear H1
  obtain rfl:=Option.some.inj H
  go_enter Try.func20,Try.ntmps20
  go_wp2_with (first | ((with_reducible refine gate_dst (N:=1) rfl ?_);refine box1 (N:=1) (cs:=#[.int .i64 a0_0,.int .i64 a0_1,.slice A0_2 l0_2.length c0_2]) (t:=29) ?_;intro gb403 hg w25 hbox hb;replace HO0_2:=aQ (Kd.V_below (Kd.V_elderB (nV HO0_2.out) gb403 (Nat.le_of_eq hg.symm)) hb);have BK403:=aQ (hbox);have GW403:=aQ (gB:w.heap.size ≤ gb403);have GE403:=GW403;replace HB:=aQ (below_step bB hb);clear hb hbox hg;obtain ⟨hcz26_0,hcz26_1,hcz26_2,hfz26_0,hfz26_1,hfz26_2⟩:=cz3 BK403.out) | ((with_reducible refine gate_callee (f:=16) rfl ?_);refine goesL_ (some 7) rfl rfl Try.func16 (by kernel_rfl) rfl #[.agg #[.int .i64 a0_0,.int .i64 a0_1,.slice A0_2 l0_2.length c0_2]] rfl mP ?_;(with_reducible refine (impl_ClockOk.calls k a0_0 a0_1 _ _ l0_2 false _ ?side1 ?side2 A2.out).mono ?_);(case side1=>repeat (first | exact (Kd.V_reads' HO0_2.out).2.2 | (with_reducible refine Kd.C_alloc ?_ _) | (with_reducible refine Kd.C_drewN ?_ _) | (with_reducible refine Kd.C_drew ?_)));(case side2=>exact (Kd.V_reads' HO0_2.out).2.1);rintro e w27 ⟨rfl,hb⟩;refine ⟨_,rfl,?_⟩;replace HO0_2:=aQ (Kd.V_below (nV HO0_2.out) hb);replace BK403:=aQ (blk_below (nB BK403.out) hb);replace HB:=aQ (below_step bB hb);(try clear hb)))
  go_ret
  exact ⟨rfl,bB⟩
end Go.Proofs.Ytnkgcjdlfenepaa.P
