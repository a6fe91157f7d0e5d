/- The drawing of a chain: what spec.l92Chances computes, and that its call comes to just that. No condition. -/
import Derived.Test.YtablnoddkllhmaaP0
import Derived.Test.YtablnoddkllhmaaP1
namespace Go.Proofs.Ytablnoddkllhmaa.P
open Go.RowKit Go.Proofs.YtablnoddkllhmaaW.PrintWords Go.Proofs.YtablnoddkllhmaaW.PrintLast Go.Proofs.YtablnoddkllhmaaW.PrintMore
attribute [local go_sem] max2_int min2_int max_two min_two max_three min_three max_four min_four
set_option linter.unusedVariables false
set_option linter.unusedSimpArgs false
mutual
def spec_l92Chances.l0:Nat → Int → Int → List Int → Int → List Int → List (List Int) → Option (List Int × (List (List Int)) × Int)
 | 0,_,_,_,_,_,_=>none
 | k + 1,x4,x5,x1000,x1001,x184000,x184001=>if x5 < x4 then ((spec_l6Rd_pick.f k x1000 x1001 2).bind fun bt186=>(if x184000.length < 17592186044416 then (if 0 ≤ x4 then (if (x4:Int).toNat ≤ 35184372088832 then (spec_l92Chances.l1 k x4 x5 (List.replicate (x4:Int).toNat 0) 0 x1000 bt186.2 (x184000 ++ [bt186.1]) x184001) else (none)) else (none)) else (none))) else (if x4 > 1 then ((spec_l6Rd_pick.f k x1000 x1001 3).bind fun bt212=>(spec_l92Chances.j2 k (bt212.1 == 0) x1000 bt212.2 x184000 x184001)) else (spec_l92Chances.j2 k false x1000 x1001 x184000 x184001))
def spec_l92Chances.l1:Nat → Int → Int → List Int → Int → List Int → Int → List Int → List (List Int) → Option (List Int × (List (List Int)) × Int)
 | 0,_,_,_,_,_,_,_,_=>none
 | k + 1,x4,x5,x6,x7,x1000,x1001,x184000,x184001=>if x7 < 6 then ((spec_l6Rd_pick.f k x1000 x1001 x4).bind fun bt194=>(if 0 ≤ bt194.1 then (if bt194.1 < (x6.length:Int) then (spec_l92Chances.l1 k x4 x5 (x6.set (bt194.1:Int).toNat (wrap64 ((rd x6 bt194.1) + 2))) (wrap64 (x7 + 2)) x1000 bt194.2 x184000 x184001) else (none)) else (none))) else ((spec_l6Rd_pick.f k x1000 x1001 2).bind fun bt198=>(if bt198.1 = 0 then (if 0 ≤ x4 then (if (x4:Int).toNat ≤ 35184372088832 then ((some (List.replicate (x4:Int).toNat 0:List Int)).bind fun y200=>((spec_l6Rd_pick.f k x1000 bt198.2 x4).bind fun bt203=>(if 0 ≤ bt203.1 then (if bt203.1 < (y200.length:Int) then (if x184001.length < 5864062014805 then (spec_l92Chances.l0 k x4 (wrap64 (x5 + 1)) x1000 bt203.2 x184000 (x184001 ++ [(y200.set (bt203.1:Int).toNat 6)])) else (none)) else (none)) else (none)))) else (none)) else (none)) else (if x184001.length < 5864062014805 then (spec_l92Chances.l0 k x4 (wrap64 (x5 + 1)) x1000 bt198.2 x184000 (x184001 ++ [x6])) else (none))))
def spec_l92Chances.j2:Nat → Bool → List Int → Int → List Int → List (List Int) → Option (List Int × (List (List Int)) × Int)
 | 0,_,_,_,_,_=>none
 | k + 1,x60,x1000,x1001,x184000,x184001=>if x60 = true then (if 0 < (x184000.length:Int) then (if 1 < (x184000.length:Int) then ((some (([]:List Int):List Int)).bind fun y216=>(if 0 < (x184001.length:Int) then (if y216.length + (rd_L1 x184001 0).length < 17592186044416 then (if 1 < (x184001.length:Int) then (spec_l92Chances.j3 k x1000 x1001 (x184000.set (1:Int).toNat (rd x184000 0)) (x184001.set (1:Int).toNat (y216 ++ (rd_L1 x184001 0)))) else (none)) else (none)) else (none))) else (none)) else (none)) else (spec_l92Chances.j3 k x1000 x1001 x184000 x184001)
def spec_l92Chances.j3:Nat → List Int → Int → List Int → List (List Int) → Option (List Int × (List (List Int)) × Int)
 | 0,_,_,_,_=>none
 | k + 1,x1000,x1001,x184000,x184001=>(spec_l6Rd_pick.f k x1000 x1001 30).bind fun bt224=>(if bt224.1 = 0 then (if 0 < (x184001.length:Int) then (if 0 < ((rd_L1 x184001 0).length:Int) then (some (x184000,x184001.set (0:Int).toNat ((rd_L1 x184001 0).set (0:Int).toNat (wrap64 ((rd (rd_L1 x184001 0) 0) + 1))),bt224.2)) else (none)) else (none)) else (if bt224.1 = 1 then (if 0 < (x184000.length:Int) then (some ((x184000.set (0:Int).toNat 10),x184001,bt224.2)) else (none)) else (if bt224.1 = 2 then (if 0 < (x184001.length:Int) then (if 1 ≤ ((rd_L1 x184001 0).length:Int) then (some (x184000,(x184001.set (0:Int).toNat ((rd_L1 x184001 0).drop 1)),bt224.2)) else (none)) else (none)) else (if bt224.1 = 3 then (some (([]:List Int),([]:List (List Int)),bt224.2)) else (some (x184000,x184001,bt224.2))))))
end
def spec_l92Chances.f (k:Nat) (s0_0:List Int) (s0_1:Int):Option (List Int × (List (List Int)) × Int):=(spec_l6Rd_pick.f k s0_0 s0_1 5).bind fun bt184=>(spec_l92Chances.l0 k (wrap64 (1 + bt184.1)) 0 s0_0 bt184.2 ([]:List Int) ([]:List (List Int)))
theorem spec_l92Chances.mono_l:∀ k,(∀ y0 y1 y2 y3 y4 y5,LeO (spec_l92Chances.l0 k y0 y1 y2 y3 y4 y5) (spec_l92Chances.l0 (k + 1) y0 y1 y2 y3 y4 y5))∧(∀ y0 y1 y2 y3 y4 y5 y6 y7,LeO (spec_l92Chances.l1 k y0 y1 y2 y3 y4 y5 y6 y7) (spec_l92Chances.l1 (k + 1) y0 y1 y2 y3 y4 y5 y6 y7))∧(∀ y0 y1 y2 y3 y4,LeO (spec_l92Chances.j2 k y0 y1 y2 y3 y4) (spec_l92Chances.j2 (k + 1) y0 y1 y2 y3 y4))∧(∀ y0 y1 y2 y3,LeO (spec_l92Chances.j3 k y0 y1 y2 y3) (spec_l92Chances.j3 (k + 1) y0 y1 y2 y3))
 | 0=>⟨fun _ _ _ _ _ _ r h=>by simp [spec_l92Chances.l0] at h,fun _ _ _ _ _ _ _ _ r h=>by simp [spec_l92Chances.l1] at h,fun _ _ _ _ _ r h=>by simp [spec_l92Chances.j2] at h,fun _ _ _ _ r h=>by simp [spec_l92Chances.j3] at h⟩
 | k + 1=>by
  obtain ⟨ih0,ih1,ih2,ih3⟩:=spec_l92Chances.mono_l k
  refine ⟨?_,?_,?_,?_⟩
  ·intro y0 y1 y2 y3 y4 y5
   unfold spec_l92Chances.l0
   repeat' first
   | (with_reducible exact ih0 _ _ _ _ _ _)
   | (with_reducible exact ih1 _ _ _ _ _ _ _ _)
   | (with_reducible exact ih2 _ _ _ _ _)
   | (with_reducible exact ih3 _ _ _ _)
   | (with_reducible exact spec_l6Rd_pick.mono _ _ _ _)
   | (with_reducible exact LeO.refl _)
   | (with_reducible exact LeO.none _)
   | (with_reducible refine LeO.ite ?_ ?_)
   | (with_reducible refine LeO.bind ?_ (fun _=>?_))
   | exact ih0 _ _ _ _ _ _
   | exact ih1 _ _ _ _ _ _ _ _
   | exact ih2 _ _ _ _ _
   | exact ih3 _ _ _ _
   | exact spec_l6Rd_pick.mono _ _ _ _
   | exact LeO.none _
   | refine LeO.ite ?_ ?_
   | refine LeO.bind ?_ (fun _=>?_)
  ·intro y0 y1 y2 y3 y4 y5 y6 y7
   unfold spec_l92Chances.l1
   repeat' first
   | (with_reducible exact ih0 _ _ _ _ _ _)
   | (with_reducible exact ih1 _ _ _ _ _ _ _ _)
   | (with_reducible exact ih2 _ _ _ _ _)
   | (with_reducible exact ih3 _ _ _ _)
   | (with_reducible exact spec_l6Rd_pick.mono _ _ _ _)
   | (with_reducible exact LeO.refl _)
   | (with_reducible exact LeO.none _)
   | (with_reducible refine LeO.ite ?_ ?_)
   | (with_reducible refine LeO.bind ?_ (fun _=>?_))
   | exact ih0 _ _ _ _ _ _
   | exact ih1 _ _ _ _ _ _ _ _
   | exact ih2 _ _ _ _ _
   | exact ih3 _ _ _ _
   | exact spec_l6Rd_pick.mono _ _ _ _
   | exact LeO.none _
   | refine LeO.ite ?_ ?_
   | refine LeO.bind ?_ (fun _=>?_)
  ·intro y0 y1 y2 y3 y4
   unfold spec_l92Chances.j2
   repeat' first
   | (with_reducible exact ih0 _ _ _ _ _ _)
   | (with_reducible exact ih1 _ _ _ _ _ _ _ _)
   | (with_reducible exact ih2 _ _ _ _ _)
   | (with_reducible exact ih3 _ _ _ _)
   | (with_reducible exact spec_l6Rd_pick.mono _ _ _ _)
   | (with_reducible exact LeO.refl _)
   | (with_reducible exact LeO.none _)
   | (with_reducible refine LeO.ite ?_ ?_)
   | (with_reducible refine LeO.bind ?_ (fun _=>?_))
   | exact ih0 _ _ _ _ _ _
   | exact ih1 _ _ _ _ _ _ _ _
   | exact ih2 _ _ _ _ _
   | exact ih3 _ _ _ _
   | exact spec_l6Rd_pick.mono _ _ _ _
   | exact LeO.none _
   | refine LeO.ite ?_ ?_
   | refine LeO.bind ?_ (fun _=>?_)
  ·intro y0 y1 y2 y3
   unfold spec_l92Chances.j3
   repeat' first
   | (with_reducible exact ih0 _ _ _ _ _ _)
   | (with_reducible exact ih1 _ _ _ _ _ _ _ _)
   | (with_reducible exact ih2 _ _ _ _ _)
   | (with_reducible exact ih3 _ _ _ _)
   | (with_reducible exact spec_l6Rd_pick.mono _ _ _ _)
   | (with_reducible exact LeO.refl _)
   | (with_reducible exact LeO.none _)
   | (with_reducible refine LeO.ite ?_ ?_)
   | (with_reducible refine LeO.bind ?_ (fun _=>?_))
   | exact ih0 _ _ _ _ _ _
   | exact ih1 _ _ _ _ _ _ _ _
   | exact ih2 _ _ _ _ _
   | exact ih3 _ _ _ _
   | exact spec_l6Rd_pick.mono _ _ _ _
   | exact LeO.none _
   | refine LeO.ite ?_ ?_
   | refine LeO.bind ?_ (fun _=>?_)
theorem spec_l92Chances.mono:∀ a0 a1 k,LeO (spec_l92Chances.f k a0 a1) (spec_l92Chances.f (k + 1) a0 a1):=by
 intro a0 a1 k
 obtain ⟨ih0,ih1,ih2,ih3⟩:=spec_l92Chances.mono_l k
 unfold spec_l92Chances.f
 repeat' first
   | (with_reducible exact ih0 _ _ _ _ _ _)
   | (with_reducible exact ih1 _ _ _ _ _ _ _ _)
   | (with_reducible exact ih2 _ _ _ _ _)
   | (with_reducible exact ih3 _ _ _ _)
   | (with_reducible exact spec_l6Rd_pick.mono _ _ _ _)
   | (with_reducible exact LeO.refl _)
   | (with_reducible exact LeO.none _)
   | (with_reducible refine LeO.ite ?_ ?_)
   | (with_reducible refine LeO.bind ?_ (fun _=>?_))
   | exact ih0 _ _ _ _ _ _
   | exact ih1 _ _ _ _ _ _ _ _
   | exact ih2 _ _ _ _ _
   | exact ih3 _ _ _ _
   | exact spec_l6Rd_pick.mono _ _ _ _
   | exact LeO.none _
   | refine LeO.ite ?_ ?_
   | refine LeO.bind ?_ (fun _=>?_)
def spec_l92Chances.T6:Bool × List (List Nat × List Nat):=(true,[([],[]),([0],[0]),([],[]),([2],[2]),([3],[3]),([1,4,3],[1,4]),([0,1,2,3,4,5],[]),([6,5,5,0,1,2,3,4,5],[5,6])])
def spec_l92Chances.B6:List Nat:=[0,1,0,4,12,31,63,127]
theorem spec_l92Chances.tab6:rtab .any (opsOf Try.f45 6) = spec_l92Chances.T6:=by kernel_rfl
theorem spec_l92Chances.bits6:waitsOk spec_l92Chances.T6.2 spec_l92Chances.B6 = true:=by kernel_rfl
def spec_l92Chances.T17:Bool × List (List Nat × List Nat):=(true,[([],[]),([0],[0]),([],[]),([2],[2]),([3],[3]),([4],[4]),([1,0,1,2,3,4,5],[1]),([6,5,0,1,2,3,4,5],[5,6])])
def spec_l92Chances.B17:List Nat:=[0,1,0,4,12,28,63,127]
theorem spec_l92Chances.tab17:rtab .any (opsOf Try.f45 17) = spec_l92Chances.T17:=by kernel_rfl
theorem spec_l92Chances.bits17:waitsOk spec_l92Chances.T17.2 spec_l92Chances.B17 = true:=by kernel_rfl
def spec_l92Chances.T18:Bool × List (List Nat × List Nat):=(true,[([],[]),([0],[0]),([],[]),([],[]),([3],[3]),([4],[4]),([5],[5]),([2,6],[2,6]),([1,0,1,2,3,4,5,6,7],[1]),([8,7,7,0,1,2,3,4,5,6,7],[7,8])])
def spec_l92Chances.B18:List Nat:=[0,1,0,0,8,24,56,124,255,511]
theorem spec_l92Chances.tab18:rtab .any (opsOf Try.f45 18) = spec_l92Chances.T18:=by kernel_rfl
theorem spec_l92Chances.bits18:waitsOk spec_l92Chances.T18.2 spec_l92Chances.B18 = true:=by kernel_rfl
def spec_l92Chances.T25:Bool × List (List Nat × List Nat):=(true,[([],[]),([0],[0]),([],[]),([2],[2]),([3],[3]),([4],[4]),([5],[5]),([1,0,1,2,3,4,5,6],[1]),([7,6,0,1,2,3,4,5,6],[6,7])])
def spec_l92Chances.B25:List Nat:=[0,1,0,4,12,28,60,127,255]
theorem spec_l92Chances.tab25:rtab .any (opsOf Try.f45 25) = spec_l92Chances.T25:=by kernel_rfl
theorem spec_l92Chances.bits25:waitsOk spec_l92Chances.T25.2 spec_l92Chances.B25 = true:=by kernel_rfl
def spec_l92Chances.T21:Bool × List (List Nat × List Nat):=(true,[([],[]),([0],[0]),([1],[1]),([2],[2]),([],[]),([4],[4]),([5],[5]),([6],[6]),([7],[7]),([8],[8]),([9],[9]),([3,0,1,2,3,4,5,6,7,8,9,10],[3]),([11,10,0,1,2,3,4,5,6,7,8,9,10],[10,11])])
def spec_l92Chances.B21:List Nat:=[0,1,3,7,0,16,48,112,240,496,1008,2047,4095]
theorem spec_l92Chances.tab21:rtab .any (opsOf Try.f45 21) = spec_l92Chances.T21:=by kernel_rfl
theorem spec_l92Chances.bits21:waitsOk spec_l92Chances.T21.2 spec_l92Chances.B21 = true:=by kernel_rfl
set_option maxHeartbeats 8000000 in
set_option maxRecDepth 100000 in
theorem spec_l92Chances.calls (k:Nat) (g:Nat) (s0_0:List Int) (s0_1:Int) (r1:List Int) (r2:List (List Int)) (r3:Int) (w0 w:World) (hI:IsS67 w0 w g s0_0 s0_1) (hB:Below w0.heap.size w0 w) (h:spec_l92Chances.f k s0_0 s0_1 = some (r1,r2,r3)) :
  Calls Try.prog 45 #[.pointer (some ⟨g,0,none⟩)] w fun e w'=>∃ v0_ v1_:Value,e = .returned (.agg #[v0_,v1_])∧Kd.R (Kd.int .i64) 3 w' w.heap.size (fun k_=>(w.heap.size ≤ k_)) v0_ r1∧Kd.N (Kd.slice 3 (Kd.int .i64)) 22 w' w.heap.size (fun k_=>(w.heap.size ≤ k_)∧some k_ ≠ (v0_:Value).ownBlock) v1_ r2∧IsS67 w0 w' g s0_0 r3∧Below w0.heap.size w0 w'∧KeepBut w w' g none:=by
 have hu28:=Try.underlying28
 have HI0:=Aside0.mk hI
 have HK:=Aside0.mk (KeepBut.refl w g none)
 have HL:=Aside0.mk hB.size
 clear hI
 have HW0:=Aside0.mk hB.size
 have HB:=Aside0.mk hB
 clear hB
 have H:((spec_l6Rd_pick.f k s0_0 s0_1 5).bind fun bt184=>(spec_l92Chances.l0 k (wrap64 (1 + bt184.1)) 0 s0_0 bt184.2 ([]:List Int) ([]:List (List Int)))) = some (r1,r2,r3):=h
 clear h
 replace H:=Option.bind_eq_some_iff.mp H
 obtain ⟨⟨t184,t185⟩,A20,H⟩:=H
 replace H:(spec_l92Chances.l0 k (wrap64 (1 + t184)) 0 s0_0 t185 ([]:List Int) ([]:List (List Int))) = some (r1,r2,r3):=H
 have A2:=Aside0.mk A20
 clear A20
 have H':=Aside0.mk H
 clear H
 go_enter Try.func45,Try.ntmps45
 go_wp2_with (first | ((with_reducible refine gate_dst (N:=2) rfl ?_);refine box_event ?hg (N:=2) ?hd (cs:=#[.slice none 0 0,.slice none 0 0]) (t:=28) ?hr ?_;(case hd=>rfl);(case hg=>rfl);(case hr=>first | (go_simp;done) | (go_simp;rfl));intro gb182 hg w3 hbox hb;have n0_:=Aside0.mk (IsS67.below (by repeat (first | (with_reducible first | exact HI0.out | apply IsS67.alloc | apply IsS67.drewN | apply IsS67.drew | apply IsS67.set_1) | exact HI0.out)) hb);have n1_:=Aside0.mk (KeepBut.trans (by repeat (first | (with_reducible first | exact HK.out | apply KeepBut.set_ | apply keep_drewN | apply keep_drew | apply keep_alloc) | exact HK.out)) (KeepBut.of_below hb g none) (.inl rfl));have n2_:=Aside0.mk (below_step (by repeat (first | (with_reducible first | exact HB.out | apply below_alloc | apply pw_below_drewN | apply below_drew1 | refine below_set ?_ (IsS67.ge HI0.out)) | exact HB.out)) hb);have n3_:=Aside0.mk (hbox);have n4_:=Aside0.mk ((by rw [hg];exact (keep_size (w:=w) (g:=g) (row:=none) (by repeat (first | (with_reducible first | exact HK.out | apply KeepBut.set_ | apply keep_drewN | apply keep_drew | apply keep_alloc) | exact HK.out))):w.heap.size ≤ gb182));have n5_:=Aside0.mk ((Nat.le_trans HW0.out (by rw [hg];exact (keep_size (w:=w) (g:=g) (row:=none) (by repeat (first | (with_reducible first | exact HK.out | apply KeepBut.set_ | apply keep_drewN | apply keep_drew | apply keep_alloc) | exact HK.out))):w.heap.size ≤ gb182):w0.heap.size ≤ gb182));have n6_:=Aside0.mk ((by rw [hg];exact Nat.ne_of_lt (IsS67.lt (show IsS67 w0 _ g s0_0 s0_1 from by repeat (first | (with_reducible first | exact HI0.out | apply IsS67.alloc | apply IsS67.drewN | apply IsS67.drew | apply IsS67.set_1) | exact HI0.out))):g ≠ gb182));have n7_:=Aside0.mk ((by rw [hg];exact Nat.ne_of_gt (IsS67.lt (show IsS67 w0 _ g s0_0 s0_1 from by repeat (first | (with_reducible first | exact HI0.out | apply IsS67.alloc | apply IsS67.drewN | apply IsS67.drew | apply IsS67.set_1) | exact HI0.out))):gb182 ≠ g));clear HI0;clear HK;clear HB;have HI0:=n0_;have HK:=n1_;have HB:=n2_;have BK182:=n3_;have GW182:=n4_;have GE182:=n5_;have NB0_182:=n6_;have NB182_0:=n7_;clear n0_ n1_ n2_ n3_ n4_ n5_ n6_ n7_;clear hb hbox hg) | ((with_reducible refine gate_dst (N:=3) rfl ?_);refine box_event ?hg (N:=3) ?hd (cs:=#[.slice none 0 0,.slice none 0 0]) (t:=28) ?hr ?_;(case hd=>rfl);(case hg=>rfl);(case hr=>first | (go_simp;done) | (go_simp;rfl));intro gb183 hg w4 hbox hb;have n0_:=Aside0.mk (IsS67.below (by repeat (first | (with_reducible first | exact HI0.out | apply IsS67.alloc | apply IsS67.drewN | apply IsS67.drew | apply IsS67.set_1 | refine IsS67.far ?_ NB0_182.out _) | exact HI0.out)) hb);have n1_:=Aside0.mk (blk_below (g:=gb182) (o:=.cells #[.slice none 0 0,.slice none 0 0] 28 (0,0)) (by (with_reducible repeat (first | refine blk_drewN ?_ _ | refine blk_drew ?_ | refine blk_alloc ?_ _));exact BK182.out) hb);have n2_:=Aside0.mk (KeepBut.trans (by repeat (first | (with_reducible first | exact HK.out | apply KeepBut.set_ | apply keep_drewN | apply keep_drew | apply keep_alloc | refine keep_far ?_ GW182.out _) | exact HK.out)) (KeepBut.of_below hb g none) (.inl rfl));have n3_:=Aside0.mk (below_step (by repeat (first | (with_reducible first | exact HB.out | apply below_alloc | apply pw_below_drewN | apply below_drew1 | refine below_set ?_ (IsS67.ge HI0.out) | refine below_set ?_ GE182.out) | exact HB.out)) hb);have n4_:=Aside0.mk (hbox);have n5_:=Aside0.mk ((by rw [hg];exact (keep_size (w:=w) (g:=g) (row:=none) (by repeat (first | (with_reducible first | exact HK.out | apply KeepBut.set_ | apply keep_drewN | apply keep_drew | apply keep_alloc | refine keep_far ?_ GW182.out _) | exact HK.out))):w.heap.size ≤ gb183));have n6_:=Aside0.mk ((Nat.le_trans HW0.out (by rw [hg];exact (keep_size (w:=w) (g:=g) (row:=none) (by repeat (first | (with_reducible first | exact HK.out | apply KeepBut.set_ | apply keep_drewN | apply keep_drew | apply keep_alloc | refine keep_far ?_ GW182.out _) | exact HK.out))):w.heap.size ≤ gb183):w0.heap.size ≤ gb183));have n7_:=Aside0.mk ((by rw [hg];exact Nat.ne_of_lt (blk_lt (g:=gb182) (o:=.cells #[.slice none 0 0,.slice none 0 0] 28 (0,0)) (by (with_reducible repeat (first | refine blk_drewN ?_ _ | refine blk_drew ?_ | refine blk_alloc ?_ _));exact BK182.out)):gb182 ≠ gb183));have n8_:=Aside0.mk ((by rw [hg];exact Nat.ne_of_gt (blk_lt (g:=gb182) (o:=.cells #[.slice none 0 0,.slice none 0 0] 28 (0,0)) (by (with_reducible repeat (first | refine blk_drewN ?_ _ | refine blk_drew ?_ | refine blk_alloc ?_ _));exact BK182.out)):gb183 ≠ gb182));have n9_:=Aside0.mk ((by rw [hg];exact Nat.ne_of_lt (IsS67.lt (show IsS67 w0 _ g s0_0 s0_1 from by repeat (first | (with_reducible first | exact HI0.out | apply IsS67.alloc | apply IsS67.drewN | apply IsS67.drew | apply IsS67.set_1 | refine IsS67.far ?_ NB0_182.out _) | exact HI0.out))):g ≠ gb183));have n10_:=Aside0.mk ((by rw [hg];exact Nat.ne_of_gt (IsS67.lt (show IsS67 w0 _ g s0_0 s0_1 from by repeat (first | (with_reducible first | exact HI0.out | apply IsS67.alloc | apply IsS67.drewN | apply IsS67.drew | apply IsS67.set_1 | refine IsS67.far ?_ NB0_182.out _) | exact HI0.out))):gb183 ≠ g));clear HI0;clear BK182;clear HK;clear HB;have HI0:=n0_;have BK182:=n1_;have HK:=n2_;have HB:=n3_;have BK183:=n4_;have GW183:=n5_;have GE183:=n6_;have NB182_183:=n7_;have NB183_182:=n8_;have NB0_183:=n9_;have NB183_0:=n10_;clear n0_ n1_ n2_ n3_ n4_ n5_ n6_ n7_ n8_ n9_ n10_;clear hb hbox hg;have hnb5:=NB183_182.out;have hnc5:=NB182_183.out;have hnb6:=NB183_0.out;have hnc6:=NB0_183.out;have hcz7_0:w4.cell? ⟨gb183,0,none⟩ = some (.slice none 0 0):=(blk_cell BK183.out 0).trans rfl;have hcz7_1:w4.cell? ⟨gb183,1,none⟩ = some (.slice none 0 0):=(blk_cell BK183.out 1).trans rfl;have hfz7_0:=blk_frozen BK183.out 0;have hfz7_1:=blk_frozen BK183.out 1) | ((with_reducible refine gate_callee (f:=48) rfl ?_);refine goesL_ (some 10) rfl rfl Try.func48 (by kernel_rfl) rfl #[.pointer (some ⟨g,0,none⟩),.int .i64 5] rfl (by (try simp only [List.map_toArray,List.map_cons,List.map_nil]);first | done | rfl | (simp only [List.length_drop,List.length_take];rfl)) ?_;(with_reducible refine (spec_l6Rd_pick.calls k g s0_0 s0_1 5 t184 t185 w0 _ ?side1 ?side2 A2.out).mono ?_);(case side1=>repeat (first | (with_reducible first | exact HI0.out | apply IsS67.alloc | apply IsS67.drewN | apply IsS67.drew | apply IsS67.set_1 | refine IsS67.far ?_ NB0_182.out _ | refine IsS67.far ?_ NB0_183.out _) | exact HI0.out));(case side2=>repeat (first | (with_reducible first | exact HB.out | apply below_alloc | apply pw_below_drewN | apply below_drew1 | refine below_set ?_ (IsS67.ge HI0.out) | refine below_set ?_ GE182.out | refine below_set ?_ GE183.out) | exact HB.out));rintro e w8 ⟨rfl,hi,hb,hk⟩;refine ⟨_,rfl,?_⟩;have n0_:=Aside0.mk (KeepBut.blk hk (g':=gb182) (o:=.cells #[.slice none 0 0,.slice none 0 0] 28 (0,0)) (by (with_reducible repeat (first | refine blk_drewN ?_ _ | refine blk_drew ?_ | refine blk_alloc ?_ _));refine blk_far ?_ NB182_183.out _;(with_reducible repeat (first | refine blk_drewN ?_ _ | refine blk_drew ?_ | refine blk_alloc ?_ _));refine blk_far ?_ NB182_183.out _;(with_reducible repeat (first | refine blk_drewN ?_ _ | refine blk_drew ?_ | refine blk_alloc ?_ _));exact BK182.out) NB182_0.out (by simp));have n1_:=Aside0.mk (KeepBut.blk hk (g':=gb183) (o:=.cells #[.slice none 0 0,.slice none 0 0] 28 (0,0)) (by (with_reducible repeat (first | refine blk_drewN ?_ _ | refine blk_drew ?_ | refine blk_alloc ?_ _));refine blk_put (cs:=#[.slice none 0 0,.slice none 0 0]) ?_ 1 _ rfl;(with_reducible repeat (first | refine blk_drewN ?_ _ | refine blk_drew ?_ | refine blk_alloc ?_ _));refine blk_put (cs:=#[.slice none 0 0,.slice none 0 0]) ?_ 0 _ rfl;(with_reducible repeat (first | refine blk_drewN ?_ _ | refine blk_drew ?_ | refine blk_alloc ?_ _));exact BK183.out) NB183_0.out (by simp));have n2_:=Aside0.mk (KeepBut.trans (by repeat (first | (with_reducible first | exact HK.out | apply KeepBut.set_ | apply keep_drewN | apply keep_drew | apply keep_alloc | refine keep_far ?_ GW182.out _ | refine keep_far ?_ GW183.out _) | exact HK.out)) hk (.inl rfl));have n3_:=Aside0.mk (hb);have n4_:=Aside0.mk (hi);clear BK182;clear BK183;clear HK;clear HB;clear HI0;have BK182:=n0_;have BK183:=n1_;have HK:=n2_;have HB:=n3_;have HI0:=n4_;clear n0_ n1_ n2_ n3_ n4_;(try clear hb);(try clear hb2);(try clear hk);(try clear hi)))
 generalize wrap64 (1 + t184) = jn_ at H' ⊢
 go_loopg [5] k (fun kq v5 w'=>∃ (x5_1:Int) (x1001_1:Int) (x184000_1:List Int) (x184001_1:List (List Int)) (u184000:Value) (u184001:Value),v5 = .int .i64 x5_1∧Aside0 (spec_l92Chances.l0 kq jn_ x5_1 s0_0 x1001_1 x184000_1 x184001_1 = some (r1,r2,r3))∧Aside0 (kq ≤ k)∧Aside0 (Kd.R (Kd.int .i64) 3 w' w.heap.size (fun _=>True) u184000 x184000_1)∧Aside0 (Kd.S (Kd.slice 3 (Kd.int .i64)) 22 w' w.heap.size (fun k_=>some k_ ≠ (u184000:Value).ownBlock) u184001 x184001_1)∧Aside0 (w'.heap[gb182]? = some (.cells #[(.slice none 0 0),(.slice none 0 0)] 28 (0,0)))∧Aside0 (w'.heap[gb183]? = some (.cells #[u184000,u184001] 28 (0,0)))∧Aside0 (IsS67 w0 w' g s0_0 x1001_1)∧Aside0 (KeepBut w w' g none)∧Aside0 (Below w0.heap.size w0 w'))
 case atStart=>exact ⟨(0),(t185),(([]:List Int)),(([]:List (List Int))),(.slice none 0 0),(.slice none 0 0),(by first | rfl | (simp;done) | (simp [*];done)),H',⟨Nat.le_refl _⟩,⟨by first | exact Kd.R_nil _ _ _ _ _ | exact Kd.N_nil _ _ _ _ _ | exact Kd.V_nil _ _ _ _ _ | exact Kd.Q_nil _ _ _ _ _ | exact Kd.S_nil _ _ _ _ _⟩,⟨by first | exact Kd.S_nil _ _ _ _ _ | exact Kd.N_nil _ _ _ _ _ | exact Kd.V_nil _ _ _ _ _ | exact Kd.Q_nil _ _ _ _ _ | exact Kd.R_nil _ _ _ _ _⟩,⟨by exact BK182.out⟩,⟨by exact BK183.out⟩,⟨by repeat (with_reducible first | exact HI0.out | apply IsS67.alloc | apply IsS67.drewN | apply IsS67.drew | apply IsS67.set_1 | refine IsS67.far ?_ NB0_182.out _ | refine IsS67.far ?_ NB0_183.out _)⟩,⟨by repeat (with_reducible first | exact HK.out | apply KeepBut.set_ | apply keep_drewN | apply keep_drew | apply keep_alloc | refine keep_far ?_ GW182.out _ | refine keep_far ?_ GW183.out _)⟩,⟨by repeat (with_reducible first | exact HB.out | apply below_alloc | apply pw_below_drewN | apply below_drew1 | refine below_set ?_ (IsS67.ge HI0.out) | refine below_set ?_ GE182.out | refine below_set ?_ GE183.out)⟩⟩
 case round =>
  clear H'
  try clear p2
  try clear c4
  try clear c5
  try clear c6
  try clear p6
  try clear hcz7_0
  try clear hcz7_1
  try clear hfz7_0
  try clear hfz7_1
  obtain ⟨x5_1,x1001_1,x184000_1,x184001_1,u184000,u184001,rfl,HA,HK1,HO_184000,HO_184001,BK182,BK183,HI0,HK,HB⟩:=hrel
  cases gk with
  | zero=>exact absurd HA.out (by simp [spec_l92Chances.l0])
  | succ k1 =>
   have H:=HA.out
   clear HA
   simp only [spec_l92Chances.l0] at H
   by_cases c9:x5_1 < jn_
   ·rw [if_pos c9] at H
    have c9b0:decide (x5_1 < jn_) = true:=decide_eq_true c9
    clear c9
    replace H:=Option.bind_eq_some_iff.mp H
    obtain ⟨⟨t186,t187⟩,A100,H⟩:=H
    replace H:(if x184000_1.length < 17592186044416 then (if 0 ≤ jn_ then (if (jn_:Int).toNat ≤ 35184372088832 then (spec_l92Chances.l1 k1 jn_ x5_1 (List.replicate (jn_:Int).toNat 0) 0 s0_0 t187 (x184000_1 ++ [t186]) x184001_1) else (none)) else (none)) else (none)) = some (r1,r2,r3):=H
    have A10:=Aside0.mk A100
    clear A100
    by_cases c11:x184000_1.length < 17592186044416
    ·rw [if_pos c11] at H
     have LMc11:=Aside0.mk c11
     clear c11
     obtain ⟨y188,hy188⟩:∃ y_:List Int,y_ = (x184000_1 ++ [t186]):=⟨_,rfl⟩
     replace H:(if 0 ≤ jn_ then (if (jn_:Int).toNat ≤ 35184372088832 then (spec_l92Chances.l1 k1 jn_ x5_1 (List.replicate (jn_:Int).toNat 0) 0 s0_0 t187 y188 x184001_1) else (none)) else (none)) = some (r1,r2,r3):=by rw [hy188];exact H
     have Ny188:=Aside0.mk hy188
     clear hy188
     by_cases c13:0 ≤ (jn_)
     ·rw [if_pos c13] at H
      have c13b0:=eq_true c13
      have c13b1:decide (0 ≤ (jn_)) = true:=decide_eq_true c13
      clear c13
      by_cases c14:((jn_):Int).toNat ≤ 35184372088832
      ·rw [if_pos c14] at H
       have c14b0:=eq_true c14
       have c14b1:decide (((jn_):Int).toNat ≤ 35184372088832) = true:=decide_eq_true c14
       clear c14
       obtain ⟨y191,hy191⟩:∃ y_:List Int,y_ = (List.replicate ((jn_):Int).toNat 0):=⟨_,rfl⟩
       replace H:(spec_l92Chances.l1 k1 (jn_) x5_1 y191 0 s0_0 t187 y188 x184001_1) = some (r1,r2,r3):=by rw [hy191];exact H
       have Ny191:=Aside0.mk hy191
       clear hy191
       have H':=Aside0.mk H
       clear H
       try go_wp2
       have n0_:=Aside0.mk (Kd.R_drew HO_184000.out)
       have n1_:=Aside0.mk (Kd.S_drew HO_184001.out)
       have n2_:=Aside0.mk (blk_drew BK182.out)
       have n3_:=Aside0.mk (blk_drew BK183.out)
       have n4_:=Aside0.mk (IsS67.drew HI0.out)
       have n5_:=Aside0.mk (keep_drew HK.out)
       have n6_:=Aside0.mk (below_drew1 HB.out)
       clear HO_184000
       clear HO_184001
       clear BK182
       clear BK183
       clear HI0
       clear HK
       clear HB
       have HO_184000:=n0_
       have HO_184001:=n1_
       have BK182:=n2_
       have BK183:=n3_
       have HI0:=n4_
       have HK:=n5_
       have HB:=n6_
       clear n0_ n1_ n2_ n3_ n4_ n5_ n6_
       refine start_ (n:=8) (S:=fun w'=>w'.cell? ⟨gb183,0,none⟩ = some (u184000)∧w'.cell? ⟨gb183,1,none⟩ = some (u184001)) (ds:=[7]) #[false,false,false,false,false,false,false,false] (by kernel_rfl) rfl rfl ⟨(blk_cell BK183.out 0).trans rfl,(blk_cell BK183.out 1).trans rfl⟩ (fun hHeld=>?_);refine with_tabW spec_l92Chances.tab6 spec_l92Chances.bits6 (fun HT_ HW_=>?_)
       generalize wr.drew = w15 at HO_184000 HO_184001 BK182 BK183 HI0 HK HB hHeld ⊢
       refine pure_ (i:=0) (N:=some 17) (v:=?_) (a':=?_) #[true,false,false,false,false,false,false,false] rfl rfl (any_of HT_.out (by kernel_rfl)) (fun _ _ _ h=>h) (Or.inl ⟨by rfl,?_⟩) ?_ ?_
       rotate_left;·intro w';go_simp;with_reducible rfl
       rotate_left;·simp only [Act.put,List.setIfInBounds_toArray,List.set_cons_zero,List.set_cons_succ,i64_w,i32_w];rfl
       refine pure_ (i:=2) (N:=some 19) (v:=?_) (a':=?_) #[true,false,true,false,false,false,false,false] rfl rfl (any_of HT_.out (by kernel_rfl)) (fun _ _ _ h=>h) (Or.inl ⟨by rfl,?_⟩) ?_ ?_
       rotate_left;·intro w';go_simp;with_reducible rfl
       rotate_left;·simp only [Act.put,List.setIfInBounds_toArray,List.set_cons_zero,List.set_cons_succ,i64_w,i32_w];rfl
       refine take_ (i:=1) (N:=some 18) (v:=?_) (a':=?_) #[true,true,true,false,false,false,false,false] rfl rfl (take_ofW HT_.out HW_.out (by kernel_rfl)) (fun _ _ _ h=>h) (Or.inl ⟨by rfl,?_⟩) hHeld ?_ ?_
       rotate_left;·rintro w' ⟨s0,s1⟩;go_simp;with_reducible rfl
       rotate_left;·simp only [Act.put,List.setIfInBounds_toArray,List.set_cons_zero,List.set_cons_succ,i64_w,i32_w];rfl
       refine one_ (i:=3) (N:=some 20) #[true,true,true,true,false,false,false,false] rfl rfl (one_of HT_.out (by kernel_rfl)) (by decide) (fun K hK=>?_)
       refine goes_ Try.func48 (by kernel_rfl) rfl #[.pointer (some ⟨g,0,none⟩),.int .i64 2] (by rfl) rfl rfl (by (try simp only [List.map_toArray,List.map_cons,List.map_nil]);first | done | rfl | (simp only [List.length_drop,List.length_take];rfl)) ?_
       with_reducible refine (spec_l6Rd_pick.calls k1 g s0_0 x1001_1 2 t186 t187 w0 _ ?side1 ?side2 A10.out).mono ?_
       (case side1=>repeat (with_reducible first | exact HI0.out | apply IsS67.alloc | apply IsS67.drewN | apply IsS67.drew | apply IsS67.set_1 | refine IsS67.far ?_ NB0_182.out _ | refine IsS67.far ?_ NB0_183.out _))
       (case side2=>repeat (with_reducible first | exact HB.out | apply below_alloc | apply pw_below_drewN | apply below_drew1 | refine below_set ?_ (IsS67.ge HI0.out) | refine below_set ?_ GE182.out | refine below_set ?_ GE183.out))
       rintro e w16 ⟨rfl,hi,hb,hk⟩
       refine ⟨_,rfl,?_⟩
       have n0_:=Aside0.mk (Kd.R_mono (Kd.R_keep (IsS67.apart (show IsS67 w0 _ g s0_0 x1001_1 from by repeat (with_reducible first | exact HI0.out | apply IsS67.alloc | apply IsS67.drewN | apply IsS67.drew | apply IsS67.set_1 | refine IsS67.far ?_ NB0_182.out _ | refine IsS67.far ?_ NB0_183.out _)) (by exact HO_184000.out) (by decide)) hk (fun _ h=>h.2)) (fun _ h=>h.1))
       have n1_:=Aside0.mk (Kd.S_mono (Kd.S_keep (IsS67.apartS (show IsS67 w0 _ g s0_0 x1001_1 from by repeat (with_reducible first | exact HI0.out | apply IsS67.alloc | apply IsS67.drewN | apply IsS67.drew | apply IsS67.set_1 | refine IsS67.far ?_ NB0_182.out _ | refine IsS67.far ?_ NB0_183.out _)) (by exact HO_184001.out) (by decide)) hk (fun _ h=>h.2)) (fun _ h=>h.1))
       have n2_:=Aside0.mk (KeepBut.blk hk (g':=gb182) (o:=.cells #[.slice none 0 0,.slice none 0 0] 28 (0,0)) (by exact BK182.out) NB182_0.out (by simp))
       have n3_:=Aside0.mk (KeepBut.blk hk (g':=gb183) (o:=.cells #[u184000,u184001] 28 (0,0)) (by exact BK183.out) NB183_0.out (by simp))
       have n4_:=Aside0.mk (KeepBut.trans (by repeat (with_reducible first | exact HK.out | apply KeepBut.set_ | apply keep_drewN | apply keep_drew | apply keep_alloc | refine keep_far ?_ GW182.out _ | refine keep_far ?_ GW183.out _)) hk (.inl rfl))
       have n5_:=Aside0.mk (hb)
       have n6_:=Aside0.mk (hi)
       clear HO_184000
       clear HO_184001
       clear BK182
       clear BK183
       clear HK
       clear HB
       clear HI0
       have HO_184000:=n0_
       have HO_184001:=n1_
       have BK182:=n2_
       have BK183:=n3_
       have HK:=n4_
       have HB:=n5_
       have HI0:=n6_
       clear n0_ n1_ n2_ n3_ n4_ n5_ n6_
       (try clear hb)
       (try clear hb2)
       (try clear hk)
       (try clear hi)
       refine hK.out _ _ ⟨(blk_cell BK183.out 0).trans rfl,(blk_cell BK183.out 1).trans rfl⟩ (fun hHeld=>?_)
       clear hK K
       refine norm_ (a':=?_) ?_ ?_
       rotate_left
       ·show Act.put _ (some 20) _ = _
        simp only [Act.put,List.setIfInBounds_toArray,List.set_cons_zero,List.set_cons_succ,i64_w,i32_w]
        rfl
       refine one_ (i:=4) (N:=some 21) #[true,true,true,true,true,false,false,false] rfl rfl (one_of HT_.out (by kernel_rfl)) (by decide) (fun K hK=>?_)
       refine value_ (w1:=?_) (v:=?_) (by rfl) rfl ?_ ?_
       rotate_left 2
       ·go_simp
        constructor
        ·rfl
        ·rfl
       refine hK.out _ _ ⟨(blk_cell (blk_alloc BK183.out _) 0).trans rfl,(blk_cell (blk_alloc BK183.out _) 1).trans rfl⟩ (fun hHeld=>?_)
       clear hK K
       refine norm_ (a':=?_) ?_ ?_
       rotate_left
       ·show Act.put _ (some 21) _ = _
        simp only [Act.put,List.setIfInBounds_toArray,List.set_cons_zero,List.set_cons_succ,i64_w,i32_w]
        rfl
       refine one_ (i:=5) (N:=some 22) #[true,true,true,true,true,true,false,false] rfl rfl (one_of HT_.out (by kernel_rfl)) (by decide) (fun K hK=>?_)
       refine Kd.R_append_step (Kd.int .i64) w.heap.size (by rfl) (.tmp 18) (.tmp 21) 22 3 (.int .i64 0) 8 rfl Try.underlying22 info3 rfl (by decide) (by omega) u184000 x184000_1 t186 [.int .i64 t186] (fun _=>True) (fun _=>False) rfl rfl ?aP (fun _ hk=>hk.elim) ?aF ?aO (Below.refl _ _) ?aS ?aL ?_
       (case aP=>exact rfl)
       (case aF=>exact (fun _ _=>trivial))
       (case aO=>exact (by exact HO_184000.out))
       (case aS=>exact (keep_size (w:=w) (g:=g) (row:=none) (by repeat (with_reducible first | exact HK.out | apply KeepBut.set_ | apply keep_drewN | apply keep_drew | apply keep_alloc | refine keep_far ?_ GW182.out _ | refine keep_far ?_ GW183.out _))))
       (case aL=>have:=LMc11.out;omega)
       intro v189 w17 ho hb hg hat
       rw [← Ny188.out] at ho
       have n0_:=Aside0.mk (Kd.S_after (ok:=(fun _=>True)) (by exact Kd.S_mono HO_184001.out (fun _ hk=>⟨trivial,hk⟩)) hg hat)
       have n1_:=Aside0.mk (blk_grown (g:=gb182) (o:=.cells #[.slice none 0 0,.slice none 0 0] 28 (0,0)) (by exact BK182.out) hg (Kd.R_ne HO_184000.out BK182.out (by decide)))
       have n2_:=Aside0.mk (blk_grown (g:=gb183) (o:=.cells #[u184000,u184001] 28 (0,0)) (by exact BK183.out) hg (Kd.R_ne HO_184000.out BK183.out (by decide)))
       have n3_:=Aside0.mk (IsS67.grown (by repeat (with_reducible first | exact HI0.out | apply IsS67.alloc | apply IsS67.drewN | apply IsS67.drew | apply IsS67.set_1 | refine IsS67.far ?_ NB0_182.out _ | refine IsS67.far ?_ NB0_183.out _)) hg (IsS67.own_ne HI0.out HO_184000.out (by decide)))
       have n4_:=Aside0.mk (below_weaken (by repeat (with_reducible first | exact HB.out | apply below_alloc | apply pw_below_drewN | apply below_drew1 | refine below_set ?_ (IsS67.ge HI0.out) | refine below_set ?_ GE182.out | refine below_set ?_ GE183.out)) HL.out hb)
       have n5_:=Aside0.mk (KeepBut.trans (by repeat (with_reducible first | exact HK.out | apply KeepBut.set_ | apply keep_drewN | apply keep_drew | apply keep_alloc | refine keep_far ?_ GW182.out _ | refine keep_far ?_ GW183.out _)) (KeepBut.of_grown hg g) (Kd.R_base2 HO_184000.out))
       have n6_:=Aside0.mk (ho)
       clear HO_184001
       clear BK182
       clear BK183
       clear HI0
       clear HB
       clear HK
       clear HO_184000
       have HO_184001:=n0_
       have BK182:=n1_
       have BK183:=n2_
       have HI0:=n3_
       have HB:=n4_
       have HK:=n5_
       have HO190:=n6_
       clear n0_ n1_ n2_ n3_ n4_ n5_ n6_
       clear ho hb hg hat
       obtain ⟨Ao18,co18,eo18⟩:=Kd.R_slice HO190.out
       (first | subst eo18 | (injection eo18 with f1_ f2_ f3_;have f4_:=f1_.symm;have f5_:=f3_.symm;clear f1_ f2_ f3_;subst f4_;subst f5_))
       refine hK.out _ _ ⟨(blk_cell BK183.out 0).trans rfl,(blk_cell BK183.out 1).trans rfl⟩ (fun hHeld=>?_)
       clear hK K
       refine norm_ (a':=?_) ?_ ?_
       rotate_left
       ·show Act.put _ (some 22) _ = _
        simp only [Act.put,List.setIfInBounds_toArray,List.set_cons_zero,List.set_cons_succ,i64_w,i32_w]
        rfl
       refine pure_ (i:=6) (N:=some 23) (v:=?_) (a':=?_) #[true,true,true,true,true,true,true,false] rfl rfl (any_of HT_.out (by kernel_rfl)) (fun _ _ _ h=>h) (Or.inl ⟨by rfl,?_⟩) ?_ ?_
       rotate_left;·intro w';go_simp;with_reducible rfl
       rotate_left;·simp only [Act.put,List.setIfInBounds_toArray,List.set_cons_zero,List.set_cons_succ,i64_w,i32_w];rfl
       refine last_ (i:=7) (N:=none) #[true,true,true,true,true,true,true,true] rfl rfl (one_of HT_.out (by kernel_rfl)) (by decide) (fun K hK=>?_)
       have hs19:w17.cell? ⟨gb183,0,none⟩ = some (u184000):=(blk_cell BK183.out 0).trans rfl
       have hfs19:=blk_frozen BK183.out 0
       have hns19_0:=NB182_183.out
       have hms19_0:=NB183_182.out
       refine skip_ (w1:=?_) (by rfl) rfl ?_ ?_
       rotate_left
       ·go_simp
        rfl
       refine hK.out _ _ ?_
       clear hK K
       refine done_ (done_of HT_.out (by kernel_rfl)) ?_
       try go_wp2_with (first | ((with_reducible refine gate_dst (N:=25) rfl ?_);refine Kd.R_make (Kd.int .i64) _ 3 rfl (N:=25) rfl 22 _ _ rfl (jn_) rfl rfl Try.underlying22 (.int .i64 0) 8 info3 rfl (by decide) (by omega) 0 (ok:=fun _=>True) (okp:=fun _=>True) rfl (fun _ hk=>hk) trivial (of_decide_eq_true (by assumption)) (Nat.le_trans (Nat.mul_le_mul_right _ (of_decide_eq_true (by assumption):(jn_).toNat ≤ 35184372088832)) (by omega)) (Below.refl _ _) (Nat.le_refl _) ?_;intro v192 w20 ho21 hb hg_ hnew_;clear hg_ hnew_;(first | rw [← Ny191.out] at ho21 | (simp only [Int.reduceToNat] at ho21;rw [← Ny191.out] at ho21));have n0_:=Aside0.mk (Kd.S_elder' (by exact (Kd.S_mono (Kd.S_far (p:=⟨gb183,0,none⟩) (Kd.S_types HO_184001.out BK183.out (by decide)) (fun _ hk=>hk.2) (.slice Ao18 y188.length co18)) (fun _ h_=>h_.1))) (Kd.R_base ho21) hb);have n1_:=Aside0.mk (Kd.R_elder' (by exact (Kd.R_mono (Kd.R_far (p:=⟨gb183,0,none⟩) (Kd.R_types HO190.out BK183.out (by decide)) (fun _ hk=>hk.2) (.slice Ao18 y188.length co18)) (fun _ h_=>h_.1))) (Kd.R_base ho21) hb);have n2_:=Aside0.mk (Kd.R_lower (Kd.R_new' ho21 (Kd.R_lt (by exact (Kd.R_mono (Kd.R_far (p:=⟨gb183,0,none⟩) (Kd.R_types HO190.out BK183.out (by decide)) (fun _ hk=>hk.2) (.slice Ao18 y188.length co18)) (fun _ h_=>h_.1))))) (keep_size (w:=w) (g:=g) (row:=none) (by repeat (with_reducible first | exact HK.out | apply KeepBut.set_ | apply keep_drewN | apply keep_drew | apply keep_alloc | refine keep_far ?_ GW182.out _ | refine keep_far ?_ GW183.out _))));have n3_:=Aside0.mk (blk_below (g:=gb182) (o:=.cells #[.slice none 0 0,.slice none 0 0] 28 (0,0)) (by refine blk_far ?_ NB182_183.out _;exact BK182.out) hb);have n4_:=Aside0.mk (blk_below (g:=gb183) (o:=.cells #[.slice Ao18 y188.length co18,u184001] 28 (0,0)) (by refine blk_put (cs:=#[u184000,u184001]) ?_ 0 _ rfl;exact BK183.out) hb);have n5_:=Aside0.mk (IsS67.below (show IsS67 w0 (w17.setCell ⟨gb183,0,none⟩ (.slice Ao18 y188.length co18)) g s0_0 t187 from by repeat (with_reducible first | exact HI0.out | apply IsS67.alloc | apply IsS67.drewN | apply IsS67.drew | apply IsS67.set_1 | refine IsS67.far ?_ NB0_182.out _ | refine IsS67.far ?_ NB0_183.out _)) hb);have n6_:=Aside0.mk (KeepBut.trans (by repeat (with_reducible first | exact HK.out | apply KeepBut.set_ | apply keep_drewN | apply keep_drew | apply keep_alloc | refine keep_far ?_ GW182.out _ | refine keep_far ?_ GW183.out _)) (KeepBut.of_below hb g none) (.inl rfl));have n7_:=Aside0.mk (below_step (by repeat (with_reducible first | exact HB.out | apply below_alloc | apply pw_below_drewN | apply below_drew1 | refine below_set ?_ (IsS67.ge HI0.out) | refine below_set ?_ GE182.out | refine below_set ?_ GE183.out)) hb);clear HO_184001;clear HO190;clear BK182;clear BK183;clear HI0;clear HK;clear HB;have HO_184001:=n0_;have HO190:=n1_;have HO193:=n2_;have BK182:=n3_;have BK183:=n4_;have HI0:=n5_;have HK:=n6_;have HB:=n7_;clear n0_ n1_ n2_ n3_ n4_ n5_ n6_ n7_;clear hb ho21))
       go_loopg [7] k1 (fun kq v7 w'=>∃ (x6_2:List Int) (x7_2:Int) (x1001_2:Int),v7 = .int .i64 x7_2∧Aside0 (spec_l92Chances.l1 kq (jn_) x5_1 x6_2 x7_2 s0_0 x1001_2 y188 x184001_1 = some (r1,r2,r3))∧Aside0 (kq ≤ k1)∧Aside0 (Kd.R (Kd.int .i64) 3 w' w.heap.size (fun k_=>some k_ ≠ ((.slice Ao18 y188.length co18):Value).ownBlock) v192 x6_2)∧Aside0 (Kd.R (Kd.int .i64) 3 w' w.heap.size (fun k_=>some k_ ≠ (v192:Value).ownBlock) (.slice Ao18 y188.length co18) y188)∧Aside0 (Kd.S (Kd.slice 3 (Kd.int .i64)) 22 w' w.heap.size (fun k_=>some k_ ≠ (v192:Value).ownBlock∧some k_ ≠ ((.slice Ao18 y188.length co18):Value).ownBlock) u184001 x184001_1)∧Aside0 (w'.heap[gb182]? = some (.cells #[(.slice none 0 0),(.slice none 0 0)] 28 (0,0)))∧Aside0 (w'.heap[gb183]? = some (.cells #[(.slice Ao18 y188.length co18),u184001] 28 (0,0)))∧Aside0 (IsS67 w0 w' g s0_0 x1001_2)∧Aside0 (KeepBut w w' g none)∧Aside0 (Below w0.heap.size w0 w'))
       case atStart=>exact ⟨(y191),(0),(t187),(by first | rfl | (simp;done) | (simp [*];done)),H',⟨Nat.le_refl _⟩,⟨by exact Kd.R_mono HO193.out (fun _ hk=>hk.2)⟩,⟨by exact Kd.R_mono HO190.out (fun _ hk=>hk.2)⟩,⟨by exact Kd.S_mono HO_184001.out (fun _ hk=>⟨hk.2,hk.1.2⟩)⟩,⟨by exact BK182.out⟩,⟨by exact BK183.out⟩,⟨by repeat (with_reducible first | exact HI0.out | apply IsS67.alloc | apply IsS67.drewN | apply IsS67.drew | apply IsS67.set_1 | refine IsS67.far ?_ NB0_182.out _ | refine IsS67.far ?_ NB0_183.out _)⟩,⟨by repeat (with_reducible first | exact HK.out | apply KeepBut.set_ | apply keep_drewN | apply keep_drew | apply keep_alloc | refine keep_far ?_ GW182.out _ | refine keep_far ?_ GW183.out _)⟩,⟨by repeat (with_reducible first | exact HB.out | apply below_alloc | apply pw_below_drewN | apply below_drew1 | refine below_set ?_ (IsS67.ge HI0.out) | refine below_set ?_ GE182.out | refine below_set ?_ GE183.out)⟩⟩
       case round =>
        clear H'
        try clear c1
        try clear p2
        try clear c4
        try clear c5
        try clear c6
        try clear p6
        try clear c9
        try clear c9b0
        try clear c11
        try clear c13
        try clear c13b0
        try clear c13b1
        try clear c14
        try clear c14b0
        try clear c14b1
        try clear hcz7_0
        try clear hcz7_1
        try clear hfz7_0
        try clear hfz7_1
        try clear p2
        try clear p6
        obtain ⟨x6_2,x7_2,x1001_2,rfl,HA,HK2,HO_6,HO_184000,HO_184001,BK182,BK183,HI0,HK,HB⟩:=hrel
        cases gk with
        | zero=>exact absurd HA.out (by simp [spec_l92Chances.l1])
        | succ k2 =>
         have H:=HA.out
         clear HA
         simp only [spec_l92Chances.l1] at H
         by_cases c22:x7_2 < 6
         ·rw [if_pos c22] at H
          have c22b0:decide (x7_2 < 6) = true:=decide_eq_true c22
          clear c22
          replace H:=Option.bind_eq_some_iff.mp H
          obtain ⟨⟨t194,t195⟩,A230,H⟩:=H
          replace H:(if 0 ≤ t194 then (if t194 < (x6_2.length:Int) then (spec_l92Chances.l1 k2 (jn_) x5_1 (x6_2.set (t194:Int).toNat (wrap64 ((rd x6_2 t194) + 2))) (wrap64 (x7_2 + 2)) s0_0 t195 y188 x184001_1) else (none)) else (none)) = some (r1,r2,r3):=H
          have A23:=Aside0.mk A230
          clear A230
          by_cases c24:0 ≤ t194
          ·rw [if_pos c24] at H
           have c24b0:decide (0 ≤ t194) = true:=decide_eq_true c24
           clear c24
           by_cases c25:t194 < (x6_2.length:Int)
           ·rw [if_pos c25] at H
            have c25b0:decide (t194 < (x6_2.length:Int)) = true:=decide_eq_true c25
            clear c25
            obtain ⟨y197,hy197⟩:∃ y_:List Int,y_ = (x6_2.set (t194:Int).toNat (wrap64 ((rd x6_2 t194) + 2))):=⟨_,rfl⟩
            replace H:(spec_l92Chances.l1 k2 (jn_) x5_1 y197 (wrap64 (x7_2 + 2)) s0_0 t195 y188 x184001_1) = some (r1,r2,r3):=by rw [hy197];exact H
            have Ny197:=Aside0.mk hy197
            clear hy197
            have H':=Aside0.mk H
            clear H
            go_wp2_with (first | ((with_reducible refine gate_callee (f:=48) rfl ?_);refine goesL_ (some 33) rfl rfl Try.func48 (by kernel_rfl) rfl #[.pointer (some ⟨g,0,none⟩),.int .i64 (jn_)] rfl (by (try simp only [List.map_toArray,List.map_cons,List.map_nil]);first | done | rfl | (simp only [List.length_drop,List.length_take];rfl)) ?_;(with_reducible refine (spec_l6Rd_pick.calls k2 g s0_0 x1001_2 (jn_) t194 t195 w0 _ ?side1 ?side2 A23.out).mono ?_);(case side1=>repeat (with_reducible first | exact HI0.out | apply IsS67.alloc | apply IsS67.drewN | apply IsS67.drew | apply IsS67.set_1 | refine IsS67.far ?_ NB0_182.out _ | refine IsS67.far ?_ NB0_183.out _));(case side2=>repeat (with_reducible first | exact HB.out | apply below_alloc | apply pw_below_drewN | apply below_drew1 | refine below_set ?_ (IsS67.ge HI0.out) | refine below_set ?_ GE182.out | refine below_set ?_ GE183.out));rintro e w27 ⟨rfl,hi,hb,hk⟩;refine ⟨_,rfl,?_⟩;have n0_:=Aside0.mk (Kd.R_mono (Kd.R_keep (IsS67.apart (show IsS67 w0 _ g s0_0 x1001_2 from by repeat (with_reducible first | exact HI0.out | apply IsS67.alloc | apply IsS67.drewN | apply IsS67.drew | apply IsS67.set_1 | refine IsS67.far ?_ NB0_182.out _ | refine IsS67.far ?_ NB0_183.out _)) (by exact HO_6.out) (by decide)) hk (fun _ h=>h.2)) (fun _ h=>h.1));have n1_:=Aside0.mk (Kd.R_mono (Kd.R_keep (IsS67.apart (show IsS67 w0 _ g s0_0 x1001_2 from by repeat (with_reducible first | exact HI0.out | apply IsS67.alloc | apply IsS67.drewN | apply IsS67.drew | apply IsS67.set_1 | refine IsS67.far ?_ NB0_182.out _ | refine IsS67.far ?_ NB0_183.out _)) (by exact HO_184000.out) (by decide)) hk (fun _ h=>h.2)) (fun _ h=>h.1));have n2_:=Aside0.mk (Kd.S_mono (Kd.S_keep (IsS67.apartS (show IsS67 w0 _ g s0_0 x1001_2 from by repeat (with_reducible first | exact HI0.out | apply IsS67.alloc | apply IsS67.drewN | apply IsS67.drew | apply IsS67.set_1 | refine IsS67.far ?_ NB0_182.out _ | refine IsS67.far ?_ NB0_183.out _)) (by exact HO_184001.out) (by decide)) hk (fun _ h=>h.2)) (fun _ h=>h.1));have n3_:=Aside0.mk (KeepBut.blk hk (g':=gb182) (o:=.cells #[.slice none 0 0,.slice none 0 0] 28 (0,0)) (by exact BK182.out) NB182_0.out (by simp));have n4_:=Aside0.mk (KeepBut.blk hk (g':=gb183) (o:=.cells #[.slice Ao18 y188.length co18,u184001] 28 (0,0)) (by exact BK183.out) NB183_0.out (by simp));have n5_:=Aside0.mk (KeepBut.trans (by repeat (with_reducible first | exact HK.out | apply KeepBut.set_ | apply keep_drewN | apply keep_drew | apply keep_alloc | refine keep_far ?_ GW182.out _ | refine keep_far ?_ GW183.out _)) hk (.inl rfl));have n6_:=Aside0.mk (hb);have n7_:=Aside0.mk (hi);clear HO_6;clear HO_184000;clear HO_184001;clear BK182;clear BK183;clear HK;clear HB;clear HI0;have HO_6:=n0_;have HO_184000:=n1_;have HO_184001:=n2_;have BK182:=n3_;have BK183:=n4_;have HK:=n5_;have HB:=n6_;have HI0:=n7_;clear n0_ n1_ n2_ n3_ n4_ n5_ n6_ n7_;(try clear hb);(try clear hb2);(try clear hk);(try clear hi);obtain ⟨Ao28,co28,eo28⟩:=Kd.R_slice HO_6.out;subst eo28;have p196:0 ≤ (t194:Int):=of_decide_eq_true (by assumption);have q196:t194 < (x6_2.length:Int):=of_decide_eq_true (by assumption);obtain ⟨ad196,e196,hx196_0⟩:=Kd.at_int (Kd.R_reads' HO_6.out).2.2 t194 p196 q196;cases e196;replace p196:=eq_true p196;replace q196:=eq_true q196;have p26:0 ≤ (t194:Int):=of_decide_eq_true (by assumption);have q26:(t194:Int) < ((x6_2.length:Int):Int):=of_decide_eq_true (by assumption);obtain ⟨go26,co26,eo26,gb26,gl26,cl26,HG26⟩:=Kd.R_form HO_6.out (by omega);(first | cases eo26 | (injection eo26 with ea_ en_ ec_;(first | subst ea_ | (injection ea_ with ea_;subst ea_));subst ec_;clear en_));have GB26:=Aside0.mk gb26;have GG26:=Aside0.mk HG26;clear gb26 gl26 HG26;(first | simp only [add_plain] at hx196_0 | skip);obtain ⟨hx26_0,hf26_0⟩:=Kd.R_celln 0 HO_6.out (t194:Int) p26 q26;replace p26:=eq_true p26;replace q26:=eq_true q26;obtain ⟨hy29_,hz29_⟩:=Kd.R_celln 0 HO_6.out (t194:Int) (of_decide_eq_true (by assumption)) (of_decide_eq_true (by assumption));have HP29:=Kd.R_putg HO_6.out (t194:Int) (wrap64 ((rd x6_2 t194) + 2))) | ((with_reducible refine gate_store (t:=3) (p:=37) rfl ?_);refine store_event (t:=3) (p:=37) (v:=?vo_w30) (w1:=(w27.setCell ⟨go26,(t194:Int).toNat,none⟩ (.int .i64 (wrap64 ((rd x6_2 t194) + 2))))) ?hg ?ho ?hn ?hr ?_;(case ho=>rfl);(case hg=>rfl);(case hn=>rfl);(case hr=>first | (go_simp;done) | (go_simp;rfl));intro w30 hw;have hg:w27.grownBy w30 (some go26):=(by rw [hw];exact HP29.2);have hp_:Kd.R (Kd.int .i64) 3 w30 w.heap.size (fun k_=>some k_ ≠ (.slice Ao18 y188.length co18:Value).ownBlock) (.slice (some ⟨go26,0,none⟩) x6_2.length co28) y197:=(by rw [hw,Ny197.out];exact HP29.1);clear HP29;have n0_:=Aside0.mk (hp_);have n1_:=Aside0.mk (Kd.R_after (v:=(.slice (some ⟨go26,0,none⟩) x6_2.length co28)) (v1:=(.slice (some ⟨go26,0,none⟩) x6_2.length co28)) (ok:=(fun _=>True)) (by exact Kd.R_mono HO_184000.out (fun _ hk=>⟨trivial,hk⟩)) hg (.inl rfl));have n2_:=Aside0.mk (Kd.S_after (v:=(.slice (some ⟨go26,0,none⟩) x6_2.length co28)) (v1:=(.slice (some ⟨go26,0,none⟩) x6_2.length co28)) (ok:=(fun k_=>some k_ ≠ (.slice Ao18 y188.length co18:Value).ownBlock)) (by exact Kd.S_mono HO_184001.out (fun _ hk=>⟨hk.2,hk.1⟩)) hg (.inl rfl));have n3_:=Aside0.mk (blk_grown (g:=gb182) (o:=.cells #[.slice none 0 0,.slice none 0 0] 28 (0,0)) (by exact BK182.out) hg (Kd.R_ne HO_6.out BK182.out (by decide)));have n4_:=Aside0.mk (blk_grown (g:=gb183) (o:=.cells #[.slice Ao18 y188.length co18,u184001] 28 (0,0)) (by exact BK183.out) hg (Kd.R_ne HO_6.out BK183.out (by decide)));have n5_:=Aside0.mk (IsS67.grown (by repeat (with_reducible first | exact HI0.out | apply IsS67.alloc | apply IsS67.drewN | apply IsS67.drew | apply IsS67.set_1 | refine IsS67.far ?_ NB0_182.out _ | refine IsS67.far ?_ NB0_183.out _)) hg (IsS67.own_ne HI0.out HO_6.out (by decide)));have n6_:=Aside0.mk ((by rw [hw];exact below_set (HB.out) (Nat.le_trans HL.out GB26.out):Below w0.heap.size w0 w30));have n7_:=Aside0.mk (KeepBut.trans (by repeat (with_reducible first | exact HK.out | apply KeepBut.set_ | apply keep_drewN | apply keep_drew | apply keep_alloc | refine keep_far ?_ GW182.out _ | refine keep_far ?_ GW183.out _)) (KeepBut.of_grown hg g) (Kd.R_base2 HO_6.out));clear HO_6;clear HO_184000;clear HO_184001;clear BK182;clear BK183;clear HI0;clear HB;clear HK;have HO_6:=n0_;have HO_184000:=n1_;have HO_184001:=n2_;have BK182:=n3_;have BK183:=n4_;have HI0:=n5_;have HB:=n6_;have HK:=n7_;clear n0_ n1_ n2_ n3_ n4_ n5_ n6_ n7_;clear hg hw hp_))
            go_roundg k2
            case measure=>have:=HK1.out;have:=HK2.out;omega
            case rel=>exact ⟨(y197),(wrap64 (x7_2 + 2)),(t195),(by first | rfl | (simp;done) | (simp [*];done)),H',⟨by have:=HK1.out;have:=HK2.out;omega⟩,⟨by exact HO_6.out⟩,⟨by exact Kd.R_mono HO_184000.out (fun _ hk=>hk.2)⟩,⟨by exact Kd.S_mono HO_184001.out (fun _ hk=>⟨hk.2,hk.1⟩)⟩,⟨by exact BK182.out⟩,⟨by exact BK183.out⟩,⟨by repeat (with_reducible first | exact HI0.out | apply IsS67.alloc | apply IsS67.drewN | apply IsS67.drew | apply IsS67.set_1 | refine IsS67.far ?_ NB0_182.out _ | refine IsS67.far ?_ NB0_183.out _)⟩,⟨by repeat (with_reducible first | exact HK.out | apply KeepBut.set_ | apply keep_drewN | apply keep_drew | apply keep_alloc | refine keep_far ?_ GW182.out _ | refine keep_far ?_ GW183.out _)⟩,⟨by repeat (with_reducible first | exact HB.out | apply below_alloc | apply pw_below_drewN | apply below_drew1 | refine below_set ?_ (IsS67.ge HI0.out) | refine below_set ?_ GE182.out | refine below_set ?_ GE183.out)⟩⟩
           ·rw [if_neg c25] at H
            exact absurd H (by simp)
          ·rw [if_neg c24] at H
           exact absurd H (by simp)
         ·rw [if_neg c22] at H
          have c22b0:decide (x7_2 < 6) = false:=decide_eq_false c22
          clear c22
          replace H:=Option.bind_eq_some_iff.mp H
          obtain ⟨⟨t198,t199⟩,A310,H⟩:=H
          replace H:(if t198 = 0 then (if 0 ≤ (jn_) then (if ((jn_):Int).toNat ≤ 35184372088832 then ((some (List.replicate ((jn_):Int).toNat 0:List Int)).bind fun y200=>((spec_l6Rd_pick.f k2 s0_0 t199 (jn_)).bind fun bt203=>(if 0 ≤ bt203.1 then (if bt203.1 < (y200.length:Int) then (if x184001_1.length < 5864062014805 then (spec_l92Chances.l0 k2 (jn_) (wrap64 (x5_1 + 1)) s0_0 bt203.2 y188 (x184001_1 ++ [(y200.set (bt203.1:Int).toNat 6)])) else (none)) else (none)) else (none)))) else (none)) else (none)) else (if x184001_1.length < 5864062014805 then (spec_l92Chances.l0 k2 (jn_) (wrap64 (x5_1 + 1)) s0_0 t199 y188 (x184001_1 ++ [x6_2])) else (none))) = some (r1,r2,r3):=H
          have A31:=Aside0.mk A310
          clear A310
          by_cases c32:t198 = 0
          ·rw [if_pos c32] at H
           have c32b0:(t198 == 0) = true:=beq_iff_eq.mpr c32
           have c32b1:(t198 != 0) = false:=bne_eq_false_iff_eq.mpr c32
           clear c32
           by_cases c33:0 ≤ (jn_)
           ·rw [if_pos c33] at H
            have c33b0:=eq_true c33
            have c33b1:decide (0 ≤ (jn_)) = true:=decide_eq_true c33
            clear c33
            by_cases c34:((jn_):Int).toNat ≤ 35184372088832
            ·rw [if_pos c34] at H
             have c34b0:=eq_true c34
             have c34b1:decide (((jn_):Int).toNat ≤ 35184372088832) = true:=decide_eq_true c34
             clear c34
             obtain ⟨y200,hy200⟩:∃ y_:List Int,y_ = (List.replicate ((jn_):Int).toNat 0):=⟨_,rfl⟩
             replace H:((spec_l6Rd_pick.f k2 s0_0 t199 (jn_)).bind fun bt203=>(if 0 ≤ bt203.1 then (if bt203.1 < (y200.length:Int) then (if x184001_1.length < 5864062014805 then (spec_l92Chances.l0 k2 (jn_) (wrap64 (x5_1 + 1)) s0_0 bt203.2 y188 (x184001_1 ++ [(y200.set (bt203.1:Int).toNat 6)])) else (none)) else (none)) else (none))) = some (r1,r2,r3):=by rw [hy200];exact H
             have Ny200:=Aside0.mk hy200
             clear hy200
             replace H:=Option.bind_eq_some_iff.mp H
             obtain ⟨⟨t203,t204⟩,A350,H⟩:=H
             replace H:(if 0 ≤ t203 then (if t203 < (y200.length:Int) then (if x184001_1.length < 5864062014805 then (spec_l92Chances.l0 k2 (jn_) (wrap64 (x5_1 + 1)) s0_0 t204 y188 (x184001_1 ++ [(y200.set (t203:Int).toNat 6)])) else (none)) else (none)) else (none)) = some (r1,r2,r3):=H
             have A35:=Aside0.mk A350
             clear A350
             by_cases c36:0 ≤ t203
             ·rw [if_pos c36] at H
              have c36b0:decide (0 ≤ t203) = true:=decide_eq_true c36
              clear c36
              by_cases c37:t203 < (y200.length:Int)
              ·rw [if_pos c37] at H
               have c37b0:decide (t203 < (y200.length:Int)) = true:=decide_eq_true c37
               clear c37
               obtain ⟨y205,hy205⟩:∃ y_:List Int,y_ = (y200.set (t203:Int).toNat 6):=⟨_,rfl⟩
               replace H:(if x184001_1.length < 5864062014805 then (spec_l92Chances.l0 k2 (jn_) (wrap64 (x5_1 + 1)) s0_0 t204 y188 (x184001_1 ++ [y205])) else (none)) = some (r1,r2,r3):=by rw [hy205];exact H
               have Ny205:=Aside0.mk hy205
               clear hy205
               by_cases c39:x184001_1.length < 5864062014805
               ·rw [if_pos c39] at H
                have LMc39:=Aside0.mk c39
                clear c39
                obtain ⟨y206,hy206⟩:∃ y_:List (List Int),y_ = (x184001_1 ++ [y205]):=⟨_,rfl⟩
                replace H:(spec_l92Chances.l0 k2 (jn_) (wrap64 (x5_1 + 1)) s0_0 t204 y188 y206) = some (r1,r2,r3):=by rw [hy206];exact H
                have Ny206:=Aside0.mk hy206
                clear hy206
                have H':=Aside0.mk H
                clear H
                go_wp2_with (first | ((with_reducible refine gate_callee (f:=48) rfl ?_);refine goesL_ (some 39) rfl rfl Try.func48 (by kernel_rfl) rfl #[.pointer (some ⟨g,0,none⟩),.int .i64 2] rfl (by (try simp only [List.map_toArray,List.map_cons,List.map_nil]);first | done | rfl | (simp only [List.length_drop,List.length_take];rfl)) ?_;(with_reducible refine (spec_l6Rd_pick.calls k2 g s0_0 x1001_2 2 t198 t199 w0 _ ?side1 ?side2 A31.out).mono ?_);(case side1=>repeat (with_reducible first | exact HI0.out | apply IsS67.alloc | apply IsS67.drewN | apply IsS67.drew | apply IsS67.set_1 | refine IsS67.far ?_ NB0_182.out _ | refine IsS67.far ?_ NB0_183.out _));(case side2=>repeat (with_reducible first | exact HB.out | apply below_alloc | apply pw_below_drewN | apply below_drew1 | refine below_set ?_ (IsS67.ge HI0.out) | refine below_set ?_ GE182.out | refine below_set ?_ GE183.out));rintro e w40 ⟨rfl,hi,hb,hk⟩;refine ⟨_,rfl,?_⟩;have n0_:=Aside0.mk (Kd.R_mono (Kd.R_keep (IsS67.apart (show IsS67 w0 _ g s0_0 x1001_2 from by repeat (with_reducible first | exact HI0.out | apply IsS67.alloc | apply IsS67.drewN | apply IsS67.drew | apply IsS67.set_1 | refine IsS67.far ?_ NB0_182.out _ | refine IsS67.far ?_ NB0_183.out _)) (by exact HO_6.out) (by decide)) hk (fun _ h=>h.2)) (fun _ h=>h.1));have n1_:=Aside0.mk (Kd.R_mono (Kd.R_keep (IsS67.apart (show IsS67 w0 _ g s0_0 x1001_2 from by repeat (with_reducible first | exact HI0.out | apply IsS67.alloc | apply IsS67.drewN | apply IsS67.drew | apply IsS67.set_1 | refine IsS67.far ?_ NB0_182.out _ | refine IsS67.far ?_ NB0_183.out _)) (by exact HO_184000.out) (by decide)) hk (fun _ h=>h.2)) (fun _ h=>h.1));have n2_:=Aside0.mk (Kd.S_mono (Kd.S_keep (IsS67.apartS (show IsS67 w0 _ g s0_0 x1001_2 from by repeat (with_reducible first | exact HI0.out | apply IsS67.alloc | apply IsS67.drewN | apply IsS67.drew | apply IsS67.set_1 | refine IsS67.far ?_ NB0_182.out _ | refine IsS67.far ?_ NB0_183.out _)) (by exact HO_184001.out) (by decide)) hk (fun _ h=>h.2)) (fun _ h=>h.1));have n3_:=Aside0.mk (KeepBut.blk hk (g':=gb182) (o:=.cells #[.slice none 0 0,.slice none 0 0] 28 (0,0)) (by exact BK182.out) NB182_0.out (by simp));have n4_:=Aside0.mk (KeepBut.blk hk (g':=gb183) (o:=.cells #[.slice Ao18 y188.length co18,u184001] 28 (0,0)) (by exact BK183.out) NB183_0.out (by simp));have n5_:=Aside0.mk (KeepBut.trans (by repeat (with_reducible first | exact HK.out | apply KeepBut.set_ | apply keep_drewN | apply keep_drew | apply keep_alloc | refine keep_far ?_ GW182.out _ | refine keep_far ?_ GW183.out _)) hk (.inl rfl));have n6_:=Aside0.mk (hb);have n7_:=Aside0.mk (hi);clear HO_6;clear HO_184000;clear HO_184001;clear BK182;clear BK183;clear HK;clear HB;clear HI0;have HO_6:=n0_;have HO_184000:=n1_;have HO_184001:=n2_;have BK182:=n3_;have BK183:=n4_;have HK:=n5_;have HB:=n6_;have HI0:=n7_;clear n0_ n1_ n2_ n3_ n4_ n5_ n6_ n7_;(try clear hb);(try clear hb2);(try clear hk);(try clear hi)) | ((with_reducible refine gate_dst (N:=42) rfl ?_);refine Kd.R_make (Kd.int .i64) _ 3 rfl (N:=42) rfl 22 _ _ rfl (jn_) rfl rfl Try.underlying22 (.int .i64 0) 8 info3 rfl (by decide) (by omega) 0 (ok:=fun _=>True) (okp:=fun _=>True) rfl (fun _ hk=>hk) trivial (of_decide_eq_true (by assumption)) (Nat.le_trans (Nat.mul_le_mul_right _ (of_decide_eq_true (by assumption):(jn_).toNat ≤ 35184372088832)) (by omega)) (Below.refl _ _) (Nat.le_refl _) ?_;intro v201 w41 ho42 hb hg_ hnew_;clear hg_ hnew_;(first | rw [← Ny200.out] at ho42 | (simp only [Int.reduceToNat] at ho42;rw [← Ny200.out] at ho42));have n0_:=Aside0.mk (Kd.R_elder' (by exact HO_6.out) (Kd.R_base ho42) hb);have n1_:=Aside0.mk (Kd.R_elder' (by exact HO_184000.out) (Kd.R_base ho42) hb);have n2_:=Aside0.mk (Kd.S_elder' (by exact HO_184001.out) (Kd.R_base ho42) hb);have n3_:=Aside0.mk (Kd.R_lower (Kd.R_new' (Kd.R_new' ho42 (Kd.R_lt (by exact HO_6.out))) (Kd.R_lt (by exact HO_184000.out))) (keep_size (w:=w) (g:=g) (row:=none) (by repeat (with_reducible first | exact HK.out | apply KeepBut.set_ | apply keep_drewN | apply keep_drew | apply keep_alloc | refine keep_far ?_ GW182.out _ | refine keep_far ?_ GW183.out _))));have n4_:=Aside0.mk (blk_below (g:=gb182) (o:=.cells #[.slice none 0 0,.slice none 0 0] 28 (0,0)) (by exact BK182.out) hb);have n5_:=Aside0.mk (blk_below (g:=gb183) (o:=.cells #[.slice Ao18 y188.length co18,u184001] 28 (0,0)) (by exact BK183.out) hb);have n6_:=Aside0.mk (IsS67.below (by repeat (with_reducible first | exact HI0.out | apply IsS67.alloc | apply IsS67.drewN | apply IsS67.drew | apply IsS67.set_1 | refine IsS67.far ?_ NB0_182.out _ | refine IsS67.far ?_ NB0_183.out _)) hb);have n7_:=Aside0.mk (KeepBut.trans (by repeat (with_reducible first | exact HK.out | apply KeepBut.set_ | apply keep_drewN | apply keep_drew | apply keep_alloc | refine keep_far ?_ GW182.out _ | refine keep_far ?_ GW183.out _)) (KeepBut.of_below hb g none) (.inl rfl));have n8_:=Aside0.mk (below_step (by repeat (with_reducible first | exact HB.out | apply below_alloc | apply pw_below_drewN | apply below_drew1 | refine below_set ?_ (IsS67.ge HI0.out) | refine below_set ?_ GE182.out | refine below_set ?_ GE183.out)) hb);clear HO_6;clear HO_184000;clear HO_184001;clear BK182;clear BK183;clear HI0;clear HK;clear HB;have HO_6:=n0_;have HO_184000:=n1_;have HO_184001:=n2_;have HO202:=n3_;have BK182:=n4_;have BK183:=n5_;have HI0:=n6_;have HK:=n7_;have HB:=n8_;clear n0_ n1_ n2_ n3_ n4_ n5_ n6_ n7_ n8_;clear hb ho42) | ((with_reducible refine gate_callee (f:=48) rfl ?_);refine goesL_ (some 46) rfl rfl Try.func48 (by kernel_rfl) rfl #[.pointer (some ⟨g,0,none⟩),.int .i64 (jn_)] rfl (by (try simp only [List.map_toArray,List.map_cons,List.map_nil]);first | done | rfl | (simp only [List.length_drop,List.length_take];rfl)) ?_;(with_reducible refine (spec_l6Rd_pick.calls k2 g s0_0 t199 (jn_) t203 t204 w0 _ ?side1 ?side2 A35.out).mono ?_);(case side1=>repeat (with_reducible first | exact HI0.out | apply IsS67.alloc | apply IsS67.drewN | apply IsS67.drew | apply IsS67.set_1 | refine IsS67.far ?_ NB0_182.out _ | refine IsS67.far ?_ NB0_183.out _));(case side2=>repeat (with_reducible first | exact HB.out | apply below_alloc | apply pw_below_drewN | apply below_drew1 | refine below_set ?_ (IsS67.ge HI0.out) | refine below_set ?_ GE182.out | refine below_set ?_ GE183.out));rintro e w43 ⟨rfl,hi,hb,hk⟩;refine ⟨_,rfl,?_⟩;have n0_:=Aside0.mk (Kd.R_mono (Kd.R_keep (IsS67.apart (show IsS67 w0 _ g s0_0 t199 from by repeat (with_reducible first | exact HI0.out | apply IsS67.alloc | apply IsS67.drewN | apply IsS67.drew | apply IsS67.set_1 | refine IsS67.far ?_ NB0_182.out _ | refine IsS67.far ?_ NB0_183.out _)) (by exact HO_6.out) (by decide)) hk (fun _ h=>h.2)) (fun _ h=>h.1));have n1_:=Aside0.mk (Kd.R_mono (Kd.R_keep (IsS67.apart (show IsS67 w0 _ g s0_0 t199 from by repeat (with_reducible first | exact HI0.out | apply IsS67.alloc | apply IsS67.drewN | apply IsS67.drew | apply IsS67.set_1 | refine IsS67.far ?_ NB0_182.out _ | refine IsS67.far ?_ NB0_183.out _)) (by exact HO_184000.out) (by decide)) hk (fun _ h=>h.2)) (fun _ h=>h.1));have n2_:=Aside0.mk (Kd.S_mono (Kd.S_keep (IsS67.apartS (show IsS67 w0 _ g s0_0 t199 from by repeat (with_reducible first | exact HI0.out | apply IsS67.alloc | apply IsS67.drewN | apply IsS67.drew | apply IsS67.set_1 | refine IsS67.far ?_ NB0_182.out _ | refine IsS67.far ?_ NB0_183.out _)) (by exact HO_184001.out) (by decide)) hk (fun _ h=>h.2)) (fun _ h=>h.1));have n3_:=Aside0.mk (KeepBut.blk hk (g':=gb182) (o:=.cells #[.slice none 0 0,.slice none 0 0] 28 (0,0)) (by exact BK182.out) NB182_0.out (by simp));have n4_:=Aside0.mk (KeepBut.blk hk (g':=gb183) (o:=.cells #[.slice Ao18 y188.length co18,u184001] 28 (0,0)) (by exact BK183.out) NB183_0.out (by simp));have n5_:=Aside0.mk (Kd.R_mono (Kd.R_keep (IsS67.apart (show IsS67 w0 _ g s0_0 t199 from by repeat (with_reducible first | exact HI0.out | apply IsS67.alloc | apply IsS67.drewN | apply IsS67.drew | apply IsS67.set_1 | refine IsS67.far ?_ NB0_182.out _ | refine IsS67.far ?_ NB0_183.out _)) (by exact HO202.out) (by decide)) hk (fun _ h=>h.2)) (fun _ h=>h.1));have n6_:=Aside0.mk (KeepBut.trans (by repeat (with_reducible first | exact HK.out | apply KeepBut.set_ | apply keep_drewN | apply keep_drew | apply keep_alloc | refine keep_far ?_ GW182.out _ | refine keep_far ?_ GW183.out _)) hk (.inl rfl));have n7_:=Aside0.mk (hb);have n8_:=Aside0.mk (hi);clear HO_6;clear HO_184000;clear HO_184001;clear BK182;clear BK183;clear HO202;clear HK;clear HB;clear HI0;have HO_6:=n0_;have HO_184000:=n1_;have HO_184001:=n2_;have BK182:=n3_;have BK183:=n4_;have HO202:=n5_;have HK:=n6_;have HB:=n7_;have HI0:=n8_;clear n0_ n1_ n2_ n3_ n4_ n5_ n6_ n7_ n8_;(try clear hb);(try clear hb2);(try clear hk);(try clear hi);have p38:0 ≤ (t203:Int):=of_decide_eq_true (by assumption);have q38:(t203:Int) < ((y200.length:Int):Int):=of_decide_eq_true (by assumption);obtain ⟨go38,co38,eo38,gb38,gl38,cl38,HG38⟩:=Kd.R_form HO202.out (by omega);(first | cases eo38 | (injection eo38 with ea_ en_ ec_;(first | subst ea_ | (injection ea_ with ea_;subst ea_));subst ec_;clear en_));have GB38:=Aside0.mk gb38;have GG38:=Aside0.mk HG38;clear gb38 gl38 HG38;obtain ⟨hx38_0,hf38_0⟩:=Kd.R_celln 0 HO202.out (t203:Int) p38 q38;replace p38:=eq_true p38;replace q38:=eq_true q38;have n_:=Aside0.mk (Kd.R_mono (ok':=(fun k_=>some k_ ≠ (v192:Value).ownBlock∧some k_ ≠ (.slice Ao18 y188.length co18:Value).ownBlock)) HO202.out (fun k_ hk=>⟨hk.1.2,hk.2⟩));clear HO202;have HO202:=n_;clear n_;obtain ⟨hy44_,hz44_⟩:=Kd.R_celln 0 HO202.out (t203:Int) (of_decide_eq_true (by assumption)) (of_decide_eq_true (by assumption));have HP44:=Kd.R_putg HO202.out (t203:Int) 6) | ((with_reducible refine gate_store (t:=3) (p:=47) rfl ?_);refine store_event (t:=3) (p:=47) (v:=?vo_w45) (w1:=(w43.setCell ⟨go38,(t203:Int).toNat,none⟩ (.int .i64 6))) ?hg ?ho ?hn ?hr ?_;(case ho=>rfl);(case hg=>rfl);(case hn=>rfl);(case hr=>first | (go_simp;done) | (go_simp;rfl));intro w45 hw;have hg:w43.grownBy w45 (some go38):=(by rw [hw];exact HP44.2);have hp_:Kd.R (Kd.int .i64) 3 w45 w.heap.size (fun k_=>some k_ ≠ (v192:Value).ownBlock∧some k_ ≠ (.slice Ao18 y188.length co18:Value).ownBlock) (.slice (some ⟨go38,0,none⟩) y200.length co38) y205:=(by rw [hw,Ny205.out];exact HP44.1);clear HP44;have n0_:=Aside0.mk (Kd.R_after (v:=(.slice (some ⟨go38,0,none⟩) y200.length co38)) (v1:=(.slice (some ⟨go38,0,none⟩) y200.length co38)) (ok:=(fun k_=>some k_ ≠ (.slice Ao18 y188.length co18:Value).ownBlock)) (by exact HO_6.out) hg (.inl rfl));have n1_:=Aside0.mk (Kd.R_after (v:=(.slice (some ⟨go38,0,none⟩) y200.length co38)) (v1:=(.slice (some ⟨go38,0,none⟩) y200.length co38)) (ok:=(fun k_=>some k_ ≠ (v192:Value).ownBlock)) (by exact HO_184000.out) hg (.inl rfl));have n2_:=Aside0.mk (Kd.S_after (v:=(.slice (some ⟨go38,0,none⟩) y200.length co38)) (v1:=(.slice (some ⟨go38,0,none⟩) y200.length co38)) (ok:=(fun k_=>some k_ ≠ (v192:Value).ownBlock∧some k_ ≠ (.slice Ao18 y188.length co18:Value).ownBlock)) (by exact HO_184001.out) hg (.inl rfl));have n3_:=Aside0.mk (blk_grown (g:=gb182) (o:=.cells #[.slice none 0 0,.slice none 0 0] 28 (0,0)) (by exact BK182.out) hg (Kd.R_ne HO202.out BK182.out (by decide)));have n4_:=Aside0.mk (blk_grown (g:=gb183) (o:=.cells #[.slice Ao18 y188.length co18,u184001] 28 (0,0)) (by exact BK183.out) hg (Kd.R_ne HO202.out BK183.out (by decide)));have n5_:=Aside0.mk (IsS67.grown (by repeat (with_reducible first | exact HI0.out | apply IsS67.alloc | apply IsS67.drewN | apply IsS67.drew | apply IsS67.set_1 | refine IsS67.far ?_ NB0_182.out _ | refine IsS67.far ?_ NB0_183.out _)) hg (IsS67.own_ne HI0.out HO202.out (by decide)));have n6_:=Aside0.mk (hp_);have n7_:=Aside0.mk ((by rw [hw];exact below_set (HB.out) (Nat.le_trans HL.out GB38.out):Below w0.heap.size w0 w45));have n8_:=Aside0.mk (KeepBut.trans (by repeat (with_reducible first | exact HK.out | apply KeepBut.set_ | apply keep_drewN | apply keep_drew | apply keep_alloc | refine keep_far ?_ GW182.out _ | refine keep_far ?_ GW183.out _)) (KeepBut.of_grown hg g) (Kd.R_base2 HO202.out));clear HO_6;clear HO_184000;clear HO_184001;clear BK182;clear BK183;clear HI0;clear HO202;clear HB;clear HK;have HO_6:=n0_;have HO_184000:=n1_;have HO_184001:=n2_;have BK182:=n3_;have BK183:=n4_;have HI0:=n5_;have HO202:=n6_;have HB:=n7_;have HK:=n8_;clear n0_ n1_ n2_ n3_ n4_ n5_ n6_ n7_ n8_;clear hg hw hp_;have hnb46:=NB183_182.out;have hnc46:=NB182_183.out;have hnb47:=NB183_0.out;have hnc47:=NB0_183.out;have hcz48_0:w45.cell? ⟨gb183,0,none⟩ = some (.slice Ao18 y188.length co18):=(blk_cell BK183.out 0).trans rfl;have hcz48_1:w45.cell? ⟨gb183,1,none⟩ = some (u184001):=(blk_cell BK183.out 1).trans rfl;have hfz48_0:=blk_frozen BK183.out 0;have hfz48_1:=blk_frozen BK183.out 1) | ((with_reducible refine gate_builtin (b:=.append) (xs:=#[.tmp 49,.tmp 51]) rfl ?_);at_builtin;refine Kd.S_append (Kd.slice 3 (Kd.int .i64)) w.heap.size rfl (.tmp 49) (.tmp 51) 23 22 (.slice none 0 0) 24 rfl Try.underlying23 info22 rfl (by decide) (by omega) u184001 x184001_1 y205 [.slice (some ⟨go38,0,none⟩) y200.length co38] (fun k_=>some k_ ≠ (v192:Value).ownBlock∧some k_ ≠ (.slice Ao18 y188.length co18:Value).ownBlock) (fun k_=>some k_ = (.slice (some ⟨go38,0,none⟩) y200.length co38:Value).ownBlock) rfl rfl ?aP (fun k_ hk_=>((Kd.R_mono (ok':=fun k_=>((fun k_=>some k_ ≠ (v192:Value).ownBlock∧some k_ ≠ (.slice Ao18 y188.length co18:Value).ownBlock)) k_∧some k_ ≠ (u184001:Value).ownBlock) (Kd.R_apart' (HO202.out) (Kd.S_typed HO_184001.out) (by decide)) (fun k_ hk=>⟨⟨hk.1.1,hk.1.2⟩,hk.2⟩))).1 k_ hk_.symm) ?aF ?aO (Below.refl _ _) ?aS ?aL ?_;(case aP=>exact Kd.M_row (Kd.R_mono (Kd.R_tight rfl (Kd.R_mono (ok':=fun k_=>((fun k_=>some k_ ≠ (v192:Value).ownBlock∧some k_ ≠ (.slice Ao18 y188.length co18:Value).ownBlock)) k_∧some k_ ≠ (u184001:Value).ownBlock) (Kd.R_apart' (HO202.out) (Kd.S_typed HO_184001.out) (by decide)) (fun k_ hk=>⟨⟨hk.1.1,hk.1.2⟩,hk.2⟩))) (fun _ h_=>h_)));(case aF=>exact (fun k_ hk=>⟨Kd.fresh' (Kd.R_lt (by exact HO_6.out)) k_ hk,Kd.fresh' (Kd.R_lt (by exact HO_184000.out)) k_ hk⟩));(case aO=>exact (by exact Kd.S_mono HO_184001.out (fun k_ hk=>⟨⟨hk.1.1,hk.1.2⟩,fun e_=>hk.2 e_⟩)));(case aS=>exact (keep_size (w:=w) (g:=g) (row:=none) (by repeat (with_reducible first | exact HK.out | apply KeepBut.set_ | apply keep_drewN | apply keep_drew | apply keep_alloc | refine keep_far ?_ GW182.out _ | refine keep_far ?_ GW183.out _))));(case aL=>have:=LMc39.out;omega);intro v207 w49 ho hb hg hat;rw [← Ny206.out] at ho;have n0_:=Aside0.mk (Kd.R_over' (by exact HO_6.out) (Kd.S_typed (by exact HO_184001.out)) (by decide) hg);have n1_:=Aside0.mk (Kd.R_over' (by exact HO_184000.out) (Kd.S_typed (by exact HO_184001.out)) (by decide) hg);have n2_:=Aside0.mk (blk_grown (g:=gb182) (o:=.cells #[.slice none 0 0,.slice none 0 0] 28 (0,0)) (by exact BK182.out) hg (Kd.S_ne HO_184001.out BK182.out (by decide)));have n3_:=Aside0.mk (blk_grown (g:=gb183) (o:=.cells #[.slice Ao18 y188.length co18,u184001] 28 (0,0)) (by exact BK183.out) hg (Kd.S_ne HO_184001.out BK183.out (by decide)));have n4_:=Aside0.mk (IsS67.grown (by repeat (with_reducible first | exact HI0.out | apply IsS67.alloc | apply IsS67.drewN | apply IsS67.drew | apply IsS67.set_1 | refine IsS67.far ?_ NB0_182.out _ | refine IsS67.far ?_ NB0_183.out _)) hg (IsS67.own_neS HI0.out HO_184001.out (by decide)));have n5_:=Aside0.mk (below_weaken (by repeat (with_reducible first | exact HB.out | apply below_alloc | apply pw_below_drewN | apply below_drew1 | refine below_set ?_ (IsS67.ge HI0.out) | refine below_set ?_ GE182.out | refine below_set ?_ GE183.out)) HL.out hb);have n6_:=Aside0.mk (KeepBut.trans (by repeat (with_reducible first | exact HK.out | apply KeepBut.set_ | apply keep_drewN | apply keep_drew | apply keep_alloc | refine keep_far ?_ GW182.out _ | refine keep_far ?_ GW183.out _)) (KeepBut.of_grown hg g) (Kd.S_base2 HO_184001.out));have n7_:=Aside0.mk (ho);clear HO_6;clear HO_184000;clear BK182;clear BK183;clear HI0;clear HB;clear HK;clear HO_184001;clear HO202;have HO_6:=n0_;have HO_184000:=n1_;have BK182:=n2_;have BK183:=n3_;have HI0:=n4_;have HB:=n5_;have HK:=n6_;have HO208:=n7_;clear n0_ n1_ n2_ n3_ n4_ n5_ n6_ n7_;clear ho hb hg hat;obtain ⟨Ao50,co50,eo50⟩:=Kd.S_slice HO208.out;subst eo50;have hcz51_0:w49.cell? ⟨gb183,0,none⟩ = some (.slice Ao18 y188.length co18):=(blk_cell BK183.out 0).trans rfl;have hcz51_1:w49.cell? ⟨gb183,1,none⟩ = some (u184001):=(blk_cell BK183.out 1).trans rfl;have hfz51_0:=blk_frozen BK183.out 0;have hfz51_1:=blk_frozen BK183.out 1))
                go_roundg k2
                case measure=>have:=HK1.out;have:=HK2.out;omega
                case rel=>exact ⟨(wrap64 (x5_1 + 1)),(t204),(y188),(y206),(.slice Ao18 y188.length co18),(.slice Ao50 y206.length co50),(by first | rfl | (simp;done) | (simp [*];done)),H',⟨by have:=HK1.out;have:=HK2.out;omega⟩,⟨by exact Kd.R_mono (Kd.R_far (p:=⟨gb183,1,none⟩) (Kd.R_types HO_184000.out BK183.out (by decide)) (fun _ hk=>hk.2) (.slice Ao50 y206.length co50)) (fun _ hk=>trivial)⟩,⟨by exact Kd.S_mono (Kd.S_far (p:=⟨gb183,1,none⟩) (Kd.S_types HO208.out BK183.out (by decide)) (fun _ hk=>hk.2) (.slice Ao50 y206.length co50)) (fun _ hk=>hk.1.2)⟩,⟨by refine blk_far ?_ NB182_183.out _;exact BK182.out⟩,⟨by refine blk_put (cs:=#[.slice Ao18 y188.length co18,u184001]) ?_ 1 _ rfl;exact BK183.out⟩,⟨by repeat (with_reducible first | exact HI0.out | apply IsS67.alloc | apply IsS67.drewN | apply IsS67.drew | apply IsS67.set_1 | refine IsS67.far ?_ NB0_182.out _ | refine IsS67.far ?_ NB0_183.out _)⟩,⟨by repeat (with_reducible first | exact HK.out | apply KeepBut.set_ | apply keep_drewN | apply keep_drew | apply keep_alloc | refine keep_far ?_ GW182.out _ | refine keep_far ?_ GW183.out _)⟩,⟨by repeat (with_reducible first | exact HB.out | apply below_alloc | apply pw_below_drewN | apply below_drew1 | refine below_set ?_ (IsS67.ge HI0.out) | refine below_set ?_ GE182.out | refine below_set ?_ GE183.out)⟩⟩
               ·rw [if_neg c39] at H
                exact absurd H (by simp)
              ·rw [if_neg c37] at H
               exact absurd H (by simp)
             ·rw [if_neg c36] at H
              exact absurd H (by simp)
            ·rw [if_neg c34] at H
             exact absurd H (by simp)
           ·rw [if_neg c33] at H
            exact absurd H (by simp)
          ·rw [if_neg c32] at H
           have c32b0:(t198 == 0) = false:=beq_eq_false_iff_ne.mpr c32
           have c32b1:(t198 != 0) = true:=bne_iff_ne.mpr c32
           by_cases c52:x184001_1.length < 5864062014805
           ·rw [if_pos c52] at H
            have LMc52:=Aside0.mk c52
            clear c52
            obtain ⟨y209,hy209⟩:∃ y_:List (List Int),y_ = (x184001_1 ++ [x6_2]):=⟨_,rfl⟩
            replace H:(spec_l92Chances.l0 k2 (jn_) (wrap64 (x5_1 + 1)) s0_0 t199 y188 y209) = some (r1,r2,r3):=by rw [hy209];exact H
            have Ny209:=Aside0.mk hy209
            clear hy209
            have H':=Aside0.mk H
            clear H
            go_wp2_with (first | ((with_reducible refine gate_callee (f:=48) rfl ?_);refine goesL_ (some 39) rfl rfl Try.func48 (by kernel_rfl) rfl #[.pointer (some ⟨g,0,none⟩),.int .i64 2] rfl (by (try simp only [List.map_toArray,List.map_cons,List.map_nil]);first | done | rfl | (simp only [List.length_drop,List.length_take];rfl)) ?_;(with_reducible refine (spec_l6Rd_pick.calls k2 g s0_0 x1001_2 2 t198 t199 w0 _ ?side1 ?side2 A31.out).mono ?_);(case side1=>repeat (with_reducible first | exact HI0.out | apply IsS67.alloc | apply IsS67.drewN | apply IsS67.drew | apply IsS67.set_1 | refine IsS67.far ?_ NB0_182.out _ | refine IsS67.far ?_ NB0_183.out _));(case side2=>repeat (with_reducible first | exact HB.out | apply below_alloc | apply pw_below_drewN | apply below_drew1 | refine below_set ?_ (IsS67.ge HI0.out) | refine below_set ?_ GE182.out | refine below_set ?_ GE183.out));rintro e w53 ⟨rfl,hi,hb,hk⟩;refine ⟨_,rfl,?_⟩;have n0_:=Aside0.mk (Kd.R_mono (Kd.R_keep (IsS67.apart (show IsS67 w0 _ g s0_0 x1001_2 from by repeat (with_reducible first | exact HI0.out | apply IsS67.alloc | apply IsS67.drewN | apply IsS67.drew | apply IsS67.set_1 | refine IsS67.far ?_ NB0_182.out _ | refine IsS67.far ?_ NB0_183.out _)) (by exact HO_6.out) (by decide)) hk (fun _ h=>h.2)) (fun _ h=>h.1));have n1_:=Aside0.mk (Kd.R_mono (Kd.R_keep (IsS67.apart (show IsS67 w0 _ g s0_0 x1001_2 from by repeat (with_reducible first | exact HI0.out | apply IsS67.alloc | apply IsS67.drewN | apply IsS67.drew | apply IsS67.set_1 | refine IsS67.far ?_ NB0_182.out _ | refine IsS67.far ?_ NB0_183.out _)) (by exact HO_184000.out) (by decide)) hk (fun _ h=>h.2)) (fun _ h=>h.1));have n2_:=Aside0.mk (Kd.S_mono (Kd.S_keep (IsS67.apartS (show IsS67 w0 _ g s0_0 x1001_2 from by repeat (with_reducible first | exact HI0.out | apply IsS67.alloc | apply IsS67.drewN | apply IsS67.drew | apply IsS67.set_1 | refine IsS67.far ?_ NB0_182.out _ | refine IsS67.far ?_ NB0_183.out _)) (by exact HO_184001.out) (by decide)) hk (fun _ h=>h.2)) (fun _ h=>h.1));have n3_:=Aside0.mk (KeepBut.blk hk (g':=gb182) (o:=.cells #[.slice none 0 0,.slice none 0 0] 28 (0,0)) (by exact BK182.out) NB182_0.out (by simp));have n4_:=Aside0.mk (KeepBut.blk hk (g':=gb183) (o:=.cells #[.slice Ao18 y188.length co18,u184001] 28 (0,0)) (by exact BK183.out) NB183_0.out (by simp));have n5_:=Aside0.mk (KeepBut.trans (by repeat (with_reducible first | exact HK.out | apply KeepBut.set_ | apply keep_drewN | apply keep_drew | apply keep_alloc | refine keep_far ?_ GW182.out _ | refine keep_far ?_ GW183.out _)) hk (.inl rfl));have n6_:=Aside0.mk (hb);have n7_:=Aside0.mk (hi);clear HO_6;clear HO_184000;clear HO_184001;clear BK182;clear BK183;clear HK;clear HB;clear HI0;have HO_6:=n0_;have HO_184000:=n1_;have HO_184001:=n2_;have BK182:=n3_;have BK183:=n4_;have HK:=n5_;have HB:=n6_;have HI0:=n7_;clear n0_ n1_ n2_ n3_ n4_ n5_ n6_ n7_;(try clear hb);(try clear hb2);(try clear hk);(try clear hi);have hnb54:=NB183_182.out;have hnc54:=NB182_183.out;have hnb55:=NB183_0.out;have hnc55:=NB0_183.out;have hcz56_0:w53.cell? ⟨gb183,0,none⟩ = some (.slice Ao18 y188.length co18):=(blk_cell BK183.out 0).trans rfl;have hcz56_1:w53.cell? ⟨gb183,1,none⟩ = some (u184001):=(blk_cell BK183.out 1).trans rfl;have hfz56_0:=blk_frozen BK183.out 0;have hfz56_1:=blk_frozen BK183.out 1;obtain ⟨Ao58,co58,eo58⟩:=Kd.R_slice HO_6.out;subst eo58) | ((with_reducible refine gate_builtin (b:=.append) (xs:=#[.tmp 49,.tmp 51]) rfl ?_);at_builtin;refine Kd.S_append (Kd.slice 3 (Kd.int .i64)) w.heap.size rfl (.tmp 49) (.tmp 51) 23 22 (.slice none 0 0) 24 rfl Try.underlying23 info22 rfl (by decide) (by omega) u184001 x184001_1 x6_2 [.slice Ao58 x6_2.length co58] (fun k_=>some k_ ≠ (.slice Ao18 y188.length co18:Value).ownBlock) (fun k_=>some k_ = (.slice Ao58 x6_2.length co58:Value).ownBlock) rfl rfl ?aP (fun k_ hk_=>((Kd.R_mono (ok':=fun k_=>((fun k_=>some k_ ≠ (.slice Ao18 y188.length co18:Value).ownBlock)) k_∧some k_ ≠ (u184001:Value).ownBlock) (Kd.R_apart' (HO_6.out) (Kd.S_typed HO_184001.out) (by decide)) (fun k_ hk=>⟨hk.1,hk.2⟩))).1 k_ hk_.symm) ?aF ?aO (Below.refl _ _) ?aS ?aL ?_;(case aP=>exact Kd.M_row (Kd.R_mono (Kd.R_tight rfl (Kd.R_mono (ok':=fun k_=>((fun k_=>some k_ ≠ (.slice Ao18 y188.length co18:Value).ownBlock)) k_∧some k_ ≠ (u184001:Value).ownBlock) (Kd.R_apart' (HO_6.out) (Kd.S_typed HO_184001.out) (by decide)) (fun k_ hk=>⟨hk.1,hk.2⟩))) (fun _ h_=>h_)));(case aF=>exact (fun k_ hk=>Kd.fresh' (Kd.R_lt (by exact HO_184000.out)) k_ hk));(case aO=>exact (by exact Kd.S_mono HO_184001.out (fun k_ hk=>⟨hk.2,fun e_=>hk.1 e_⟩)));(case aS=>exact (keep_size (w:=w) (g:=g) (row:=none) (by repeat (with_reducible first | exact HK.out | apply KeepBut.set_ | apply keep_drewN | apply keep_drew | apply keep_alloc | refine keep_far ?_ GW182.out _ | refine keep_far ?_ GW183.out _))));(case aL=>have:=LMc52.out;omega);intro v210 w57 ho hb hg hat;rw [← Ny209.out] at ho;have n0_:=Aside0.mk (Kd.R_over' (by exact HO_184000.out) (Kd.S_typed (by exact HO_184001.out)) (by decide) hg);have n1_:=Aside0.mk (blk_grown (g:=gb182) (o:=.cells #[.slice none 0 0,.slice none 0 0] 28 (0,0)) (by exact BK182.out) hg (Kd.S_ne HO_184001.out BK182.out (by decide)));have n2_:=Aside0.mk (blk_grown (g:=gb183) (o:=.cells #[.slice Ao18 y188.length co18,u184001] 28 (0,0)) (by exact BK183.out) hg (Kd.S_ne HO_184001.out BK183.out (by decide)));have n3_:=Aside0.mk (IsS67.grown (by repeat (with_reducible first | exact HI0.out | apply IsS67.alloc | apply IsS67.drewN | apply IsS67.drew | apply IsS67.set_1 | refine IsS67.far ?_ NB0_182.out _ | refine IsS67.far ?_ NB0_183.out _)) hg (IsS67.own_neS HI0.out HO_184001.out (by decide)));have n4_:=Aside0.mk (below_weaken (by repeat (with_reducible first | exact HB.out | apply below_alloc | apply pw_below_drewN | apply below_drew1 | refine below_set ?_ (IsS67.ge HI0.out) | refine below_set ?_ GE182.out | refine below_set ?_ GE183.out)) HL.out hb);have n5_:=Aside0.mk (KeepBut.trans (by repeat (with_reducible first | exact HK.out | apply KeepBut.set_ | apply keep_drewN | apply keep_drew | apply keep_alloc | refine keep_far ?_ GW182.out _ | refine keep_far ?_ GW183.out _)) (KeepBut.of_grown hg g) (Kd.S_base2 HO_184001.out));have n6_:=Aside0.mk (ho);clear HO_184000;clear BK182;clear BK183;clear HI0;clear HB;clear HK;clear HO_184001;clear HO_6;have HO_184000:=n0_;have BK182:=n1_;have BK183:=n2_;have HI0:=n3_;have HB:=n4_;have HK:=n5_;have HO211:=n6_;clear n0_ n1_ n2_ n3_ n4_ n5_ n6_;clear ho hb hg hat;obtain ⟨Ao59,co59,eo59⟩:=Kd.S_slice HO211.out;subst eo59;have hcz60_0:w57.cell? ⟨gb183,0,none⟩ = some (.slice Ao18 y188.length co18):=(blk_cell BK183.out 0).trans rfl;have hcz60_1:w57.cell? ⟨gb183,1,none⟩ = some (u184001):=(blk_cell BK183.out 1).trans rfl;have hfz60_0:=blk_frozen BK183.out 0;have hfz60_1:=blk_frozen BK183.out 1))
            go_roundg k2
            case measure=>have:=HK1.out;have:=HK2.out;omega
            case rel=>exact ⟨(wrap64 (x5_1 + 1)),(t199),(y188),(y209),(.slice Ao18 y188.length co18),(.slice Ao59 y209.length co59),(by first | rfl | (simp;done) | (simp [*];done)),H',⟨by have:=HK1.out;have:=HK2.out;omega⟩,⟨by exact Kd.R_mono (Kd.R_far (p:=⟨gb183,1,none⟩) (Kd.R_types HO_184000.out BK183.out (by decide)) (fun _ hk=>hk.2) (.slice Ao59 y209.length co59)) (fun _ hk=>trivial)⟩,⟨by exact Kd.S_mono (Kd.S_far (p:=⟨gb183,1,none⟩) (Kd.S_types HO211.out BK183.out (by decide)) (fun _ hk=>hk.2) (.slice Ao59 y209.length co59)) (fun _ hk=>hk.1)⟩,⟨by refine blk_far ?_ NB182_183.out _;exact BK182.out⟩,⟨by refine blk_put (cs:=#[.slice Ao18 y188.length co18,u184001]) ?_ 1 _ rfl;exact BK183.out⟩,⟨by repeat (with_reducible first | exact HI0.out | apply IsS67.alloc | apply IsS67.drewN | apply IsS67.drew | apply IsS67.set_1 | refine IsS67.far ?_ NB0_182.out _ | refine IsS67.far ?_ NB0_183.out _)⟩,⟨by repeat (with_reducible first | exact HK.out | apply KeepBut.set_ | apply keep_drewN | apply keep_drew | apply keep_alloc | refine keep_far ?_ GW182.out _ | refine keep_far ?_ GW183.out _)⟩,⟨by repeat (with_reducible first | exact HB.out | apply below_alloc | apply pw_below_drewN | apply below_drew1 | refine below_set ?_ (IsS67.ge HI0.out) | refine below_set ?_ GE182.out | refine below_set ?_ GE183.out)⟩⟩
           ·rw [if_neg c52] at H
            exact absurd H (by simp)
      ·rw [if_neg c14] at H
       exact absurd H (by simp)
     ·rw [if_neg c13] at H
      exact absurd H (by simp)
    ·rw [if_neg c11] at H
     exact absurd H (by simp)
   ·rw [if_neg c9] at H
    have c9b0:decide (x5_1 < jn_) = false:=decide_eq_false c9
    clear c9
    have HC61:=Aside0.mk H
    clear H
    go_upto_region 16 with (fail)
    go_cut [60] (fun v60 wc=>∃ (kq:Nat) (x60_60:Bool) (x1001_60:Int),v60 = .bool x60_60∧Aside0 (spec_l92Chances.j2 kq x60_60 s0_0 x1001_60 x184000_1 x184001_1 = some (r1,r2,r3))∧Aside0 (kq ≤ k1)∧Aside0 (Kd.R (Kd.int .i64) 3 wc w.heap.size (fun _=>True) u184000 x184000_1)∧Aside0 (Kd.S (Kd.slice 3 (Kd.int .i64)) 22 wc w.heap.size (fun k_=>some k_ ≠ (u184000:Value).ownBlock) u184001 x184001_1)∧Aside0 (wc.heap[gb182]? = some (.cells #[(.slice none 0 0),(.slice none 0 0)] 28 (0,0)))∧Aside0 (wc.heap[gb183]? = some (.cells #[u184000,u184001] 28 (0,0)))∧Aside0 (IsS67 w0 wc g s0_0 x1001_60)∧Aside0 (KeepBut w wc g none)∧Aside0 (Below w0.heap.size w0 wc))
    case first =>
     have H:=HC61.out
     clear HC61
     by_cases c62:jn_ > 1
     ·rw [if_pos c62] at H
      have c62b0:decide (1 < jn_) = true:=decide_eq_true c62
      clear c62
      (first | rw [c62b0] | (simp only [i64_w,i32_w];rw [c62b0]) | skip)
      replace H:=Option.bind_eq_some_iff.mp H
      obtain ⟨⟨t212,t213⟩,A630,H⟩:=H
      replace H:(spec_l92Chances.j2 k1 (t212 == 0) s0_0 t213 x184000_1 x184001_1) = some (r1,r2,r3):=H
      have A63:=Aside0.mk A630
      clear A630
      have H':=Aside0.mk H
      clear H
      go_wp2_with (first | (go_at_call 48;(with_reducible refine (spec_l6Rd_pick.calls k1 g s0_0 x1001_1 3 t212 t213 w0 _ ?side1 ?side2 A63.out).mono ?_);(case side1=>repeat (with_reducible first | exact HI0.out | apply IsS67.alloc | apply IsS67.drewN | apply IsS67.drew | apply IsS67.set_1 | refine IsS67.far ?_ NB0_182.out _ | refine IsS67.far ?_ NB0_183.out _));(case side2=>repeat (with_reducible first | exact HB.out | apply below_alloc | apply pw_below_drewN | apply below_drew1 | refine below_set ?_ (IsS67.ge HI0.out) | refine below_set ?_ GE182.out | refine below_set ?_ GE183.out));rintro e w64 ⟨rfl,hi,hb,hk⟩;have n0_:=Aside0.mk (Kd.R_mono (Kd.R_keep (IsS67.apart (show IsS67 w0 _ g s0_0 x1001_1 from by repeat (with_reducible first | exact HI0.out | apply IsS67.alloc | apply IsS67.drewN | apply IsS67.drew | apply IsS67.set_1 | refine IsS67.far ?_ NB0_182.out _ | refine IsS67.far ?_ NB0_183.out _)) (by exact HO_184000.out) (by decide)) hk (fun _ h=>h.2)) (fun _ h=>h.1));have n1_:=Aside0.mk (Kd.S_mono (Kd.S_keep (IsS67.apartS (show IsS67 w0 _ g s0_0 x1001_1 from by repeat (with_reducible first | exact HI0.out | apply IsS67.alloc | apply IsS67.drewN | apply IsS67.drew | apply IsS67.set_1 | refine IsS67.far ?_ NB0_182.out _ | refine IsS67.far ?_ NB0_183.out _)) (by exact HO_184001.out) (by decide)) hk (fun _ h=>h.2)) (fun _ h=>h.1));have n2_:=Aside0.mk (KeepBut.blk hk (g':=gb182) (o:=.cells #[.slice none 0 0,.slice none 0 0] 28 (0,0)) (by exact BK182.out) NB182_0.out (by simp));have n3_:=Aside0.mk (KeepBut.blk hk (g':=gb183) (o:=.cells #[u184000,u184001] 28 (0,0)) (by exact BK183.out) NB183_0.out (by simp));have n4_:=Aside0.mk (KeepBut.trans (by repeat (with_reducible first | exact HK.out | apply KeepBut.set_ | apply keep_drewN | apply keep_drew | apply keep_alloc | refine keep_far ?_ GW182.out _ | refine keep_far ?_ GW183.out _)) hk (.inl rfl));have n5_:=Aside0.mk (hb);have n6_:=Aside0.mk (hi);clear HO_184000;clear HO_184001;clear BK182;clear BK183;clear HK;clear HB;clear HI0;have HO_184000:=n0_;have HO_184001:=n1_;have BK182:=n2_;have BK183:=n3_;have HK:=n4_;have HB:=n5_;have HI0:=n6_;clear n0_ n1_ n2_ n3_ n4_ n5_ n6_;(try clear hb);(try clear hb2);(try clear hk);(try clear hi)))
      go_meet
      case rel=>exact ⟨_,((t212 == 0)),(t213),(by first | rfl | (simp;done) | (simp [*];done)),H',⟨by have:=HK1.out;first | omega | exact Nat.le_refl _⟩,⟨by exact HO_184000.out⟩,⟨by exact HO_184001.out⟩,⟨by exact BK182.out⟩,⟨by exact BK183.out⟩,⟨by repeat (with_reducible first | exact HI0.out | apply IsS67.alloc | apply IsS67.drewN | apply IsS67.drew | apply IsS67.set_1 | refine IsS67.far ?_ NB0_182.out _ | refine IsS67.far ?_ NB0_183.out _)⟩,⟨by repeat (with_reducible first | exact HK.out | apply KeepBut.set_ | apply keep_drewN | apply keep_drew | apply keep_alloc | refine keep_far ?_ GW182.out _ | refine keep_far ?_ GW183.out _)⟩,⟨by repeat (with_reducible first | exact HB.out | apply below_alloc | apply pw_below_drewN | apply below_drew1 | refine below_set ?_ (IsS67.ge HI0.out) | refine below_set ?_ GE182.out | refine below_set ?_ GE183.out)⟩⟩
     ·rw [if_neg c62] at H
      have c62b0:decide (1 < jn_) = false:=decide_eq_false c62
      clear c62
      (first | rw [c62b0] | (simp only [i64_w,i32_w];rw [c62b0]) | skip)
      have H':=Aside0.mk H
      clear H
      go_wp2
      go_meet
      case rel=>exact ⟨_,(false),(x1001_1),(by first | rfl | (simp;done) | (simp [*];done)),H',⟨by have:=HK1.out;first | omega | exact Nat.le_refl _⟩,⟨by exact HO_184000.out⟩,⟨by exact HO_184001.out⟩,⟨by exact BK182.out⟩,⟨by exact BK183.out⟩,⟨by repeat (with_reducible first | exact HI0.out | apply IsS67.alloc | apply IsS67.drewN | apply IsS67.drew | apply IsS67.set_1 | refine IsS67.far ?_ NB0_182.out _ | refine IsS67.far ?_ NB0_183.out _)⟩,⟨by repeat (with_reducible first | exact HK.out | apply KeepBut.set_ | apply keep_drewN | apply keep_drew | apply keep_alloc | refine keep_far ?_ GW182.out _ | refine keep_far ?_ GW183.out _)⟩,⟨by repeat (with_reducible first | exact HB.out | apply below_alloc | apply pw_below_drewN | apply below_drew1 | refine below_set ?_ (IsS67.ge HI0.out) | refine below_set ?_ GE182.out | refine below_set ?_ GE183.out)⟩⟩
    case rest =>
     clear HC61
     try clear c1
     try clear p1
     try clear q1
     try clear hx1
     try clear c2
     try clear p2
     try clear q2
     try clear hx2
     try clear hf2
     try clear c3
     try clear p3
     try clear q3
     try clear hx3
     try clear hf3
     try clear c4
     try clear c5
     try clear c6
     try clear p6
     try clear c9
     try clear c9b0
     try clear c11
     try clear c13
     try clear c13b0
     try clear c13b1
     try clear c14
     try clear c14b0
     try clear c14b1
     try clear p19
     try clear q19
     try clear hx19
     try clear c22
     try clear c22b0
     try clear c24
     try clear c24b0
     try clear c25
     try clear c25b0
     try clear p26
     try clear q26
     try clear hx26
     try clear hf26
     try clear c32
     try clear c32b0
     try clear c32b1
     try clear c33
     try clear c33b0
     try clear c33b1
     try clear c34
     try clear c34b0
     try clear c34b1
     try clear c36
     try clear c36b0
     try clear c37
     try clear c37b0
     try clear p38
     try clear q38
     try clear hx38
     try clear hf38
     try clear c39
     try clear c45
     try clear c46
     try clear c47
     try clear c48
     try clear c52
     try clear c54
     try clear c55
     try clear c62
     try clear c62b0
     try clear p64
     try clear hcz48_0
     try clear hcz48_1
     try clear hcz51_0
     try clear hcz51_1
     try clear hcz56_0
     try clear hcz56_1
     try clear hcz60_0
     try clear hcz60_1
     try clear hcz7_0
     try clear hcz7_1
     try clear hfz48_0
     try clear hfz48_1
     try clear hfz51_0
     try clear hfz51_1
     try clear hfz56_0
     try clear hfz56_1
     try clear hfz60_0
     try clear hfz60_1
     try clear hfz7_0
     try clear hfz7_1
     try clear hx196_0
     try clear hx26_0
     try clear hx38_0
     try clear p196
     try clear p2
     try clear p26
     try clear p38
     try clear p6
     try clear q196
     try clear q26
     try clear q38
     obtain ⟨kq,x60_60,x1001_60,rfl,HA,HJ60,HO_184000,HO_184001,BK182,BK183,HI0,HK,HB⟩:=hcut
     cases kq with
     | zero=>exact absurd HA.out (by simp [spec_l92Chances.j2])
     | succ kj60 =>
      have H:=HA.out
      clear HA
      simp only [spec_l92Chances.j2] at H
      have HC65:=Aside0.mk H
      clear H
      go_upto_if 60 with (fail)
      go_cut [] (fun wc=>∃ (kq:Nat) (x184000_64:List Int) (x184001_64:List (List Int)) (u184000:Value) (u184001:Value),Aside0 (spec_l92Chances.j3 kq s0_0 x1001_60 x184000_64 x184001_64 = some (r1,r2,r3))∧Aside0 (kq ≤ kj60)∧Aside0 (Kd.R (Kd.int .i64) 3 wc w.heap.size (fun k_=>(w.heap.size ≤ k_)) u184000 x184000_64)∧Aside0 (Kd.S (Kd.slice 3 (Kd.int .i64)) 22 wc w.heap.size (fun k_=>some k_ ≠ (u184000:Value).ownBlock) u184001 x184001_64)∧Aside0 (wc.heap[gb182]? = some (.cells #[(.slice none 0 0),(.slice none 0 0)] 28 (0,0)))∧Aside0 (wc.heap[gb183]? = some (.cells #[u184000,u184001] 28 (0,0)))∧Aside0 (IsS67 w0 wc g s0_0 x1001_60)∧Aside0 (KeepBut w wc g none)∧Aside0 (Below w0.heap.size w0 wc))
      case first =>
       have H:=HC65.out
       clear HC65
       by_cases c66:x60_60 = true
       ·subst c66
        have HS:=HO_184001
        have n0_:=Aside0.mk (show Kd.R (Kd.int .i64) 3 _ w.heap.size (fun k_=>(w.heap.size ≤ k_)) u184000 x184000_1 from Kd.R_mono (Kd.R_bound HO_184000.out) (fun _ hk=>hk.2.1))
        have n1_:=Aside0.mk (show Kd.N (Kd.slice 3 (Kd.int .i64)) 22 _ w.heap.size (fun k_=>(w.heap.size ≤ k_)∧some k_ ≠ (u184000:Value).ownBlock∧k_ ≠ gb182∧k_ ≠ gb183∧k_ ≠ g) u184001 x184001_1 from Kd.N_mono (Kd.S_N (IsS67.apartS HI0.out (Kd.S_types (Kd.S_types (Kd.S_bound HS.out) BK182.out (by decide)) BK183.out (by decide)) (by decide))) (fun _ hk=>⟨hk.1.1.1.2.1,hk.1.1.1.1,hk.1.1.2,hk.1.2,hk.2⟩))
        clear HO_184000 HO_184001
        have HO_184000:=n0_
        have HO_184001:=n1_
        clear n0_ n1_
        have H1:(if 0 < (x184000_1.length:Int) then (if 1 < (x184000_1.length:Int) then ((some (([]:List Int):List Int)).bind fun y216=>(if 0 < (x184001_1.length:Int) then (if y216.length + (rd_L1 x184001_1 0).length < 17592186044416 then (if 1 < (x184001_1.length:Int) then (spec_l92Chances.j3 kj60 s0_0 x1001_60 (x184000_1.set (1:Int).toNat (rd x184000_1 0)) (x184001_1.set (1:Int).toNat (y216 ++ (rd_L1 x184001_1 0)))) else (none)) else (none)) else (none))) else (none)) else (none)) = some (r1,r2,r3):=by rw [if_pos rfl] at H;exact H
        clear H
        have H:=H1
        clear H1
        by_cases c67:0 < (x184000_1.length:Int)
        ·rw [if_pos c67] at H
         have c67b0:decide (0 < (x184000_1.length:Int)) = true:=decide_eq_true c67
         have c67b1:decide (0 < x184000_1.length) = true:=decide_eq_true (by omega)
         clear c67
         (first | rw [c67b0] | (simp only [i64_w,i32_w];rw [c67b0]) | skip)
         by_cases c68:1 < (x184000_1.length:Int)
         ·rw [if_pos c68] at H
          have c68b0:decide (1 < (x184000_1.length:Int)) = true:=decide_eq_true c68
          have c68b1:decide (1 < x184000_1.length) = true:=decide_eq_true (by omega)
          clear c68
          obtain ⟨y215,hy215⟩:∃ y_:List Int,y_ = (x184000_1.set (1:Int).toNat (rd x184000_1 0)):=⟨_,rfl⟩
          replace H:((some (([]:List Int):List Int)).bind fun y216=>(if 0 < (x184001_1.length:Int) then (if y216.length + (rd_L1 x184001_1 0).length < 17592186044416 then (if 1 < (x184001_1.length:Int) then (spec_l92Chances.j3 kj60 s0_0 x1001_60 y215 (x184001_1.set (1:Int).toNat (y216 ++ (rd_L1 x184001_1 0)))) else (none)) else (none)) else (none))) = some (r1,r2,r3):=by rw [hy215];exact H
          have Ny215:=Aside0.mk hy215
          clear hy215
          obtain ⟨y216,hy216⟩:∃ y_:List Int,y_ = (([]:List Int)):=⟨_,rfl⟩
          replace H:(if 0 < (x184001_1.length:Int) then (if y216.length + (rd_L1 x184001_1 0).length < 17592186044416 then (if 1 < (x184001_1.length:Int) then (spec_l92Chances.j3 kj60 s0_0 x1001_60 y215 (x184001_1.set (1:Int).toNat (y216 ++ (rd_L1 x184001_1 0)))) else (none)) else (none)) else (none)) = some (r1,r2,r3):=by rw [hy216];exact H
          have Ny216:=Aside0.mk hy216
          clear hy216
          by_cases c70:0 < (x184001_1.length:Int)
          ·rw [if_pos c70] at H
           have c70b0:decide (0 < (x184001_1.length:Int)) = true:=decide_eq_true c70
           have c70b1:decide (0 < x184001_1.length) = true:=decide_eq_true (by omega)
           clear c70
           by_cases c71:y216.length + (rd_L1 x184001_1 0).length < 17592186044416
           ·rw [if_pos c71] at H
            have LMc71:=Aside0.mk c71
            clear c71
            obtain ⟨y220,hy220⟩:∃ y_:List Int,y_ = (y216 ++ (rd_L1 x184001_1 0)):=⟨_,rfl⟩
            replace H:(if 1 < (x184001_1.length:Int) then (spec_l92Chances.j3 kj60 s0_0 x1001_60 y215 (x184001_1.set (1:Int).toNat y220)) else (none)) = some (r1,r2,r3):=by rw [hy220];exact H
            have Ny220:=Aside0.mk hy220
            clear hy220
            by_cases c72:1 < (x184001_1.length:Int)
            ·rw [if_pos c72] at H
             have c72b0:decide (1 < (x184001_1.length:Int)) = true:=decide_eq_true c72
             have c72b1:decide (1 < x184001_1.length) = true:=decide_eq_true (by omega)
             clear c72
             obtain ⟨y223,hy223⟩:∃ y_:List (List Int),y_ = (x184001_1.set (1:Int).toNat y220):=⟨_,rfl⟩
             replace H:(spec_l92Chances.j3 kj60 s0_0 x1001_60 y215 y223) = some (r1,r2,r3):=by rw [hy223];exact H
             have Ny223:=Aside0.mk hy223
             clear hy223
             have H':=Aside0.mk H
             clear H
             try go_wp2
             have n0_:=Aside0.mk (Kd.R_drew HO_184000.out)
             have n1_:=Aside0.mk (Kd.N_drew HO_184001.out)
             have n2_:=Aside0.mk (blk_drew BK182.out)
             have n3_:=Aside0.mk (blk_drew BK183.out)
             have n4_:=Aside0.mk (IsS67.drew HI0.out)
             have n5_:=Aside0.mk (keep_drew HK.out)
             have n6_:=Aside0.mk (below_drew1 HB.out)
             clear HO_184000
             clear HO_184001
             clear BK182
             clear BK183
             clear HI0
             clear HK
             clear HB
             have HO_184000:=n0_
             have HO_184001:=n1_
             have BK182:=n2_
             have BK183:=n3_
             have HI0:=n4_
             have HK:=n5_
             have HB:=n6_
             clear n0_ n1_ n2_ n3_ n4_ n5_ n6_
             obtain ⟨Ao75,co75,eo75⟩:=Kd.R_slice HO_184000.out
             (first | subst eo75 | (injection eo75 with f1_ f2_ f3_;have f4_:=f1_.symm;have f5_:=f3_.symm;clear f1_ f2_ f3_;subst f4_;subst f5_))
             have p214:0 ≤ (0:Int):=(by omega)
             have q214:0 < (x184000_1.length:Int):=of_decide_eq_true (by assumption)
             obtain ⟨ad214,e214,hx214_0⟩:=Kd.at_int (Kd.R_reads' HO_184000.out).2.2 0 p214 q214
             cases e214
             have qi214:(0 < x184000_1.length) = True:=eq_true (by omega)
             (try rw [show ((0:Int)).toNat = 0 from rfl] at hx214_0)
             (try rw [Addr.add_zero'] at hx214_0)
             replace p214:=eq_true p214
             replace q214:=eq_true q214
             have p69:0 ≤ (1:Int):=(by omega)
             have q69:(1:Int) < ((x184000_1.length:Int):Int):=of_decide_eq_true (by assumption)
             have qi69:(1 < x184000_1.length) = True:=eq_true (by omega)
             obtain ⟨go69,co69,eo69,gb69,gl69,cl69,HG69⟩:=Kd.R_form HO_184000.out (by omega)
             (first | cases eo69 | (injection eo69 with ea_ en_ ec_;(first | subst ea_ | (injection ea_ with ea_;subst ea_));subst ec_;clear en_))
             have GB69:=Aside0.mk gb69
             have GG69:=Aside0.mk HG69
             clear gb69 gl69 HG69
             (first | simp only [add_plain] at hx214_0 | skip)
             obtain ⟨hx69_0,hf69_0⟩:=Kd.R_celln 0 HO_184000.out (1:Int) p69 q69
             (try rw [show ((1:Int)).toNat = 1 from rfl] at hx69_0)
             (try simp only [Nat.reduceMul,Nat.zero_mul,Nat.zero_add,Nat.reduceAdd] at hx69_0)
             (try rw [show ((1:Int)).toNat = 1 from rfl] at hf69_0)
             (try simp only [Nat.reduceMul,Nat.zero_mul,Nat.zero_add,Nat.reduceAdd] at hf69_0)
             replace p69:=eq_true p69
             replace q69:=eq_true q69
             have HN0_go69:=Aside0.mk (show g ≠ go69 from by have h_:=IsS67.own_ne HI0.out HO_184000.out (by decide);intro e_;exact h_ (by rw [e_];rfl))
             have HP76:=Kd.R_putn HO_184000.out (1:Int) (rd x184000_1 0)
             rw [← Ny215.out] at HP76
             have HQ76:=Aside0.mk HP76
             clear HP76
             refine start_ (n:=8) (S:=fun w'=>w'.cell? ⟨gb183,0,none⟩ = some (.slice (some ⟨go69,0,none⟩) x184000_1.length co75)∧w'.cell? ⟨gb183,1,none⟩ = some (u184001)∧w'.cell? ⟨go69,0,none⟩ = some (.int .i64 (rd x184000_1 0))) (ds:=[7]) #[false,false,false,false,false,false,false,false] (by kernel_rfl) rfl rfl ⟨(blk_cell BK183.out 0).trans rfl,(blk_cell BK183.out 1).trans rfl,hx214_0⟩ (fun hHeld=>?_);refine with_tabW spec_l92Chances.tab17 spec_l92Chances.bits17 (fun HT_ HW_=>?_)
             replace HS:=Aside0.mk (Kd.S_drew HS.out)
             generalize wc.drew = w74 at HS HO_184000 HO_184001 BK182 BK183 HI0 HK HB GG69 HQ76 hf69_0 hx214_0 hx69_0 hHeld ⊢
             refine pure_ (i:=0) (N:=some 61) (v:=?_) (a':=?_) #[true,false,false,false,false,false,false,false] rfl rfl (any_of HT_.out (by kernel_rfl)) (fun _ _ _ h=>h) (Or.inl ⟨by rfl,?_⟩) ?_ ?_
             rotate_left;·intro w';go_simp;with_reducible rfl
             rotate_left;·simp only [Act.put,List.setIfInBounds_toArray,List.set_cons_zero,List.set_cons_succ,i64_w,i32_w];rfl
             refine pure_ (i:=2) (N:=some 63) (v:=?_) (a':=?_) #[true,false,true,false,false,false,false,false] rfl rfl (any_of HT_.out (by kernel_rfl)) (fun _ _ _ h=>h) (Or.inl ⟨by rfl,?_⟩) ?_ ?_
             rotate_left;·intro w';go_simp;with_reducible rfl
             rotate_left;·simp only [Act.put,List.setIfInBounds_toArray,List.set_cons_zero,List.set_cons_succ,i64_w,i32_w];rfl
             refine take_ (i:=1) (N:=some 62) (v:=?_) (a':=?_) #[true,true,true,false,false,false,false,false] rfl rfl (take_ofW HT_.out HW_.out (by kernel_rfl)) (fun _ _ _ h=>h) (Or.inl ⟨by rfl,?_⟩) hHeld ?_ ?_
             rotate_left;·rintro w' ⟨s0,s1,s2⟩;go_simp;with_reducible rfl
             rotate_left;·simp only [Act.put,List.setIfInBounds_toArray,List.set_cons_zero,List.set_cons_succ,i64_w,i32_w];rfl
             refine take_ (i:=3) (N:=some 64) (v:=?_) (a':=?_) #[true,true,true,true,false,false,false,false] rfl rfl (take_ofW HT_.out HW_.out (by kernel_rfl)) (fun _ _ _ h=>h) (Or.inl ⟨by rfl,?_⟩) hHeld ?_ ?_
             rotate_left;·rintro w' ⟨s0,s1,s2⟩;go_simp;with_reducible rfl
             rotate_left;·simp only [Act.put,List.setIfInBounds_toArray,List.set_cons_zero,List.set_cons_succ,i64_w,i32_w];rfl
             refine pure_ (i:=4) (N:=some 65) (v:=?_) (a':=?_) #[true,true,true,true,true,false,false,false] rfl rfl (any_of HT_.out (by kernel_rfl)) (fun _ _ _ h=>h) (Or.inl ⟨by rfl,?_⟩) ?_ ?_
             rotate_left;·intro w';go_simp;with_reducible rfl
             rotate_left;·simp only [Act.put,List.setIfInBounds_toArray,List.set_cons_zero,List.set_cons_succ,i64_w,i32_w];rfl
             refine take_ (i:=5) (N:=some 66) (v:=?_) (a':=?_) #[true,true,true,true,true,true,false,false] rfl rfl (take_ofW HT_.out HW_.out (by kernel_rfl)) (fun _ _ _ h=>h) (Or.inl ⟨by rfl,?_⟩) hHeld ?_ ?_
             rotate_left;·rintro w' ⟨s0,s1,s2⟩;go_simp;with_reducible rfl
             rotate_left;·simp only [Act.put,List.setIfInBounds_toArray,List.set_cons_zero,List.set_cons_succ,i64_w,i32_w];rfl
             refine pure_ (i:=6) (N:=some 67) (v:=?_) (a':=?_) #[true,true,true,true,true,true,true,false] rfl rfl (any_of HT_.out (by kernel_rfl)) (fun _ _ _ h=>h) (Or.inl ⟨by rfl,?_⟩) ?_ ?_
             rotate_left;·intro w';go_simp;with_reducible rfl
             rotate_left;·simp only [Act.put,List.setIfInBounds_toArray,List.set_cons_zero,List.set_cons_succ,i64_w,i32_w];rfl
             refine last_ (i:=7) (N:=none) #[true,true,true,true,true,true,true,true] rfl rfl (one_of HT_.out (by kernel_rfl)) (by decide) (fun K hK=>?_)
             refine skip_ (w1:=?_) (by rfl) rfl ?_ ?_
             rotate_left
             ·go_simp
              rfl
             refine hK.out _ _ ?_
             clear hK K
             refine done_ (done_of HT_.out (by kernel_rfl)) ?_
             try go_wp2
             have n0_:Aside0 (Kd.R (Kd.int .i64) 3 (w74.setCell ⟨go69,1,none⟩ (.int .i64 (rd x184000_1 0))) w.heap.size (fun k_=>(w.heap.size ≤ k_)) (.slice (some ⟨go69,0,none⟩) x184000_1.length co75) y215):=⟨by exact HQ76.out⟩
             have n1_:Aside0 (Kd.N (Kd.slice 3 (Kd.int .i64)) 22 (w74.setCell ⟨go69,1,none⟩ (.int .i64 (rd x184000_1 0))) w.heap.size (fun k_=>(w.heap.size ≤ k_)∧some k_ ≠ (.slice (some ⟨go69,0,none⟩) x184000_1.length co75:Value).ownBlock∧k_ ≠ gb182∧k_ ≠ gb183∧k_ ≠ g) u184001 x184001_1):=⟨by exact Kd.N_mono (Kd.N_far (p:=⟨go69,1,none⟩) (Kd.N_mono HO_184001.out (fun k_ hk=>(⟨hk,fun e_=>hk.2.1 (by rw [e_];rfl)⟩:_∧k_ ≠ go69))) (fun _ hk=>hk.2) (.int .i64 (rd x184000_1 0))) (fun _ hk=>⟨hk.1.1,⟨hk.1.2.1,⟨hk.1.2.2.1,⟨hk.1.2.2.2.1,hk.1.2.2.2.2⟩⟩⟩⟩)⟩
             have n2_:Aside0 ((w74.setCell ⟨go69,1,none⟩ (.int .i64 (rd x184000_1 0))).heap[gb182]? = some (.cells #[.slice none 0 0,.slice none 0 0] 28 (0,0))):=⟨by refine blk_far ?_ (by have h_:=Kd.R_ne HO_184000.out BK182.out (by decide);intro e_;exact h_ (by rw [e_];rfl)) _;exact BK182.out⟩
             have n3_:Aside0 ((w74.setCell ⟨go69,1,none⟩ (.int .i64 (rd x184000_1 0))).heap[gb183]? = some (.cells #[.slice (some ⟨go69,0,none⟩) x184000_1.length co75,u184001] 28 (0,0))):=⟨by refine blk_far ?_ (by have h_:=Kd.R_ne HO_184000.out BK183.out (by decide);intro e_;exact h_ (by rw [e_];rfl)) _;exact BK183.out⟩
             have n4_:Aside0 (IsS67 w0 (w74.setCell ⟨go69,1,none⟩ (.int .i64 (rd x184000_1 0))) g s0_0 x1001_60):=⟨by repeat (with_reducible first | exact HI0.out | apply IsS67.alloc | apply IsS67.drewN | apply IsS67.drew | apply IsS67.set_1 | refine IsS67.far ?_ HN0_go69.out _ | refine IsS67.far ?_ NB0_182.out _ | refine IsS67.far ?_ NB0_183.out _)⟩
             have n5_:Aside0 (KeepBut w (w74.setCell ⟨go69,1,none⟩ (.int .i64 (rd x184000_1 0))) g none):=⟨by repeat (with_reducible first | exact HK.out | apply KeepBut.set_ | apply keep_drewN | apply keep_drew | apply keep_alloc | refine keep_far ?_ GB69.out _ | refine keep_far ?_ GW182.out _ | refine keep_far ?_ GW183.out _)⟩
             have n6_:Aside0 (Below w0.heap.size w0 (w74.setCell ⟨go69,1,none⟩ (.int .i64 (rd x184000_1 0)))):=⟨by repeat (with_reducible first | exact HB.out | apply below_alloc | apply pw_below_drewN | apply below_drew1 | refine below_set ?_ (Nat.le_trans HL.out GB69.out) | refine below_set ?_ (IsS67.ge HI0.out) | refine below_set ?_ GE182.out | refine below_set ?_ GE183.out)⟩
             (try clear HO_184000)
             (try clear HO_184001)
             (try clear BK182)
             (try clear BK183)
             (try clear HI0)
             (try clear HK)
             (try clear HB)
             have nS_:Aside0 (Kd.S (Kd.slice 3 (Kd.int .i64)) 22 (w74.setCell ⟨go69,1,none⟩ (.int .i64 (rd x184000_1 0))) w.heap.size _ u184001 x184001_1):=⟨Kd.S_far (p:=⟨go69,1,none⟩) HS.out (fun k_ hk e_=>hk (by rw [e_];rfl)) _⟩
             clear HS
             generalize (w74.setCell ⟨go69,1,none⟩ (.int .i64 (rd x184000_1 0))) = w77 at nS_ n0_ n1_ n2_ n3_ n4_ n5_ n6_ ⊢
             have HS:=nS_
             clear nS_
             have HO_184000:=n0_
             have HO_184001:=n1_
             have BK182:=n2_
             have BK183:=n3_
             have HI0:=n4_
             have HK:=n5_
             have HB:=n6_
             clear n0_ n1_ n2_ n3_ n4_ n5_ n6_
             have n0_:=Aside0.mk (Kd.R_drew HO_184000.out)
             have n1_:=Aside0.mk (Kd.N_drew HO_184001.out)
             have n2_:=Aside0.mk (blk_drew BK182.out)
             have n3_:=Aside0.mk (blk_drew BK183.out)
             have n4_:=Aside0.mk (IsS67.drew HI0.out)
             have n5_:=Aside0.mk (keep_drew HK.out)
             have n6_:=Aside0.mk (below_drew1 HB.out)
             clear HO_184000
             clear HO_184001
             clear BK182
             clear BK183
             clear HI0
             clear HK
             clear HB
             have HO_184000:=n0_
             have HO_184001:=n1_
             have BK182:=n2_
             have BK183:=n3_
             have HI0:=n4_
             have HK:=n5_
             have HB:=n6_
             clear n0_ n1_ n2_ n3_ n4_ n5_ n6_
             obtain ⟨Ao79,co79,eo79⟩:=Kd.N_slice HO_184001.out
             (first | subst eo79 | (injection eo79 with f1_ f2_ f3_;have f4_:=f1_.symm;have f5_:=f3_.symm;clear f1_ f2_ f3_;subst f4_;subst f5_))
             have p219:0 ≤ (0:Int):=(by omega)
             have q219:0 < (x184001_1.length:Int):=of_decide_eq_true (by assumption)
             obtain ⟨ad219,A219_0,c219_0,e219,hx219_0,hl219_0,hi219_0⟩:=at_L1 (Kd.N_reads' HO_184001.out).2.2 0 p219 q219
             cases e219
             obtain ⟨ce219,hce219,hMe219,hcc219⟩:=Kd.N_get HO_184001.out [] 0 p219 (by first | exact q219 | exact of_decide_eq_true (by assumption) | (have e_:=(Kd.N_reads' HO_184001.out).1;omega))
             obtain ⟨ua219_0,uc219_0,rfl,ul219_0,ge219_0⟩:=Kd.FK_slice_open hMe219
             have hv219_0:=hcc219 0 _ rfl
             rw [Nat.add_zero,show ((Kd.slice 3 (Kd.int .i64))).sz = 1 from rfl,Nat.mul_one] at hv219_0
             replace hv219_0:=Option.some.inj (hv219_0.symm.trans hx219_0)
             injection hv219_0 with hva_ hvn_ hvc_
             rw [hva_] at ge219_0
             rw [hvc_] at ul219_0
             have HL219_0:=Aside0.mk (show Kd.V (Kd.int .i64) 3 _ w.heap.size _ _ (rd_L1 x184001_1 0) from Kd.V_mk ul219_0 ge219_0)
             clear hva_ hvn_ hvc_ ge219_0 ul219_0
             clear hcc219 hce219
             have qi219:(0 < x184001_1.length) = True:=eq_true (by omega)
             (try rw [show ((0:Int)).toNat = 0 from rfl] at hx219_0)
             (try rw [Addr.add_zero'] at hx219_0)
             have HR219_0:=Aside0.mk hi219_0
             have HC219_0:=Aside0.mk hl219_0
             clear hi219_0 hl219_0
             replace p219:=eq_true p219
             replace q219:=eq_true q219
             refine start_ (n:=10) (S:=fun w'=>w'.cell? ⟨gb183,0,none⟩ = some (.slice (some ⟨go69,0,none⟩) x184000_1.length co75)∧w'.cell? ⟨gb183,1,none⟩ = some (.slice (some ad219) x184001_1.length co79)∧w'.cell? ad219 = some (.slice A219_0 (rd_L1 x184001_1 0).length c219_0)) (ds:=[9]) #[false,false,false,false,false,false,false,false,false,false] (by kernel_rfl) rfl rfl ⟨(blk_cell BK183.out 0).trans rfl,(blk_cell BK183.out 1).trans rfl,hx219_0⟩ (fun hHeld=>?_);refine with_tabW spec_l92Chances.tab18 spec_l92Chances.bits18 (fun HT_ HW_=>?_)
             replace HS:=Aside0.mk (Kd.S_drew HS.out)
             generalize w77.drew = w78 at HS HO_184000 HO_184001 BK182 BK183 HI0 HK HB HL219_0 HQ76 HR219_0 hx219_0 hHeld ⊢
             refine pure_ (i:=0) (N:=some 68) (v:=?_) (a':=?_) #[true,false,false,false,false,false,false,false,false,false] rfl rfl (any_of HT_.out (by kernel_rfl)) (fun _ _ _ h=>h) (Or.inl ⟨by rfl,?_⟩) ?_ ?_
             rotate_left;·intro w';go_simp;with_reducible rfl
             rotate_left;·simp only [Act.put,List.setIfInBounds_toArray,List.set_cons_zero,List.set_cons_succ,i64_w,i32_w];rfl
             refine pure_ (i:=3) (N:=some 71) (v:=?_) (a':=?_) #[true,false,false,true,false,false,false,false,false,false] rfl rfl (any_of HT_.out (by kernel_rfl)) (fun _ _ _ h=>h) (Or.inl ⟨by rfl,?_⟩) ?_ ?_
             rotate_left;·intro w';go_simp;with_reducible rfl
             rotate_left;·simp only [Act.put,List.setIfInBounds_toArray,List.set_cons_zero,List.set_cons_succ,i64_w,i32_w];rfl
             refine take_ (i:=1) (N:=some 69) (v:=?_) (a':=?_) #[true,true,false,true,false,false,false,false,false,false] rfl rfl (take_ofW HT_.out HW_.out (by kernel_rfl)) (fun _ _ _ h=>h) (Or.inl ⟨by rfl,?_⟩) hHeld ?_ ?_
             rotate_left;·rintro w' ⟨s0,s1,s2⟩;go_simp;with_reducible rfl
             rotate_left;·simp only [Act.put,List.setIfInBounds_toArray,List.set_cons_zero,List.set_cons_succ,i64_w,i32_w];rfl
             refine take_ (i:=4) (N:=some 72) (v:=?_) (a':=?_) #[true,true,false,true,true,false,false,false,false,false] rfl rfl (take_ofW HT_.out HW_.out (by kernel_rfl)) (fun _ _ _ h=>h) (Or.inl ⟨by rfl,?_⟩) hHeld ?_ ?_
             rotate_left;·rintro w' ⟨s0,s1,s2⟩;go_simp;with_reducible rfl
             rotate_left;·simp only [Act.put,List.setIfInBounds_toArray,List.set_cons_zero,List.set_cons_succ,i64_w,i32_w];rfl
             refine pure_ (i:=5) (N:=some 73) (v:=?_) (a':=?_) #[true,true,false,true,true,true,false,false,false,false] rfl rfl (any_of HT_.out (by kernel_rfl)) (fun _ _ _ h=>h) (Or.inl ⟨by rfl,?_⟩) ?_ ?_
             rotate_left;·intro w';go_simp;with_reducible rfl
             rotate_left;·simp only [Act.put,List.setIfInBounds_toArray,List.set_cons_zero,List.set_cons_succ,i64_w,i32_w];rfl
             refine take_ (i:=6) (N:=some 74) (v:=?_) (a':=?_) #[true,true,false,true,true,true,true,false,false,false] rfl rfl (take_ofW HT_.out HW_.out (by kernel_rfl)) (fun _ _ _ h=>h) (Or.inl ⟨by rfl,?_⟩) hHeld ?_ ?_
             rotate_left;·rintro w' ⟨s0,s1,s2⟩;go_simp;with_reducible rfl
             rotate_left;·simp only [Act.put,List.setIfInBounds_toArray,List.set_cons_zero,List.set_cons_succ,i64_w,i32_w];rfl
             refine one_ (i:=2) (N:=some 70) #[true,true,true,true,true,true,true,false,false,false] rfl rfl (one_of HT_.out (by kernel_rfl)) (by decide) (fun K hK=>?_)
             refine Kd.R_lit_step (Kd.int .i64) _ 3 ?hg (N:=70) ?hd (xs:=([]:List Int)) (inner:=[]) (ok:=fun _=>True) (okp:=fun _=>True) ?hr ?hp (fun _ hk=>hk) trivial (Below.refl _ _) (Nat.le_refl _) (by simp) ?_;(case hd=>rfl);(case hg=>rfl);(case hr=>first | (go_simp;done) | (go_simp;rfl));(case hp=>exact (Reps.none _ _))
             intro v217 w80 ho81 hb hg_ hnew_
             replace HS:=Aside0.mk (Kd.S_elder' HS.out (Kd.R_base ho81) hb)
             have HS2_:=(hb.cell (World.block_lt_of_cell? _ _ (hHeld.2.2))).trans (hHeld.2.2)
             clear hg_ hnew_
             (first | rw [← Ny216.out] at ho81 | (simp only [Int.reduceToNat] at ho81;rw [← Ny216.out] at ho81))
             have n0_:=Aside0.mk (Kd.R_elder' (by exact HO_184000.out) (Kd.R_base ho81) hb)
             have n1_:=Aside0.mk (Kd.N_elder' (by exact HO_184001.out) (Kd.R_base ho81) hb)
             have n2_:=Aside0.mk (Kd.V_elder' (by exact HL219_0.out) (Kd.R_base ho81) hb)
             have n3_:=Aside0.mk (Kd.R_lower (Kd.R_new' (Kd.R_newM (M:=fun k_=>(w.heap.size ≤ k_)) ho81 (keep_size (w:=w) (g:=g) (row:=none) (by repeat (with_reducible first | exact HK.out | apply KeepBut.set_ | apply keep_drewN | apply keep_drew | apply keep_alloc | refine keep_far ?_ GW182.out _ | refine keep_far ?_ GW183.out _))) (fun k_ h_=>h_)) (Kd.R_lt (by exact HO_184000.out))) (keep_size (w:=w) (g:=g) (row:=none) (by repeat (with_reducible first | exact HK.out | apply KeepBut.set_ | apply keep_drewN | apply keep_drew | apply keep_alloc | refine keep_far ?_ GW182.out _ | refine keep_far ?_ GW183.out _))))
             have n4_:=Aside0.mk (blk_below (g:=gb182) (o:=.cells #[.slice none 0 0,.slice none 0 0] 28 (0,0)) (by exact BK182.out) hb)
             have n5_:=Aside0.mk (blk_below (g:=gb183) (o:=.cells #[.slice (some ⟨go69,0,none⟩) x184000_1.length co75,.slice (some ad219) x184001_1.length co79] 28 (0,0)) (by exact BK183.out) hb)
             have n6_:=Aside0.mk (IsS67.below (by repeat (with_reducible first | exact HI0.out | apply IsS67.alloc | apply IsS67.drewN | apply IsS67.drew | apply IsS67.set_1 | refine IsS67.far ?_ NB0_182.out _ | refine IsS67.far ?_ NB0_183.out _)) hb)
             have n7_:=Aside0.mk (Kd.C_below (by repeat (first | (with_reducible exact HR219_0.out) | (with_reducible refine Kd.C_alloc ?_ _) | (with_reducible refine Kd.C_drewN ?_ _) | (with_reducible refine Kd.C_drew ?_) | exact HR219_0.out)) hb)
             have n8_:=Aside0.mk (KeepBut.trans (by repeat (with_reducible first | exact HK.out | apply KeepBut.set_ | apply keep_drewN | apply keep_drew | apply keep_alloc | refine keep_far ?_ GW182.out _ | refine keep_far ?_ GW183.out _)) (KeepBut.of_below hb g none) (.inl rfl))
             have n9_:=Aside0.mk (below_step (by repeat (with_reducible first | exact HB.out | apply below_alloc | apply pw_below_drewN | apply below_drew1 | refine below_set ?_ (IsS67.ge HI0.out) | refine below_set ?_ GE182.out | refine below_set ?_ GE183.out)) hb)
             clear HO_184000
             clear HO_184001
             clear HL219_0
             clear BK182
             clear BK183
             clear HI0
             clear HR219_0
             clear HK
             clear HB
             have HO_184000:=n0_
             have HO_184001:=n1_
             have HL219_0:=n2_
             have HO218:=n3_
             have BK182:=n4_
             have BK183:=n5_
             have HI0:=n6_
             have HR219_0:=n7_
             have HK:=n8_
             have HB:=n9_
             clear n0_ n1_ n2_ n3_ n4_ n5_ n6_ n7_ n8_ n9_
             clear hb ho81
             refine hK.out _ _ ⟨(blk_cell BK183.out 0).trans rfl,(blk_cell BK183.out 1).trans rfl,HS2_⟩ (fun hHeld=>?_)
             clear hK K
             refine norm_ (a':=?_) ?_ ?_
             rotate_left
             ·show Act.put _ (some 70) _ = _
              simp only [Act.put,List.setIfInBounds_toArray,List.set_cons_zero,List.set_cons_succ,i64_w,i32_w]
              rfl
             refine one_ (i:=7) (N:=some 75) #[true,true,true,true,true,true,true,true,false,false] rfl rfl (one_of HT_.out (by kernel_rfl)) (by decide) (fun K hK=>?_)
             refine Kd.R_append_rows_step (Kd.int .i64) w.heap.size (by rfl) (.tmp 70) (.tmp 74) 22 3 (.int .i64 0) 8 rfl Try.underlying22 info3 rfl (by decide) (by omega) v217 y216 (rd_L1 x184001_1 0) _ _ _ (fun k_=>(w.heap.size ≤ k_)∧some k_ ≠ (.slice (some ⟨go69,0,none⟩) x184000_1.length co75:Value).ownBlock) (fun _=>False) rfl rfl ?aO ?aR (fun _ _ h=>h) (fun _ h=>h.elim) ?aF (Below.refl _ _) ?aS ?aL ?_
             (case aR=>repeat (first | exact (by repeat (first | (with_reducible exact HR219_0.out) | (with_reducible refine Kd.C_alloc ?_ _) | (with_reducible refine Kd.C_drewN ?_ _) | (with_reducible refine Kd.C_drew ?_) | exact HR219_0.out)) | (with_reducible refine Kd.C_alloc ?_ _) | (with_reducible refine Kd.C_drewN ?_ _) | (with_reducible refine Kd.C_drew ?_)))
             (case aF=>exact (fun k_ hk=>⟨(Nat.le_trans (keep_size (w:=w) (g:=g) (row:=none) (by repeat (with_reducible first | exact HK.out | apply KeepBut.set_ | apply keep_drewN | apply keep_drew | apply keep_alloc | refine keep_far ?_ GW182.out _ | refine keep_far ?_ GW183.out _))) hk),Kd.fresh' (Kd.R_lt (by exact HO_184000.out)) k_ hk⟩))
             (case aO=>exact (by exact Kd.R_mono HO218.out (fun _ hk=>⟨hk.1.1,hk.2⟩)))
             (case aS=>exact (keep_size (w:=w) (g:=g) (row:=none) (by repeat (with_reducible first | exact HK.out | apply KeepBut.set_ | apply keep_drewN | apply keep_drew | apply keep_alloc | refine keep_far ?_ GW182.out _ | refine keep_far ?_ GW183.out _))))
             (case aL=>have:=LMc71.out;omega)
             intro v221 w82 ho hb hg hat
             replace HS:=Aside0.mk (Kd.S_after HS.out hg hat)
             have hlen_:0 < x184001_1.length:=of_decide_eq_true (by assumption)
             have HZ219_0:=cell_grown hg (hHeld.2.2) (by obtain ⟨gz_,cz_,ez_,_,_,clz_,hz_⟩:=Kd.N_form HO_184001.out (by omega);injection ez_ with ez_;injection ez_ with ez_;subst ez_;first | exact Kd.R_ne HO218.out hz_ (by decide) | (rw [add_block];exact Kd.R_ne HO218.out hz_ (by decide)))
             rw [← Ny220.out] at ho
             have n0_:=Aside0.mk (Kd.R_after (ok:=(fun k_=>(w.heap.size ≤ k_))) (by exact HO_184000.out) hg hat)
             have n1_:=Aside0.mk (Kd.N_afterv (ok:=(fun k_=>(w.heap.size ≤ k_)∧some k_ ≠ (.slice (some ⟨go69,0,none⟩) x184000_1.length co75:Value).ownBlock∧k_ ≠ gb182∧k_ ≠ gb183∧k_ ≠ g)) (by exact HO_184001.out) hg hat)
             have n2_:=Aside0.mk (blk_grown (g:=gb182) (o:=.cells #[.slice none 0 0,.slice none 0 0] 28 (0,0)) (by exact BK182.out) hg (Kd.R_ne HO218.out BK182.out (by decide)))
             have n3_:=Aside0.mk (blk_grown (g:=gb183) (o:=.cells #[.slice (some ⟨go69,0,none⟩) x184000_1.length co75,.slice (some ad219) x184001_1.length co79] 28 (0,0)) (by exact BK183.out) hg (Kd.R_ne HO218.out BK183.out (by decide)))
             have n4_:=Aside0.mk (IsS67.grown (by repeat (with_reducible first | exact HI0.out | apply IsS67.alloc | apply IsS67.drewN | apply IsS67.drew | apply IsS67.set_1 | refine IsS67.far ?_ NB0_182.out _ | refine IsS67.far ?_ NB0_183.out _)) hg (IsS67.own_ne HI0.out HO218.out (by decide)))
             have n5_:=Aside0.mk (Kd.V_afterv (ok:=(fun k_=>(w.heap.size ≤ k_)∧some k_ ≠ (.slice (some ⟨go69,0,none⟩) x184000_1.length co75:Value).ownBlock∧some k_ ≠ (.slice (some ad219) x184001_1.length co79:Value).ownBlock∧k_ ≠ gb182∧k_ ≠ gb183∧k_ ≠ g)) (by exact Kd.V_mono HL219_0.out (fun _ hk=>⟨⟨hk.1.1.1,⟨hk.1.1.2.1,⟨hk.1.2,⟨hk.1.1.2.2.1,⟨hk.1.1.2.2.2.1,hk.1.1.2.2.2.2⟩⟩⟩⟩⟩,hk.2⟩)) hg hat)
             have n6_:=Aside0.mk (below_weaken (by repeat (with_reducible first | exact HB.out | apply below_alloc | apply pw_below_drewN | apply below_drew1 | refine below_set ?_ (IsS67.ge HI0.out) | refine below_set ?_ GE182.out | refine below_set ?_ GE183.out)) HL.out hb)
             have n7_:=Aside0.mk (KeepBut.trans (by repeat (with_reducible first | exact HK.out | apply KeepBut.set_ | apply keep_drewN | apply keep_drew | apply keep_alloc | refine keep_far ?_ GW182.out _ | refine keep_far ?_ GW183.out _)) (KeepBut.of_grown hg g) (Kd.R_base2 HO218.out))
             have n8_:=Aside0.mk (ho)
             clear HO_184000
             clear HO_184001
             clear BK182
             clear BK183
             clear HI0
             clear HL219_0
             clear HB
             clear HK
             clear HO218
             have HO_184000:=n0_
             have HO_184001:=n1_
             have BK182:=n2_
             have BK183:=n3_
             have HI0:=n4_
             have HL219_0:=n5_
             have HB:=n6_
             have HK:=n7_
             have HO222:=n8_
             clear n0_ n1_ n2_ n3_ n4_ n5_ n6_ n7_ n8_
             clear ho hb hg hat
             obtain ⟨Av_,cv_,ev_⟩:=Kd.R_slice HO222.out
             subst ev_
             have p73:0 ≤ (1:Int):=(by omega)
             have q73:(1:Int) < ((x184001_1.length:Int):Int):=of_decide_eq_true (by assumption)
             have qi73:(1 < x184001_1.length) = True:=eq_true (by omega)
             obtain ⟨go73,co73,eo73,gb73,gl73,cl73,HG73⟩:=Kd.N_form HO_184001.out (by omega)
             (first | cases eo73 | (injection eo73 with ea_ en_ ec_;(first | subst ea_ | (injection ea_ with ea_;subst ea_));subst ec_;clear en_))
             have GB73:=Aside0.mk gb73
             have GG73:=Aside0.mk HG73
             clear gb73 gl73 HG73
             (first | simp only [add_plain] at hx219_0 | skip)
             obtain ⟨ce73,hcl73,hM73,hcc73,hfr73⟩:=Kd.N_elem HO_184001.out [] (1:Int) p73 q73
             obtain ⟨ua73_0,uc73_0,rfl,ul73_0,ge73_0⟩:=Kd.FK_slice_open hM73
             have hx73_0:=hcc73 0 _ rfl
             have hf73_0:=hfr73 0
             (try simp only [show ((Kd.slice 3 (Kd.int .i64))).sz = 1 from rfl,Nat.mul_one,Nat.add_zero] at hx73_0)
             (try simp only [show ((Kd.slice 3 (Kd.int .i64))).sz = 1 from rfl,Nat.mul_one,Nat.add_zero] at hf73_0)
             clear hcl73 hcc73 hfr73;(try clear hM73)
             (try rw [show ((1:Int)).toNat = 1 from rfl] at hx73_0)
             (try simp only [Nat.reduceMul,Nat.zero_mul,Nat.zero_add,Nat.reduceAdd] at hx73_0)
             (try rw [show ((1:Int)).toNat = 1 from rfl] at hf73_0)
             (try simp only [Nat.reduceMul,Nat.zero_mul,Nat.zero_add,Nat.reduceAdd] at hf73_0)
             replace p73:=eq_true p73
             replace q73:=eq_true q73
             have HN0_go73:=Aside0.mk (show g ≠ go73 from by have h_:=IsS67.own_neN HI0.out HO_184001.out (by decide);intro e_;exact h_ (by rw [e_];rfl))
             have HSs:Aside0 (Kd.S (Kd.slice 3 (Kd.int .i64)) 22 (w82.setCell ⟨go73,1,none⟩ (Value.slice Av_ y220.length cv_)) w.heap.size (fun k_=>some k_ ≠ (.slice (some ⟨go69,0,none⟩) x184000_1.length co75:Value).ownBlock) (.slice (some ⟨go73,0,none⟩) x184001_1.length co79) y223):=by
              have hlt_:(1:Int) < ((x184001_1.length:Int):Int):=of_decide_eq_true (by assumption)
              obtain ⟨oki_,c_,hcl_,hM_,hcc_,hfr_,hoki_,hH_⟩:=Kd.S_elem HS.out [] (1:Int) (by omega) hlt_
              have hR_:=Kd.R_tight rfl (Kd.R_mono (ok':=(fun k_=>some k_ ≠ (.slice (some ⟨go69,0,none⟩) x184000_1.length co75:Value).ownBlock)) HO222.out (fun _ hk=>by first | exact hk.1.2 | exact hk.2))
              have h_:=(Kd.S_seg (okg:=fun k_=>some k_ = ((Value.slice Av_ y220.length cv_):Value).ownBlock) (okp:=fun k_=>some k_ = ((Value.slice Av_ y220.length cv_):Value).ownBlock) hH_ (by omega) hlt_ (seg:=[(Value.slice Av_ y220.length cv_)]) (j:=0) (by show 1 ≤ 1;decide) (x':=y220) (by
               obtain ⟨q_,rfl⟩:∃ q_,c_ = [q_]:=by
                match c_,hcl_ with
                | [q_],_=>exact ⟨q_,rfl⟩
               exact ⟨(Value.slice Av_ y220.length cv_),rfl,hR_⟩) (fun _ hk=>.inr hk) (fun k_ hk=>⟨HO222.out.1 k_ hk.symm |> (fun h=>by first | exact h.1.2 | exact h.2),fun e_=>Kd.R_ne HO222.out GG73.out (by decide) (by rw [← e_];exact hk)⟩)).1
              rw [← Ny223.out] at h_
              exact ⟨h_⟩
             refine hK.out _ _ ⟨(blk_cell BK183.out 0).trans rfl,(blk_cell BK183.out 1).trans rfl,HZ219_0⟩ (fun hHeld=>?_)
             clear hK K
             refine norm_ (a':=?_) ?_ ?_
             rotate_left
             ·show Act.put _ (some 75) _ = _
              simp only [Act.put,List.setIfInBounds_toArray,List.set_cons_zero,List.set_cons_succ,i64_w,i32_w]
              rfl
             refine pure_ (i:=8) (N:=some 76) (v:=?_) (a':=?_) #[true,true,true,true,true,true,true,true,true,false] rfl rfl (any_of HT_.out (by kernel_rfl)) (fun _ _ _ h=>h) (Or.inl ⟨by rfl,?_⟩) ?_ ?_
             rotate_left;·intro w';go_simp;with_reducible rfl
             rotate_left;·simp only [Act.put,List.setIfInBounds_toArray,List.set_cons_zero,List.set_cons_succ,i64_w,i32_w];rfl
             refine last_ (i:=9) (N:=none) #[true,true,true,true,true,true,true,true,true,true] rfl rfl (one_of HT_.out (by kernel_rfl)) (by decide) (fun K hK=>?_)
             refine skip_ (w1:=?_) (by rfl) rfl ?_ ?_
             rotate_left
             ·go_simp
              rfl
             refine hK.out _ _ ?_
             clear hK K
             refine done_ (done_of HT_.out (by kernel_rfl)) ?_
             try go_wp2
             go_meet
             case rel=>exact ⟨_,(y215),(y223),(.slice (some ⟨go69,0,none⟩) x184000_1.length co75),(.slice (some ⟨go73,0,none⟩) x184001_1.length co79),H',⟨by have:=HK1.out;have:=HJ60.out;first | omega | exact Nat.le_refl _⟩,⟨by exact Kd.R_mono (Kd.R_far (p:=⟨go73,1,none⟩) (Kd.R_types HO_184000.out GG73.out (by decide)) (fun _ hk=>hk.2) ((Value.slice Av_ y220.length cv_))) (fun _ hk=>hk.1.1)⟩,HSs,⟨by refine blk_far ?_ (by have h_:=Kd.N_ne HO_184001.out BK182.out (by decide);intro e_;exact h_ (by rw [e_];rfl)) _;exact BK182.out⟩,⟨by refine blk_far ?_ (by have h_:=Kd.N_ne HO_184001.out BK183.out (by decide);intro e_;exact h_ (by rw [e_];rfl)) _;exact BK183.out⟩,⟨by repeat (with_reducible first | exact HI0.out | apply IsS67.alloc | apply IsS67.drewN | apply IsS67.drew | apply IsS67.set_1 | refine IsS67.far ?_ HN0_go73.out _ | refine IsS67.far ?_ NB0_182.out _ | refine IsS67.far ?_ NB0_183.out _)⟩,⟨by repeat (with_reducible first | exact HK.out | apply KeepBut.set_ | apply keep_drewN | apply keep_drew | apply keep_alloc | refine keep_far ?_ GB73.out _ | refine keep_far ?_ GW182.out _ | refine keep_far ?_ GW183.out _)⟩,⟨by repeat (with_reducible first | exact HB.out | apply below_alloc | apply pw_below_drewN | apply below_drew1 | refine below_set ?_ (Nat.le_trans HL.out GB73.out) | refine below_set ?_ (IsS67.ge HI0.out) | refine below_set ?_ GE182.out | refine below_set ?_ GE183.out)⟩⟩
            ·rw [if_neg c72] at H
             exact absurd H (by simp)
           ·rw [if_neg c71] at H
            exact absurd H (by simp)
          ·rw [if_neg c70] at H
           exact absurd H (by simp)
         ·rw [if_neg c68] at H
          exact absurd H (by simp)
        ·rw [if_neg c67] at H
         exact absurd H (by simp)
       ·replace c66:=Bool.eq_false_iff.mpr c66
        subst c66
        have H1:(spec_l92Chances.j3 kj60 s0_0 x1001_60 x184000_1 x184001_1) = some (r1,r2,r3):=by rw [if_neg (show ¬ (false = true) by decide)] at H;exact H
        clear H
        have H:=H1
        clear H1
        have H':=Aside0.mk H
        clear H
        go_wp2
        go_meet
        case rel=>exact ⟨_,(x184000_1),(x184001_1),(u184000),(u184001),H',⟨by have:=HK1.out;have:=HJ60.out;first | omega | exact Nat.le_refl _⟩,⟨by exact Kd.R_mono (Kd.R_bound HO_184000.out) (fun _ hk=>hk.2.1)⟩,⟨by exact HO_184001.out⟩,⟨by exact BK182.out⟩,⟨by exact BK183.out⟩,⟨by repeat (with_reducible first | exact HI0.out | apply IsS67.alloc | apply IsS67.drewN | apply IsS67.drew | apply IsS67.set_1 | refine IsS67.far ?_ NB0_182.out _ | refine IsS67.far ?_ NB0_183.out _)⟩,⟨by repeat (with_reducible first | exact HK.out | apply KeepBut.set_ | apply keep_drewN | apply keep_drew | apply keep_alloc | refine keep_far ?_ GW182.out _ | refine keep_far ?_ GW183.out _)⟩,⟨by repeat (with_reducible first | exact HB.out | apply below_alloc | apply pw_below_drewN | apply below_drew1 | refine below_set ?_ (IsS67.ge HI0.out) | refine below_set ?_ GE182.out | refine below_set ?_ GE183.out)⟩⟩
      case rest =>
       clear HC65
       try clear c1
       try clear p1
       try clear q1
       try clear hx1
       try clear c2
       try clear p2
       try clear q2
       try clear hx2
       try clear qi2
       try clear hf2
       try clear c3
       try clear p3
       try clear q3
       try clear hx3
       try clear hf3
       try clear c4
       try clear c5
       try clear c6
       try clear p6
       try clear q6
       try clear hx6
       try clear qi6
       try clear hf6
       try clear c7
       try clear p7
       try clear q7
       try clear hx7
       try clear qi7
       try clear hf7
       try clear c8
       try clear c9
       try clear c9b0
       try clear c11
       try clear c13
       try clear c13b0
       try clear c13b1
       try clear c14
       try clear c14b0
       try clear c14b1
       try clear p19
       try clear q19
       try clear hx19
       try clear c21
       try clear p21
       try clear q21
       try clear hx21
       try clear qi21
       try clear c22
       try clear c22b0
       try clear c24
       try clear c24b0
       try clear c25
       try clear c25b0
       try clear p26
       try clear q26
       try clear hx26
       try clear hf26
       try clear c32
       try clear c32b0
       try clear c32b1
       try clear c33
       try clear c33b0
       try clear c33b1
       try clear c34
       try clear c34b0
       try clear c34b1
       try clear c36
       try clear c36b0
       try clear c37
       try clear c37b0
       try clear p38
       try clear q38
       try clear hx38
       try clear hf38
       try clear c39
       try clear c45
       try clear c46
       try clear c47
       try clear c48
       try clear c52
       try clear c54
       try clear c55
       try clear c62
       try clear c62b0
       try clear p64
       try clear c66
       try clear c67
       try clear c67b0
       try clear c67b1
       try clear c68
       try clear c68b0
       try clear c68b1
       try clear p69
       try clear q69
       try clear hx69
       try clear qi69
       try clear hf69
       try clear c70
       try clear c70b0
       try clear c70b1
       try clear c71
       try clear c72
       try clear c72b0
       try clear c72b1
       try clear c73
       try clear p73
       try clear q73
       try clear hx73
       try clear qi73
       try clear hf73
       try clear c83
       try clear hcz48_0
       try clear hcz48_1
       try clear hcz51_0
       try clear hcz51_1
       try clear hcz56_0
       try clear hcz56_1
       try clear hcz60_0
       try clear hcz60_1
       try clear hcz7_0
       try clear hcz7_1
       try clear hfz48_0
       try clear hfz48_1
       try clear hfz51_0
       try clear hfz51_1
       try clear hfz56_0
       try clear hfz56_1
       try clear hfz60_0
       try clear hfz60_1
       try clear hfz7_0
       try clear hfz7_1
       try clear hx196_0
       try clear hx214_0
       try clear hx219_0
       try clear hx26_0
       try clear hx38_0
       try clear hx69_0
       try clear hx73_0
       try clear p1
       try clear p19
       try clear p196
       try clear p2
       try clear p214
       try clear p219
       try clear p26
       try clear p3
       try clear p38
       try clear p6
       try clear p64
       try clear p69
       try clear p73
       try clear q1
       try clear q19
       try clear q196
       try clear q2
       try clear q214
       try clear q219
       try clear q26
       try clear q3
       try clear q38
       try clear q69
       try clear q73
       obtain ⟨kq,x184000_64,x184001_64,u184000,u184001,HA,HJ64,HO_184000,HO_184001,BK182,BK183,HI0,HK,HB⟩:=hcut
       cases kq with
       | zero=>exact absurd HA.out (by simp [spec_l92Chances.j3])
       | succ kj64 =>
        have H:=HA.out
        clear HA
        simp only [spec_l92Chances.j3] at H
        replace H:=Option.bind_eq_some_iff.mp H
        obtain ⟨⟨t224,t225⟩,A840,H⟩:=H
        replace H:(if t224 = 0 then (if 0 < (x184001_64.length:Int) then (if 0 < ((rd_L1 x184001_64 0).length:Int) then (some (x184000_64,x184001_64.set (0:Int).toNat ((rd_L1 x184001_64 0).set (0:Int).toNat (wrap64 ((rd (rd_L1 x184001_64 0) 0) + 1))),t225)) else (none)) else (none)) else (if t224 = 1 then (if 0 < (x184000_64.length:Int) then (some ((x184000_64.set (0:Int).toNat 10),x184001_64,t225)) else (none)) else (if t224 = 2 then (if 0 < (x184001_64.length:Int) then (if 1 ≤ ((rd_L1 x184001_64 0).length:Int) then (some (x184000_64,(x184001_64.set (0:Int).toNat ((rd_L1 x184001_64 0).drop 1)),t225)) else (none)) else (none)) else (if t224 = 3 then (some (([]:List Int),([]:List (List Int)),t225)) else (some (x184000_64,x184001_64,t225)))))) = some (r1,r2,r3):=H
        have A84:=Aside0.mk A840
        clear A840
        by_cases c85:t224 = 0
        ·rw [if_pos c85] at H
         have c85b0:(t224 == 0) = true:=beq_iff_eq.mpr c85
         have c85b1:(t224 != 0) = false:=bne_eq_false_iff_eq.mpr c85
         clear c85
         by_cases cL_:0 < (x184001_64.length:Int)
         ·rw [if_pos cL_] at H
          by_cases cM_:0 < ((rd_L1 x184001_64 0).length:Int)
          ·rw [if_pos cM_] at H
           have HcL:=Aside0.mk cL_
           have HcM:=Aside0.mk cM_
           clear cL_ cM_
           simp only [Option.some.injEq,Prod.mk.injEq] at H
           obtain ⟨rfl,hr2_,rfl⟩:=H
           have HR2:=Aside0.mk hr2_
           clear hr2_
           try go_wp2_with (first | ((with_reducible refine gate_callee (f:=48) rfl ?_);refine goesL_ (some 78) rfl rfl Try.func48 (by kernel_rfl) rfl #[.pointer (some ⟨g,0,none⟩),.int .i64 30] rfl (by (try simp only [List.map_toArray,List.map_cons,List.map_nil]);first | done | rfl | (simp only [List.length_drop,List.length_take];rfl)) ?_;(with_reducible refine (spec_l6Rd_pick.calls kj64 g s0_0 x1001_60 30 t224 t225 w0 _ ?side1 ?side2 A84.out).mono ?_);(case side1=>repeat (with_reducible first | exact HI0.out | apply IsS67.alloc | apply IsS67.drewN | apply IsS67.drew | apply IsS67.set_1 | refine IsS67.far ?_ NB0_182.out _ | refine IsS67.far ?_ NB0_183.out _));(case side2=>repeat (with_reducible first | exact HB.out | apply below_alloc | apply pw_below_drewN | apply below_drew1 | refine below_set ?_ (IsS67.ge HI0.out) | refine below_set ?_ GE182.out | refine below_set ?_ GE183.out));rintro e w77 ⟨rfl,hi,hb,hk⟩;refine ⟨_,rfl,?_⟩;have n0_:=Aside0.mk (Kd.R_mono (Kd.R_keep (IsS67.apart (show IsS67 w0 _ g s0_0 x1001_60 from by repeat (with_reducible first | exact HI0.out | apply IsS67.alloc | apply IsS67.drewN | apply IsS67.drew | apply IsS67.set_1 | refine IsS67.far ?_ NB0_182.out _ | refine IsS67.far ?_ NB0_183.out _)) (by exact HO_184000.out) (by decide)) hk (fun _ h=>h.2)) (fun _ h=>h.1));have n1_:=Aside0.mk (Kd.S_mono (Kd.S_keep (IsS67.apartS (show IsS67 w0 _ g s0_0 x1001_60 from by repeat (with_reducible first | exact HI0.out | apply IsS67.alloc | apply IsS67.drewN | apply IsS67.drew | apply IsS67.set_1 | refine IsS67.far ?_ NB0_182.out _ | refine IsS67.far ?_ NB0_183.out _)) (by exact HO_184001.out) (by decide)) hk (fun _ h=>h.2)) (fun _ h=>h.1));have n2_:=Aside0.mk (KeepBut.blk hk (g':=gb182) (o:=.cells #[.slice none 0 0,.slice none 0 0] 28 (0,0)) (by exact BK182.out) NB182_0.out (by simp));have n3_:=Aside0.mk (KeepBut.blk hk (g':=gb183) (o:=.cells #[u184000,u184001] 28 (0,0)) (by exact BK183.out) NB183_0.out (by simp));have n4_:=Aside0.mk (KeepBut.trans (by repeat (with_reducible first | exact HK.out | apply KeepBut.set_ | apply keep_drewN | apply keep_drew | apply keep_alloc | refine keep_far ?_ GW182.out _ | refine keep_far ?_ GW183.out _)) hk (.inl rfl));have n5_:=Aside0.mk (hb);have n6_:=Aside0.mk (hi);clear HO_184000;clear HO_184001;clear BK182;clear BK183;clear HK;clear HB;clear HI0;have HO_184000:=n0_;have HO_184001:=n1_;have BK182:=n2_;have BK183:=n3_;have HK:=n4_;have HB:=n5_;have HI0:=n6_;clear n0_ n1_ n2_ n3_ n4_ n5_ n6_;(try clear hb);(try clear hb2);(try clear hk);(try clear hi)))
           have n0_:=Aside0.mk (Kd.R_drew HO_184000.out)
           have n1_:=Aside0.mk (Kd.S_drew HO_184001.out)
           have n2_:=Aside0.mk (blk_drew BK182.out)
           have n3_:=Aside0.mk (blk_drew BK183.out)
           have n4_:=Aside0.mk (IsS67.drew HI0.out)
           have n5_:=Aside0.mk (keep_drew HK.out)
           have n6_:=Aside0.mk (below_drew1 HB.out)
           clear HO_184000
           clear HO_184001
           clear BK182
           clear BK183
           clear HI0
           clear HK
           clear HB
           have HO_184000:=n0_
           have HO_184001:=n1_
           have BK182:=n2_
           have BK183:=n3_
           have HI0:=n4_
           have HK:=n5_
           have HB:=n6_
           clear n0_ n1_ n2_ n3_ n4_ n5_ n6_
           have HLn:=HcL.out
           have HMn:=HcM.out
           obtain ⟨gW,coW,eW,gbW,glW,clW,HGW⟩:=Kd.S_form HO_184001.out (by omega)
           subst eW
           have GBW:=Aside0.mk gbW
           have GGW:=Aside0.mk HGW
           obtain ⟨oki_,c_,hcl_,hM_,hcc_,hfr_,hoki_,hH_⟩:=Kd.S_elem HO_184001.out [] (0:Int) (by omega) (by omega)
           have hx1:=fun u_ h_=>hcc_ 0 u_ h_
           obtain ⟨v0_,rfl,hR0⟩:∃ v_,c_ = [v_]∧(Kd.int .i64).R 3 _ w.heap.size oki_ v_ (rd_L1 x184001_64 0):=hM_
           obtain ⟨g0,co0,e0,gb0,gl0,cl0,HG0⟩:=Kd.R_form hR0 (by omega)
           subst e0
           replace hx1:=hx1 _ rfl
           simp only [show ((Kd.slice 3 (Kd.int .i64))).sz = 1 from rfl,Nat.mul_one,Nat.add_zero,show ((0:Int)).toNat = 0 from rfl] at hx1
           obtain ⟨hx0,hf0⟩:=Kd.R_celln 0 hR0 (0:Int) (by omega) (by omega)
           (try rw [show ((0:Int)).toNat = 0 from rfl] at hx0)
           (try simp only [Nat.reduceMul,Nat.zero_mul,Nat.zero_add,Nat.reduceAdd] at hx0)
           (try rw [show ((0:Int)).toNat = 0 from rfl] at hf0)
           (try simp only [Nat.reduceMul,Nat.zero_mul,Nat.zero_add,Nat.reduceAdd] at hf0)
           have hok0:=hoki_ g0 (hR0.1 g0 rfl)
           have HOk0:=Aside0.mk hok0.1
           have GB0:=Aside0.mk gb0
           have GG0:=Aside0.mk HG0
           have HN0_g0:=Aside0.mk (show g ≠ g0 from by have h_:=IsS67.own_ne HI0.out hR0 (by decide);intro e_;exact h_ (by rw [e_];rfl))
           obtain ⟨HP0,hg0_⟩:=Kd.R_putg hR0 (0:Int) (wrap64 (rd (rd_L1 x184001_64 0) 0 + 1))
           have HS0:Aside0 (Kd.S (Kd.slice 3 (Kd.int .i64)) 22 (w77.drew.setCell ⟨g0,0,none⟩ (.int .i64 (wrap64 (rd (rd_L1 x184001_64 0) 0 + 1)))) w.heap.size (fun k_=>some k_ ≠ (u184000:Value).ownBlock) (.slice (some ⟨gW,0,none⟩) x184001_64.length coW) (x184001_64.set (0:Int).toNat ((rd_L1 x184001_64 0).set (0:Int).toNat (wrap64 ((rd (rd_L1 x184001_64 0) 0) + 1))))):=⟨by
            exact Kd.H_back (Kd.H_grown hH_ hg0_ (fun k_ e_=>by injection e_ with e_;subst e_;exact hR0.1 g0 rfl)) (x':=(rd_L1 x184001_64 0).set (0:Int).toNat (wrap64 (rd (rd_L1 x184001_64 0) 0 + 1))) ⟨_,rfl,HP0⟩ (fun _ hk=>hk)⟩
           have NG0:=Aside0.mk (show g0 ≠ gW from hok0.2)
           have nb2_:=Aside0.mk (show gb182 ≠ g0 from by have h_:=Kd.R_ne hR0 BK182.out (by decide);intro e_;exact h_ (by rw [e_];rfl))
           have nb3_:=Aside0.mk (show gb183 ≠ g0 from by have h_:=Kd.R_ne hR0 BK183.out (by decide);intro e_;exact h_ (by rw [e_];rfl))
           have c0b:=decide_eq_true HLn
           have c1b:=decide_eq_true HMn
           have c2b:(0 < x184001_64.length) = True:=eq_true (by omega)
           have c3b:(0 < (rd_L1 x184001_64 0).length) = True:=eq_true (by omega)
           have c4b:=eq_true HLn
           have c5b:=eq_true HMn
           have c6b:(0 ≤ (0:Int)) = True:=eq_true (by omega)
           clear HLn HMn gbW glW HGW hcl_ hcc_ hfr_ hoki_ hH_ hR0 gb0 gl0 HG0 hok0 HP0 hg0_
           rw [HR2.out] at HS0
           obtain ⟨uW,huW⟩:∃ u_:Value,u_ = .slice (some ⟨gW,0,none⟩) x184001_64.length coW:=⟨_,rfl⟩
           have n3_:Aside0 ((w77.drew.setCell ⟨g0,0,none⟩ (.int .i64 (wrap64 (rd (rd_L1 x184001_64 0) 0 + 1)))).heap[gb183]? = some (.cells #[u184000,uW] 28 (0,0))):=⟨by rw [huW];exact blk_far BK183.out nb3_.out _⟩
           rw [← huW] at HS0
           clear huW
           refine start_ (n:=13) (S:=fun w'=>w'.cell? ⟨gb183,1,none⟩ = some (.slice (some ⟨gW,0,none⟩) x184001_64.length coW)∧w'.cell? ⟨gW,0,none⟩ = some (.slice (some ⟨g0,0,none⟩) (rd_L1 x184001_64 0).length co0)∧w'.cell? ⟨g0,0,none⟩ = some (.int .i64 (rd (rd_L1 x184001_64 0) 0))) (ds:=[12]) #[false,false,false,false,false,false,false,false,false,false,false,false,false] (by kernel_rfl) rfl rfl ⟨(blk_cell BK183.out 1).trans rfl,hx1,hx0⟩ (fun hHeld=>?_);refine with_tabW spec_l92Chances.tab21 spec_l92Chances.bits21 (fun HT_ HW_=>?_)
           generalize w77.drew = wD_ at HS0 n3_ HO_184000 HO_184001 BK182 BK183 HI0 HK HB hx1 hx0 hf0 GGW GG0 hHeld ⊢
           refine pure_ (i:=0) (N:=some 81) (v:=?_) (a':=?_) #[true,false,false,false,false,false,false,false,false,false,false,false,false] rfl rfl (any_of HT_.out (by kernel_rfl)) (fun _ _ _ h=>h) (Or.inl ⟨by rfl,?_⟩) ?_ ?_
           rotate_left;·intro w';go_simp;with_reducible rfl
           rotate_left;·simp only [Act.put,List.setIfInBounds_toArray,List.set_cons_zero,List.set_cons_succ,i64_w,i32_w];rfl
           refine pure_ (i:=4) (N:=some 85) (v:=?_) (a':=?_) #[true,false,false,false,true,false,false,false,false,false,false,false,false] rfl rfl (any_of HT_.out (by kernel_rfl)) (fun _ _ _ h=>h) (Or.inl ⟨by rfl,?_⟩) ?_ ?_
           rotate_left;·intro w';go_simp;with_reducible rfl
           rotate_left;·simp only [Act.put,List.setIfInBounds_toArray,List.set_cons_zero,List.set_cons_succ,i64_w,i32_w];rfl
           refine take_ (i:=1) (N:=some 82) (v:=?_) (a':=?_) #[true,true,false,false,true,false,false,false,false,false,false,false,false] rfl rfl (take_ofW HT_.out HW_.out (by kernel_rfl)) (fun _ _ _ h=>h) (Or.inl ⟨by rfl,?_⟩) hHeld ?_ ?_
           rotate_left;·rintro w' ⟨s0,s1,s2⟩;go_simp;with_reducible rfl
           rotate_left;·simp only [Act.put,List.setIfInBounds_toArray,List.set_cons_zero,List.set_cons_succ,i64_w,i32_w];rfl
           refine take_ (i:=5) (N:=some 86) (v:=?_) (a':=?_) #[true,true,false,false,true,true,false,false,false,false,false,false,false] rfl rfl (take_ofW HT_.out HW_.out (by kernel_rfl)) (fun _ _ _ h=>h) (Or.inl ⟨by rfl,?_⟩) hHeld ?_ ?_
           rotate_left;·rintro w' ⟨s0,s1,s2⟩;go_simp;with_reducible rfl
           rotate_left;·simp only [Act.put,List.setIfInBounds_toArray,List.set_cons_zero,List.set_cons_succ,i64_w,i32_w];rfl
           refine pure_ (i:=2) (N:=some 83) (v:=?_) (a':=?_) #[true,true,true,false,true,true,false,false,false,false,false,false,false] rfl rfl (any_of HT_.out (by kernel_rfl)) (fun _ _ _ h=>h) (Or.inl ⟨by rfl,?_⟩) ?_ ?_
           rotate_left;·intro w';go_simp;with_reducible rfl
           rotate_left;·simp only [Act.put,List.setIfInBounds_toArray,List.set_cons_zero,List.set_cons_succ,i64_w,i32_w];rfl
           refine pure_ (i:=6) (N:=some 87) (v:=?_) (a':=?_) #[true,true,true,false,true,true,true,false,false,false,false,false,false] rfl rfl (any_of HT_.out (by kernel_rfl)) (fun _ _ _ h=>h) (Or.inl ⟨by rfl,?_⟩) ?_ ?_
           rotate_left;·intro w';go_simp;with_reducible rfl
           rotate_left;·simp only [Act.put,List.setIfInBounds_toArray,List.set_cons_zero,List.set_cons_succ,i64_w,i32_w];rfl
           refine take_ (i:=3) (N:=some 84) (v:=?_) (a':=?_) #[true,true,true,true,true,true,true,false,false,false,false,false,false] rfl rfl (take_ofW HT_.out HW_.out (by kernel_rfl)) (fun _ _ _ h=>h) (Or.inl ⟨by rfl,?_⟩) hHeld ?_ ?_
           rotate_left;·rintro w' ⟨s0,s1,s2⟩;go_simp;with_reducible rfl
           rotate_left;·simp only [Act.put,List.setIfInBounds_toArray,List.set_cons_zero,List.set_cons_succ,i64_w,i32_w];rfl
           refine take_ (i:=7) (N:=some 88) (v:=?_) (a':=?_) #[true,true,true,true,true,true,true,true,false,false,false,false,false] rfl rfl (take_ofW HT_.out HW_.out (by kernel_rfl)) (fun _ _ _ h=>h) (Or.inl ⟨by rfl,?_⟩) hHeld ?_ ?_
           rotate_left;·rintro w' ⟨s0,s1,s2⟩;go_simp;with_reducible rfl
           rotate_left;·simp only [Act.put,List.setIfInBounds_toArray,List.set_cons_zero,List.set_cons_succ,i64_w,i32_w];rfl
           refine pure_ (i:=8) (N:=some 89) (v:=?_) (a':=?_) #[true,true,true,true,true,true,true,true,true,false,false,false,false] rfl rfl (any_of HT_.out (by kernel_rfl)) (fun _ _ _ h=>h) (Or.inl ⟨by rfl,?_⟩) ?_ ?_
           rotate_left;·intro w';go_simp;with_reducible rfl
           rotate_left;·simp only [Act.put,List.setIfInBounds_toArray,List.set_cons_zero,List.set_cons_succ,i64_w,i32_w];rfl
           refine take_ (i:=9) (N:=some 90) (v:=?_) (a':=?_) #[true,true,true,true,true,true,true,true,true,true,false,false,false] rfl rfl (take_ofW HT_.out HW_.out (by kernel_rfl)) (fun _ _ _ h=>h) (Or.inl ⟨by rfl,?_⟩) hHeld ?_ ?_
           rotate_left;·rintro w' ⟨s0,s1,s2⟩;go_simp;with_reducible rfl
           rotate_left;·simp only [Act.put,List.setIfInBounds_toArray,List.set_cons_zero,List.set_cons_succ,i64_w,i32_w];rfl
           refine pure_ (i:=10) (N:=some 91) (v:=?_) (a':=?_) #[true,true,true,true,true,true,true,true,true,true,true,false,false] rfl rfl (any_of HT_.out (by kernel_rfl)) (fun _ _ _ h=>h) (Or.inl ⟨by rfl,?_⟩) ?_ ?_
           rotate_left;·intro w';go_simp;with_reducible rfl
           rotate_left;·simp only [Act.put,List.setIfInBounds_toArray,List.set_cons_zero,List.set_cons_succ,i64_w,i32_w];rfl
           refine pure_ (i:=11) (N:=some 92) (v:=?_) (a':=?_) #[true,true,true,true,true,true,true,true,true,true,true,true,false] rfl rfl (any_of HT_.out (by kernel_rfl)) (fun _ _ _ h=>h) (Or.inl ⟨by rfl,?_⟩) ?_ ?_
           rotate_left;·intro w';go_simp;with_reducible rfl
           rotate_left;·simp only [Act.put,List.setIfInBounds_toArray,List.set_cons_zero,List.set_cons_succ,i64_w,i32_w];rfl
           refine last_ (i:=12) (N:=none) #[true,true,true,true,true,true,true,true,true,true,true,true,true] rfl rfl (one_of HT_.out (by kernel_rfl)) (by decide) (fun K hK=>?_)
           refine skip_ (w1:=?_) (by rfl) rfl ?_ ?_
           rotate_left
           ·go_simp
            rfl
           refine hK.out _ _ ?_
           clear hK K
           refine done_ (done_of HT_.out (by kernel_rfl)) ?_
           have n0_:Aside0 (Kd.R (Kd.int .i64) 3 (wD_.setCell ⟨g0,0,none⟩ (.int .i64 (wrap64 (rd (rd_L1 x184001_64 0) 0 + 1)))) w.heap.size (fun _=>True) u184000 x184000_64):=⟨Kd.R_far (p:=⟨g0,0,none⟩) (Kd.R_mono (Kd.R_tight rfl HO_184000.out) (ok':=fun k_=>some k_ = (u184000:Value).ownBlock) (fun _ hk=>hk)) (fun k_ hk e_=>HOk0.out (by rw [← (show k_ = g0 from e_)];exact hk)) _ |> fun h=>Kd.R_mono h (fun _ _=>trivial)⟩
           have n2_:Aside0 ((wD_.setCell ⟨g0,0,none⟩ (.int .i64 (wrap64 (rd (rd_L1 x184001_64 0) 0 + 1)))).heap[gb182]? = some (.cells #[.slice none 0 0,.slice none 0 0] 28 (0,0))):=⟨blk_far BK182.out nb2_.out _⟩
           have n4_:Aside0 (IsS67 w0 (wD_.setCell ⟨g0,0,none⟩ (.int .i64 (wrap64 (rd (rd_L1 x184001_64 0) 0 + 1)))) g s0_0 t225):=⟨IsS67.far HI0.out HN0_g0.out _⟩
           have n5_:Aside0 (KeepBut w (wD_.setCell ⟨g0,0,none⟩ (.int .i64 (wrap64 (rd (rd_L1 x184001_64 0) 0 + 1)))) g none):=⟨keep_far HK.out GB0.out _⟩
           have n6_:Aside0 (Below w0.heap.size w0 (wD_.setCell ⟨g0,0,none⟩ (.int .i64 (wrap64 (rd (rd_L1 x184001_64 0) 0 + 1))))):=⟨below_set HB.out (Nat.le_trans HL.out GB0.out)⟩
           clear HO_184000 HO_184001 BK182 BK183 HI0 HK HB hx1 hx0 hf0 hHeld
           (try simp only [i64_w] at ⊢)
           generalize hX_:(wD_.setCell ⟨g0,0,none⟩ (.int .i64 (wrap64 (rd (rd_L1 x184001_64 0) 0 + 1)))) = wX at HS0 n0_ n2_ n3_ n4_ n5_ n6_ ⊢
           clear hX_
           have HO_184000:=n0_
           have HO_184001:=HS0
           have BK182:=n2_
           have BK183:=n3_
           have HI0:=n4_
           have HK:=n5_
           have HB:=n6_
           clear n0_ n2_ n3_ n4_ n5_ n6_ HS0
           have hnb79:=NB183_182.out
           have hnc79:=NB182_183.out
           have hnb80:=NB183_0.out
           have hnc80:=NB0_183.out
           have hcz81_0:wX.cell? ⟨gb183,0,none⟩ = some (u184000):=(blk_cell BK183.out 0).trans rfl
           have hcz81_1:wX.cell? ⟨gb183,1,none⟩ = some (uW):=(blk_cell BK183.out 1).trans rfl
           have hfz81_0:=blk_frozen BK183.out 0
           have hfz81_1:=blk_frozen BK183.out 1
           obtain ⟨Ao82,co82,eo82⟩:=Kd.R_slice HO_184000.out
           subst eo82
           have hnb83:=NB182_0.out
           have hnc83:=NB0_182.out
           have hcz84_0:wX.cell? ⟨gb182,0,none⟩ = some (.slice none 0 0):=(blk_cell BK182.out 0).trans rfl
           have hcz84_1:wX.cell? ⟨gb182,1,none⟩ = some (.slice none 0 0):=(blk_cell BK182.out 1).trans rfl
           have hfz84_0:=blk_frozen BK182.out 0
           have hfz84_1:=blk_frozen BK182.out 1
           obtain ⟨Ao85,co85,eo85⟩:=Kd.S_slice HO_184001.out
           subst eo85
           try go_wp2
           refine bodyPost_ret (results_cell_row rfl _ _ gb182 28 #[.slice Ao82 x184000_64.length co82,.slice Ao85 r2.length co85] (0,0) _ rfl (by refine blk_put (cs:=#[.slice Ao82 x184000_64.length co82,.slice none 0 0]) ?_ 1 _ rfl;refine blk_put (cs:=#[.slice none 0 0,.slice none 0 0]) ?_ 0 _ rfl;exact BK182.out) Try.underlying28 rfl (by kernel_rfl)) rfl ?_
           exact ⟨_,_,rfl,by exact Kd.R_mono (Kd.R_bound (Kd.R_mono (ok':=fun _=>True) (Kd.R_far (p:=⟨gb182,1,none⟩) (Kd.R_far (p:=⟨gb182,0,none⟩) (Kd.R_types HO_184000.out BK182.out (by decide)) (fun _ hk=>hk.2) (.slice Ao82 x184000_64.length co82)) (fun _ hk=>hk.2) (.slice Ao85 r2.length co85)) (fun _ hk=>trivial))) (fun _ hk=>hk.2.1),by refine Kd.N_mono (Kd.S_N (Kd.S_bound (ok:=fun k_=>some k_ ≠ (.slice Ao82 x184000_64.length co82:Value).ownBlock) ?_)) (fun _ hk=>⟨hk.2.1,hk.1⟩);exact Kd.S_mono (Kd.S_far (p:=⟨gb182,1,none⟩) (Kd.S_far (p:=⟨gb182,0,none⟩) (Kd.S_types HO_184001.out BK182.out (by decide)) (fun _ hk=>hk.2) (.slice Ao82 x184000_64.length co82)) (fun _ hk=>hk.2) (.slice Ao85 r2.length co85)) (fun _ hk=>hk.1),by repeat (with_reducible first | exact HI0.out | apply IsS67.alloc | apply IsS67.drewN | apply IsS67.drew | apply IsS67.set_1 | refine IsS67.far ?_ NB0_182.out _ | refine IsS67.far ?_ NB0_183.out _),by repeat (with_reducible first | exact HB.out | apply below_alloc | apply pw_below_drewN | apply below_drew1 | refine below_set ?_ (IsS67.ge HI0.out) | refine below_set ?_ GE182.out | refine below_set ?_ GE183.out),by repeat (with_reducible first | exact HK.out | apply KeepBut.set_ | apply keep_drewN | apply keep_drew | apply keep_alloc | refine keep_far ?_ GW182.out _ | refine keep_far ?_ GW183.out _)⟩
          ·rw [if_neg cM_] at H
           exact absurd H (by simp)
         ·rw [if_neg cL_] at H
          exact absurd H (by simp)
        ·rw [if_neg c85] at H
         have HS:=HO_184001
         have n0_:=Aside0.mk (show Kd.R (Kd.int .i64) 3 _ w.heap.size (fun k_=>(w.heap.size ≤ k_)) u184000 x184000_64 from Kd.R_mono (Kd.R_bound HO_184000.out) (fun _ hk=>hk.2.1))
         have n1_:=Aside0.mk (show Kd.N (Kd.slice 3 (Kd.int .i64)) 22 _ w.heap.size (fun k_=>(w.heap.size ≤ k_)∧some k_ ≠ (u184000:Value).ownBlock∧k_ ≠ gb182∧k_ ≠ gb183∧k_ ≠ g) u184001 x184001_64 from Kd.N_mono (Kd.S_N (IsS67.apartS HI0.out (Kd.S_types (Kd.S_types (Kd.S_bound HS.out) BK182.out (by decide)) BK183.out (by decide)) (by decide))) (fun _ hk=>⟨hk.1.1.1.2.1,hk.1.1.1.1,hk.1.1.2,hk.1.2,hk.2⟩))
         clear HO_184000 HO_184001
         have HO_184000:=n0_
         have HO_184001:=n1_
         clear n0_ n1_
         clear HS
         have c85b0:(t224 == 0) = false:=beq_eq_false_iff_ne.mpr c85
         have c85b1:(t224 != 0) = true:=bne_iff_ne.mpr c85
         by_cases c95:t224 = 1
         ·rw [if_pos c95] at H
          have c95b0:(t224 == 1) = true:=beq_iff_eq.mpr c95
          have c95b1:(t224 != 1) = false:=bne_eq_false_iff_eq.mpr c95
          clear c95
          by_cases c96:0 < (x184000_64.length:Int)
          ·rw [if_pos c96] at H
           have c96b0:decide (0 < (x184000_64.length:Int)) = true:=decide_eq_true c96
           have c96b1:decide (0 < x184000_64.length) = true:=decide_eq_true (by omega)
           clear c96
           obtain ⟨y226,hy226⟩:∃ y_:List Int,y_ = (x184000_64.set (0:Int).toNat 10):=⟨_,rfl⟩
           replace H:(some (y226,x184001_64,t225)) = some (r1,r2,r3):=by rw [hy226];exact H
           have Ny226:=Aside0.mk hy226
           clear hy226
           simp only [Option.some.injEq,Prod.mk.injEq] at H
           obtain ⟨rfl,rfl,rfl⟩:=H
           go_wp2_with (first | ((with_reducible refine gate_callee (f:=48) rfl ?_);refine goesL_ (some 78) rfl rfl Try.func48 (by kernel_rfl) rfl #[.pointer (some ⟨g,0,none⟩),.int .i64 30] rfl (by (try simp only [List.map_toArray,List.map_cons,List.map_nil]);first | done | rfl | (simp only [List.length_drop,List.length_take];rfl)) ?_;(with_reducible refine (spec_l6Rd_pick.calls kj64 g s0_0 x1001_60 30 t224 t225 w0 _ ?side1 ?side2 A84.out).mono ?_);(case side1=>repeat (with_reducible first | exact HI0.out | apply IsS67.alloc | apply IsS67.drewN | apply IsS67.drew | apply IsS67.set_1 | refine IsS67.far ?_ NB0_182.out _ | refine IsS67.far ?_ NB0_183.out _));(case side2=>repeat (with_reducible first | exact HB.out | apply below_alloc | apply pw_below_drewN | apply below_drew1 | refine below_set ?_ (IsS67.ge HI0.out) | refine below_set ?_ GE182.out | refine below_set ?_ GE183.out));rintro e w98 ⟨rfl,hi,hb,hk⟩;refine ⟨_,rfl,?_⟩;have n0_:=Aside0.mk (Kd.R_mono (Kd.R_keep (IsS67.apart (show IsS67 w0 _ g s0_0 x1001_60 from by repeat (with_reducible first | exact HI0.out | apply IsS67.alloc | apply IsS67.drewN | apply IsS67.drew | apply IsS67.set_1 | refine IsS67.far ?_ NB0_182.out _ | refine IsS67.far ?_ NB0_183.out _)) (by exact HO_184000.out) (by decide)) hk (fun _ h=>h.2)) (fun _ h=>h.1));have n1_:=Aside0.mk (Kd.N_mono (Kd.N_keep (Kd.N_mono (ok:=fun k_=>(((w.heap.size ≤ k_))∧(some k_ ≠ (u184000:Value).ownBlock∧(k_ ≠ gb182∧(k_ ≠ gb183∧k_ ≠ g))))) (by exact HO_184001.out) (fun k_ hk_=>(⟨hk_,hk_.2.2.2.2⟩:_∧k_ ≠ g))) hk (fun _ h=>h.2)) (fun _ h=>h.1));have n2_:=Aside0.mk (KeepBut.blk hk (g':=gb182) (o:=.cells #[.slice none 0 0,.slice none 0 0] 28 (0,0)) (by exact BK182.out) NB182_0.out (by simp));have n3_:=Aside0.mk (KeepBut.blk hk (g':=gb183) (o:=.cells #[u184000,u184001] 28 (0,0)) (by exact BK183.out) NB183_0.out (by simp));have n4_:=Aside0.mk (KeepBut.trans (by repeat (with_reducible first | exact HK.out | apply KeepBut.set_ | apply keep_drewN | apply keep_drew | apply keep_alloc | refine keep_far ?_ GW182.out _ | refine keep_far ?_ GW183.out _)) hk (.inl rfl));have n5_:=Aside0.mk (hb);have n6_:=Aside0.mk (hi);clear HO_184000;clear HO_184001;clear BK182;clear BK183;clear HK;clear HB;clear HI0;have HO_184000:=n0_;have HO_184001:=n1_;have BK182:=n2_;have BK183:=n3_;have HK:=n4_;have HB:=n5_;have HI0:=n6_;clear n0_ n1_ n2_ n3_ n4_ n5_ n6_;(try clear hb);(try clear hb2);(try clear hk);(try clear hi);have hnb99:=NB183_182.out;have hnc99:=NB182_183.out;have hnb100:=NB183_0.out;have hnc100:=NB0_183.out;have hcz101_0:w98.cell? ⟨gb183,0,none⟩ = some (u184000):=(blk_cell BK183.out 0).trans rfl;have hcz101_1:w98.cell? ⟨gb183,1,none⟩ = some (u184001):=(blk_cell BK183.out 1).trans rfl;have hfz101_0:=blk_frozen BK183.out 0;have hfz101_1:=blk_frozen BK183.out 1;have p97:0 ≤ (0:Int):=(by omega);have q97:(0:Int) < ((x184000_64.length:Int):Int):=of_decide_eq_true (by assumption);have qi97:(0 < x184000_64.length) = True:=eq_true (by omega);obtain ⟨go97,co97,eo97,gb97,gl97,cl97,HG97⟩:=Kd.R_form HO_184000.out (by omega);(first | cases eo97 | (injection eo97 with ea_ en_ ec_;(first | subst ea_ | (injection ea_ with ea_;subst ea_));subst ec_;clear en_));have GB97:=Aside0.mk gb97;have GG97:=Aside0.mk HG97;clear gb97 gl97 HG97;obtain ⟨hx97_0,hf97_0⟩:=Kd.R_celln 0 HO_184000.out (0:Int) p97 q97;(try rw [show ((0:Int)).toNat = 0 from rfl] at hx97_0);(try simp only [Nat.reduceMul,Nat.zero_mul,Nat.zero_add,Nat.reduceAdd] at hx97_0);(try rw [show ((0:Int)).toNat = 0 from rfl] at hf97_0);(try simp only [Nat.reduceMul,Nat.zero_mul,Nat.zero_add,Nat.reduceAdd] at hf97_0);replace p97:=eq_true p97;replace q97:=eq_true q97;obtain ⟨hy102_,hz102_⟩:=Kd.R_celln 0 HO_184000.out (0:Int) (by omega) (of_decide_eq_true (by assumption));(try simp only [Int.reduceToNat,Int.toNat_zero,Int.toNat_ofNat,Nat.reduceMul,Nat.zero_mul,Nat.zero_add] at hy102_ hz102_);(try rw [show ((0:Int)).toNat = 0 from rfl] at hy102_);(try rw [show ((0:Int)).toNat = 0 from rfl] at hz102_);have HP102:=Kd.R_putg HO_184000.out (0:Int) 10) | ((with_reducible refine gate_store (t:=3) (p:=97) rfl ?_);refine store_event (t:=3) (p:=97) (v:=?vo_w103) (w1:=(w98.setCell ⟨go97,(0:Int).toNat,none⟩ (.int .i64 10))) ?hg ?ho ?hn ?hr ?_;(case ho=>rfl);(case hg=>rfl);(case hn=>rfl);(case hr=>first | (go_simp;done) | (go_simp;rfl));intro w103 hw;have hg:w98.grownBy w103 (some go97):=(by rw [hw];exact HP102.2);have hp_:Kd.R (Kd.int .i64) 3 w103 w.heap.size (fun k_=>(w.heap.size ≤ k_)) (.slice (some ⟨go97,0,none⟩) x184000_64.length co97) y226:=(by rw [hw,Ny226.out];exact HP102.1);clear HP102;have n0_:=Aside0.mk (hp_);have n1_:=Aside0.mk (Kd.N_afterv (v:=(.slice (some ⟨go97,0,none⟩) x184000_64.length co97)) (v1:=(.slice (some ⟨go97,0,none⟩) x184000_64.length co97)) (ok:=(fun k_=>(w.heap.size ≤ k_)∧k_ ≠ gb182∧k_ ≠ gb183∧k_ ≠ g)) (by exact Kd.N_mono HO_184001.out (fun _ hk=>⟨⟨hk.1,⟨hk.2.2.1,⟨hk.2.2.2.1,hk.2.2.2.2⟩⟩⟩,hk.2.1⟩)) hg (.inl rfl));have n2_:=Aside0.mk (blk_grown (g:=gb182) (o:=.cells #[.slice none 0 0,.slice none 0 0] 28 (0,0)) (by exact BK182.out) hg (Kd.R_ne HO_184000.out BK182.out (by decide)));have n3_:=Aside0.mk (blk_grown (g:=gb183) (o:=.cells #[.slice (some ⟨go97,0,none⟩) x184000_64.length co97,u184001] 28 (0,0)) (by exact BK183.out) hg (Kd.R_ne HO_184000.out BK183.out (by decide)));have n4_:=Aside0.mk (IsS67.grown (by repeat (with_reducible first | exact HI0.out | apply IsS67.alloc | apply IsS67.drewN | apply IsS67.drew | apply IsS67.set_1 | refine IsS67.far ?_ NB0_182.out _ | refine IsS67.far ?_ NB0_183.out _)) hg (IsS67.own_ne HI0.out HO_184000.out (by decide)));have n5_:=Aside0.mk ((by rw [hw];exact below_set (HB.out) (Nat.le_trans HL.out GB97.out):Below w0.heap.size w0 w103));have n6_:=Aside0.mk (KeepBut.trans (by repeat (with_reducible first | exact HK.out | apply KeepBut.set_ | apply keep_drewN | apply keep_drew | apply keep_alloc | refine keep_far ?_ GW182.out _ | refine keep_far ?_ GW183.out _)) (KeepBut.of_grown hg g) (Kd.R_base2 HO_184000.out));clear HO_184000;clear HO_184001;clear BK182;clear BK183;clear HI0;clear HB;clear HK;have HO_184000:=n0_;have HO_184001:=n1_;have BK182:=n2_;have BK183:=n3_;have HI0:=n4_;have HB:=n5_;have HK:=n6_;clear n0_ n1_ n2_ n3_ n4_ n5_ n6_;clear hg hw hp_;have hcz104_0:w103.cell? ⟨gb183,0,none⟩ = some (.slice (some ⟨go97,0,none⟩) x184000_64.length co97):=(blk_cell BK183.out 0).trans rfl;have hcz104_1:w103.cell? ⟨gb183,1,none⟩ = some (u184001):=(blk_cell BK183.out 1).trans rfl;have hfz104_0:=blk_frozen BK183.out 0;have hfz104_1:=blk_frozen BK183.out 1;have hnb105:=NB182_0.out;have hnc105:=NB0_182.out;have hcz106_0:w103.cell? ⟨gb182,0,none⟩ = some (.slice none 0 0):=(blk_cell BK182.out 0).trans rfl;have hcz106_1:w103.cell? ⟨gb182,1,none⟩ = some (.slice none 0 0):=(blk_cell BK182.out 1).trans rfl;have hfz106_0:=blk_frozen BK182.out 0;have hfz106_1:=blk_frozen BK182.out 1;obtain ⟨Ao107,co107,eo107⟩:=Kd.N_slice HO_184001.out;subst eo107))
           refine bodyPost_ret (results_cell_row rfl _ _ gb182 28 #[.slice (some ⟨go97,0,none⟩) x184000_64.length co97,.slice Ao107 x184001_64.length co107] (0,0) _ rfl (by refine blk_put (cs:=#[.slice (some ⟨go97,0,none⟩) x184000_64.length co97,.slice none 0 0]) ?_ 1 _ rfl;refine blk_put (cs:=#[.slice none 0 0,.slice none 0 0]) ?_ 0 _ rfl;exact BK182.out) Try.underlying28 rfl (by kernel_rfl)) rfl ?_
           exact ⟨_,_,rfl,by exact Kd.R_mono (Kd.R_far (p:=⟨gb182,1,none⟩) (Kd.R_far (p:=⟨gb182,0,none⟩) (Kd.R_types HO_184000.out BK182.out (by decide)) (fun _ hk=>hk.2) (.slice (some ⟨go97,0,none⟩) x184000_64.length co97)) (fun _ hk=>hk.2) (.slice Ao107 x184001_64.length co107)) (fun _ hk=>hk.1),by exact Kd.N_mono (Kd.N_far (p:=⟨gb182,1,none⟩) (Kd.N_far (p:=⟨gb182,0,none⟩) (Kd.N_mono HO_184001.out (fun k_ hk=>(⟨hk,hk.1.2.1⟩:_∧k_ ≠ gb182))) (fun _ hk=>hk.2) (.slice (some ⟨go97,0,none⟩) x184000_64.length co97)) (fun _ hk=>hk.2) (.slice Ao107 x184001_64.length co107)) (fun _ hk=>⟨hk.1.1.1,hk.1.2⟩),by repeat (with_reducible first | exact HI0.out | apply IsS67.alloc | apply IsS67.drewN | apply IsS67.drew | apply IsS67.set_1 | refine IsS67.far ?_ NB0_182.out _ | refine IsS67.far ?_ NB0_183.out _),by repeat (with_reducible first | exact HB.out | apply below_alloc | apply pw_below_drewN | apply below_drew1 | refine below_set ?_ (IsS67.ge HI0.out) | refine below_set ?_ GE182.out | refine below_set ?_ GE183.out),by repeat (with_reducible first | exact HK.out | apply KeepBut.set_ | apply keep_drewN | apply keep_drew | apply keep_alloc | refine keep_far ?_ GW182.out _ | refine keep_far ?_ GW183.out _)⟩
          ·rw [if_neg c96] at H
           exact absurd H (by simp)
         ·rw [if_neg c95] at H
          have c95b0:(t224 == 1) = false:=beq_eq_false_iff_ne.mpr c95
          have c95b1:(t224 != 1) = true:=bne_iff_ne.mpr c95
          by_cases c108:t224 = 2
          ·rw [if_pos c108] at H
           have c108b0:(t224 == 2) = true:=beq_iff_eq.mpr c108
           have c108b1:(t224 != 2) = false:=bne_eq_false_iff_eq.mpr c108
           clear c108
           by_cases c109:0 < (x184001_64.length:Int)
           ·rw [if_pos c109] at H
            have c109b0:decide (0 < (x184001_64.length:Int)) = true:=decide_eq_true c109
            have c109b1:decide (0 < x184001_64.length) = true:=decide_eq_true (by omega)
            clear c109
            by_cases c110:1 ≤ ((rd_L1 x184001_64 0).length:Int)
            ·rw [if_pos c110] at H
             have c110b0:=eq_true c110
             have c110b1:decide (1 ≤ ((rd_L1 x184001_64 0).length:Int)) = true:=decide_eq_true c110
             clear c110
             obtain ⟨y228,hy228⟩:∃ y_:List Int,y_ = ((rd_L1 x184001_64 0).drop 1):=⟨_,rfl⟩
             replace H:(some (x184000_64,(x184001_64.set (0:Int).toNat y228),t225)) = some (r1,r2,r3):=by rw [hy228];exact H
             have Ny228:=Aside0.mk hy228
             clear hy228
             obtain ⟨y233,hy233⟩:∃ y_:List (List Int),y_ = (x184001_64.set (0:Int).toNat y228):=⟨_,rfl⟩
             replace H:(some (x184000_64,y233,t225)) = some (r1,r2,r3):=by rw [hy233];exact H
             have Ny233:=Aside0.mk hy233
             clear hy233
             simp only [Option.some.injEq,Prod.mk.injEq] at H
             obtain ⟨rfl,rfl,rfl⟩:=H
             try go_wp2_with (first | ((with_reducible refine gate_callee (f:=48) rfl ?_);refine goesL_ (some 78) rfl rfl Try.func48 (by kernel_rfl) rfl #[.pointer (some ⟨g,0,none⟩),.int .i64 30] rfl (by (try simp only [List.map_toArray,List.map_cons,List.map_nil]);first | done | rfl | (simp only [List.length_drop,List.length_take];rfl)) ?_;(with_reducible refine (spec_l6Rd_pick.calls kj64 g s0_0 x1001_60 30 t224 t225 w0 _ ?side1 ?side2 A84.out).mono ?_);(case side1=>repeat (with_reducible first | exact HI0.out | apply IsS67.alloc | apply IsS67.drewN | apply IsS67.drew | apply IsS67.set_1 | refine IsS67.far ?_ NB0_182.out _ | refine IsS67.far ?_ NB0_183.out _));(case side2=>repeat (with_reducible first | exact HB.out | apply below_alloc | apply pw_below_drewN | apply below_drew1 | refine below_set ?_ (IsS67.ge HI0.out) | refine below_set ?_ GE182.out | refine below_set ?_ GE183.out));rintro e w112 ⟨rfl,hi,hb,hk⟩;refine ⟨_,rfl,?_⟩;have n0_:=Aside0.mk (Kd.R_mono (Kd.R_keep (IsS67.apart (show IsS67 w0 _ g s0_0 x1001_60 from by repeat (with_reducible first | exact HI0.out | apply IsS67.alloc | apply IsS67.drewN | apply IsS67.drew | apply IsS67.set_1 | refine IsS67.far ?_ NB0_182.out _ | refine IsS67.far ?_ NB0_183.out _)) (by exact HO_184000.out) (by decide)) hk (fun _ h=>h.2)) (fun _ h=>h.1));have n1_:=Aside0.mk (Kd.N_mono (Kd.N_keep (Kd.N_mono (ok:=fun k_=>(((w.heap.size ≤ k_))∧(some k_ ≠ (u184000:Value).ownBlock∧(k_ ≠ gb182∧(k_ ≠ gb183∧k_ ≠ g))))) (by exact HO_184001.out) (fun k_ hk_=>(⟨hk_,hk_.2.2.2.2⟩:_∧k_ ≠ g))) hk (fun _ h=>h.2)) (fun _ h=>h.1));have n2_:=Aside0.mk (KeepBut.blk hk (g':=gb182) (o:=.cells #[.slice none 0 0,.slice none 0 0] 28 (0,0)) (by exact BK182.out) NB182_0.out (by simp));have n3_:=Aside0.mk (KeepBut.blk hk (g':=gb183) (o:=.cells #[u184000,u184001] 28 (0,0)) (by exact BK183.out) NB183_0.out (by simp));have n4_:=Aside0.mk (KeepBut.trans (by repeat (with_reducible first | exact HK.out | apply KeepBut.set_ | apply keep_drewN | apply keep_drew | apply keep_alloc | refine keep_far ?_ GW182.out _ | refine keep_far ?_ GW183.out _)) hk (.inl rfl));have n5_:=Aside0.mk (hb);have n6_:=Aside0.mk (hi);clear HO_184000;clear HO_184001;clear BK182;clear BK183;clear HK;clear HB;clear HI0;have HO_184000:=n0_;have HO_184001:=n1_;have BK182:=n2_;have BK183:=n3_;have HK:=n4_;have HB:=n5_;have HI0:=n6_;clear n0_ n1_ n2_ n3_ n4_ n5_ n6_;(try clear hb);(try clear hb2);(try clear hk);(try clear hi)))
             have n0_:=Aside0.mk (Kd.R_drew HO_184000.out)
             have n1_:=Aside0.mk (Kd.N_drew HO_184001.out)
             have n2_:=Aside0.mk (blk_drew BK182.out)
             have n3_:=Aside0.mk (blk_drew BK183.out)
             have n4_:=Aside0.mk (IsS67.drew HI0.out)
             have n5_:=Aside0.mk (keep_drew HK.out)
             have n6_:=Aside0.mk (below_drew1 HB.out)
             clear HO_184000
             clear HO_184001
             clear BK182
             clear BK183
             clear HI0
             clear HK
             clear HB
             have HO_184000:=n0_
             have HO_184001:=n1_
             have BK182:=n2_
             have BK183:=n3_
             have HI0:=n4_
             have HK:=n5_
             have HB:=n6_
             clear n0_ n1_ n2_ n3_ n4_ n5_ n6_
             obtain ⟨Ao114,co114,eo114⟩:=Kd.N_slice HO_184001.out
             (first | subst eo114 | (injection eo114 with f1_ f2_ f3_;have f4_:=f1_.symm;have f5_:=f3_.symm;clear f1_ f2_ f3_;subst f4_;subst f5_))
             have p227:0 ≤ (0:Int):=(by omega)
             have q227:0 < (x184001_64.length:Int):=of_decide_eq_true (by assumption)
             obtain ⟨ad227,A227_0,c227_0,e227,hx227_0,hl227_0,hi227_0⟩:=at_L1 (Kd.N_reads' HO_184001.out).2.2 0 p227 q227
             cases e227
             obtain ⟨ce227,hce227,hMe227,hcc227⟩:=Kd.N_get HO_184001.out [] 0 p227 (by first | exact q227 | exact of_decide_eq_true (by assumption) | (have e_:=(Kd.N_reads' HO_184001.out).1;omega))
             obtain ⟨ua227_0,uc227_0,rfl,ul227_0,ge227_0⟩:=Kd.FK_slice_open hMe227
             have hv227_0:=hcc227 0 _ rfl
             rw [Nat.add_zero,show ((Kd.slice 3 (Kd.int .i64))).sz = 1 from rfl,Nat.mul_one] at hv227_0
             replace hv227_0:=Option.some.inj (hv227_0.symm.trans hx227_0)
             injection hv227_0 with hva_ hvn_ hvc_
             rw [hva_] at ge227_0
             rw [hvc_] at ul227_0
             have HL227_0:=Aside0.mk (show Kd.V (Kd.int .i64) 3 _ w.heap.size _ _ (rd_L1 x184001_64 0) from Kd.V_mk ul227_0 ge227_0)
             clear hva_ hvn_ hvc_ ge227_0 ul227_0
             clear hcc227 hce227
             have qi227:(0 < x184001_64.length) = True:=eq_true (by omega)
             (try rw [show ((0:Int)).toNat = 0 from rfl] at hx227_0)
             (try rw [Addr.add_zero'] at hx227_0)
             have HR227_0:=Aside0.mk hi227_0
             have HC227_0:=Aside0.mk hl227_0
             clear hi227_0 hl227_0
             replace p227:=eq_true p227
             replace q227:=eq_true q227
             have q115:(1:Int) ≤ (((rd_L1 x184001_64 0).length:Int):Int):=of_decide_eq_true (by assumption)
             obtain ⟨i0115,hi0115,_,hsz115,_⟩:=info_parts info3
             have hroom115:(rd_L1 x184001_64 0).length ≤ c227_0:=HC227_0.out
             have hC115:Kd.F (Kd.int .i64) _ _ A227_0 (rd_L1 x184001_64 0).length (rd_L1 x184001_64 0):=(Kd.V_at (base:=w.heap.size) HL227_0.out).2.2
             have hcut115:=cut_from (P:=Try.prog) 22 3 .i64 Try.underlying22 hi0115 1 hsz115 A227_0 (rd_L1 x184001_64 0).length c227_0 1 (by omega) q115
             have hr115:=Kd.F_cut (m:=(1:Int).toNat) (c:=c227_0) hC115 (by omega) hroom115
             obtain ⟨A115,hA115⟩:∃ A1,A1 = (if c227_0 = (1:Int).toNat then A227_0 else (A227_0:Option Addr).map (·.add ((1:Int).toNat * 1))):=⟨_,rfl⟩
             obtain ⟨c115,hc115⟩:∃ c1,c1 = c227_0 - (1:Int).toNat:=⟨_,rfl⟩
             have hy115:y228.length = (rd_L1 x184001_64 0).length - (1:Int).toNat:=(by rw [Ny228.out,List.length_drop] <;> omega)
             rw [show (rd_L1 x184001_64 0).drop (1:Int).toNat = y228 from Ny228.out.symm] at hr115
             replace hr115:Kd.F (Kd.int .i64) _ _ A115 y228.length y228:=(by rw [hA115];exact hr115)
             rw [← hy115,← hA115,← hc115] at hcut115
             have HO232:=Aside0.mk (show Kd.V (Kd.int .i64) 3 _ w.heap.size _ (.slice A115 y228.length c115) y228 from Kd.V_mk (by rw [hy115,hc115];exact Nat.sub_le_sub_right hroom115 _) hr115)
             have HC232:=Aside0.mk (show y228.length ≤ c115 from by rw [hy115,hc115];exact Nat.sub_le_sub_right hroom115 _)
             clear hr115 hC115 hroom115 hi0115 hsz115 hc115
             have KY115:=Aside0.mk hy115
             have KA115:=Aside0.mk hA115
             clear hy115 hA115
             replace q115:=eq_true q115
             have p111:0 ≤ (0:Int):=(by omega)
             have q111:(0:Int) < ((x184001_64.length:Int):Int):=of_decide_eq_true (by assumption)
             have qi111:(0 < x184001_64.length) = True:=eq_true (by omega)
             obtain ⟨go111,co111,eo111,gb111,gl111,cl111,HG111⟩:=Kd.N_form HO_184001.out (by omega)
             (first | cases eo111 | (injection eo111 with ea_ en_ ec_;(first | subst ea_ | (injection ea_ with ea_;subst ea_));subst ec_;clear en_))
             have GB111:=Aside0.mk gb111
             have GG111:=Aside0.mk HG111
             clear gb111 gl111 HG111
             (first | simp only [add_plain] at hx227_0 | skip)
             obtain ⟨ce111,hcl111,hM111,hcc111,hfr111⟩:=Kd.N_elem HO_184001.out [] (0:Int) p111 q111
             obtain ⟨ua111_0,uc111_0,rfl,ul111_0,ge111_0⟩:=Kd.FK_slice_open hM111
             have hx111_0:=hcc111 0 _ rfl
             have hf111_0:=hfr111 0
             (try simp only [show ((Kd.slice 3 (Kd.int .i64))).sz = 1 from rfl,Nat.mul_one,Nat.add_zero] at hx111_0)
             (try simp only [show ((Kd.slice 3 (Kd.int .i64))).sz = 1 from rfl,Nat.mul_one,Nat.add_zero] at hf111_0)
             clear hcl111 hcc111 hfr111;(try clear hM111)
             (try rw [show ((0:Int)).toNat = 0 from rfl] at hx111_0)
             (try simp only [Nat.reduceMul,Nat.zero_mul,Nat.zero_add,Nat.reduceAdd] at hx111_0)
             (try rw [show ((0:Int)).toNat = 0 from rfl] at hf111_0)
             (try simp only [Nat.reduceMul,Nat.zero_mul,Nat.zero_add,Nat.reduceAdd] at hf111_0)
             replace p111:=eq_true p111
             replace q111:=eq_true q111
             have HN0_go111:=Aside0.mk (show g ≠ go111 from by have h_:=IsS67.own_neN HI0.out HO_184001.out (by decide);intro e_;exact h_ (by rw [e_];rfl))
             have HX116:=Aside0.mk (show Kd.N (Kd.slice 3 (Kd.int .i64)) 22 _ w.heap.size (fun k_=>(w.heap.size ≤ k_)∧some k_ ≠ (u184000:Value).ownBlock∧k_ ≠ gb182∧k_ ≠ gb183∧k_ ≠ g) (.slice (some ⟨go111,0,none⟩) x184001_64.length co114) x184001_64 from (Kd.N_mono (HO_184001.out) (fun k_ hk=>⟨hk.1,⟨hk.2.1,⟨hk.2.2.1,⟨hk.2.2.2.1,hk.2.2.2.2⟩⟩⟩⟩)))
             obtain ⟨ce116,hcl116,hM116,hcc116,hfr116⟩:=Kd.N_elem HX116.out [] (0:Int) (by omega) (by have h_:(0:Int) < ((x184001_64.length:Int):Int):=of_decide_eq_true (by assumption);first | exact h_ | (have e_:=(Kd.N_reads' HO_184001.out).1;omega) | simpa using h_)
             obtain ⟨ua116_0,uc116_0,rfl,ul116_0,ge116_0⟩:=Kd.FK_slice_open hM116
             have HP116:=(Kd.N_seg HX116.out (0:Int) (by omega) (by have h_:(0:Int) < ((x184001_64.length:Int):Int):=of_decide_eq_true (by assumption);first | exact h_ | (have e_:=(Kd.N_reads' HO_184001.out).1;omega) | simpa using h_) (seg:=[.slice A115 y228.length c115]) (j:=0) hcl116 hcc116 (show 1 ≤ 1 from by decide) (x':=y228) (Kd.FK_slice_mk (Kd.V_reads' (Kd.V_mono (ok':=(fun k_=>((fun k_=>(w.heap.size ≤ k_)∧some k_ ≠ (u184000:Value).ownBlock∧k_ ≠ gb182∧k_ ≠ gb183∧k_ ≠ g)) k_∧k_ ≠ go111)) (HO232.out) (fun k_ hk=>⟨⟨hk.1.1,⟨hk.1.2.1,⟨hk.1.2.2.1,⟨hk.1.2.2.2.1,hk.1.2.2.2.2⟩⟩⟩⟩,fun e_=>(hk.2) (by rw [e_];rfl)⟩))).2.1 (Kd.V_F (Kd.V_mono (ok':=(fun k_=>((fun k_=>(w.heap.size ≤ k_)∧some k_ ≠ (u184000:Value).ownBlock∧k_ ≠ gb182∧k_ ≠ gb183∧k_ ≠ g)) k_∧k_ ≠ go111)) (HO232.out) (fun k_ hk=>⟨⟨hk.1.1,⟨hk.1.2.1,⟨hk.1.2.2.1,⟨hk.1.2.2.2.1,hk.1.2.2.2.2⟩⟩⟩⟩,fun e_=>(hk.2) (by rw [e_];rfl)⟩)))) (fun _ hk=>hk)).1
             (try simp only [show ((Kd.slice 3 (Kd.int .i64))).sz = 1 from rfl,Nat.mul_one,Nat.add_zero] at HP116)
             rw [← Ny233.out] at HP116
             have HQ116:=Aside0.mk HP116
             clear hcl116 hcc116 hfr116;(try clear hM116);clear HP116
             refine start_ (n:=9) (S:=fun w'=>w'.cell? ⟨gb183,0,none⟩ = some (u184000)∧w'.cell? ⟨gb183,1,none⟩ = some (.slice (some ⟨go111,0,none⟩) x184001_64.length co114)∧w'.cell? ⟨go111,0,none⟩ = some (.slice A227_0 (rd_L1 x184001_64 0).length c227_0)) (ds:=[8]) #[false,false,false,false,false,false,false,false,false] (by kernel_rfl) rfl rfl ⟨(blk_cell BK183.out 0).trans rfl,(blk_cell BK183.out 1).trans rfl,hx227_0⟩ (fun hHeld=>?_);refine with_tabW spec_l92Chances.tab25 spec_l92Chances.bits25 (fun HT_ HW_=>?_)
             generalize w112.drew = w113 at HO_184000 HO_184001 BK182 BK183 HI0 HK HB GG111 HL227_0 HO232 HQ116 HR227_0 hf111_0 hx111_0 hx227_0 hHeld ⊢
             refine pure_ (i:=0) (N:=some 100) (v:=?_) (a':=?_) #[true,false,false,false,false,false,false,false,false] rfl rfl (any_of HT_.out (by kernel_rfl)) (fun _ _ _ h=>h) (Or.inl ⟨by rfl,?_⟩) ?_ ?_
             rotate_left;·intro w';go_simp;with_reducible rfl
             rotate_left;·simp only [Act.put,List.setIfInBounds_toArray,List.set_cons_zero,List.set_cons_succ,i64_w,i32_w];rfl
             refine pure_ (i:=2) (N:=some 102) (v:=?_) (a':=?_) #[true,false,true,false,false,false,false,false,false] rfl rfl (any_of HT_.out (by kernel_rfl)) (fun _ _ _ h=>h) (Or.inl ⟨by rfl,?_⟩) ?_ ?_
             rotate_left;·intro w';go_simp;with_reducible rfl
             rotate_left;·simp only [Act.put,List.setIfInBounds_toArray,List.set_cons_zero,List.set_cons_succ,i64_w,i32_w];rfl
             refine take_ (i:=1) (N:=some 101) (v:=?_) (a':=?_) #[true,true,true,false,false,false,false,false,false] rfl rfl (take_ofW HT_.out HW_.out (by kernel_rfl)) (fun _ _ _ h=>h) (Or.inl ⟨by rfl,?_⟩) hHeld ?_ ?_
             rotate_left;·rintro w' ⟨s0,s1,s2⟩;go_simp;with_reducible rfl
             rotate_left;·simp only [Act.put,List.setIfInBounds_toArray,List.set_cons_zero,List.set_cons_succ,i64_w,i32_w];rfl
             refine take_ (i:=3) (N:=some 103) (v:=?_) (a':=?_) #[true,true,true,true,false,false,false,false,false] rfl rfl (take_ofW HT_.out HW_.out (by kernel_rfl)) (fun _ _ _ h=>h) (Or.inl ⟨by rfl,?_⟩) hHeld ?_ ?_
             rotate_left;·rintro w' ⟨s0,s1,s2⟩;go_simp;with_reducible rfl
             rotate_left;·simp only [Act.put,List.setIfInBounds_toArray,List.set_cons_zero,List.set_cons_succ,i64_w,i32_w];rfl
             refine pure_ (i:=4) (N:=some 104) (v:=?_) (a':=?_) #[true,true,true,true,true,false,false,false,false] rfl rfl (any_of HT_.out (by kernel_rfl)) (fun _ _ _ h=>h) (Or.inl ⟨by rfl,?_⟩) ?_ ?_
             rotate_left;·intro w';go_simp;with_reducible rfl
             rotate_left;·simp only [Act.put,List.setIfInBounds_toArray,List.set_cons_zero,List.set_cons_succ,i64_w,i32_w];rfl
             refine take_ (i:=5) (N:=some 105) (v:=?_) (a':=?_) #[true,true,true,true,true,true,false,false,false] rfl rfl (take_ofW HT_.out HW_.out (by kernel_rfl)) (fun _ _ _ h=>h) (Or.inl ⟨by rfl,?_⟩) hHeld ?_ ?_
             rotate_left;·rintro w' ⟨s0,s1,s2⟩;go_simp;with_reducible rfl
             rotate_left;·simp only [Act.put,List.setIfInBounds_toArray,List.set_cons_zero,List.set_cons_succ,i64_w,i32_w];rfl
             refine pure_ (i:=6) (N:=some 106) (v:=?_) (a':=?_) #[true,true,true,true,true,true,true,false,false] rfl rfl (any_of HT_.out (by kernel_rfl)) (fun _ _ _ h=>h) (Or.inl ⟨by rfl,?_⟩) ?_ ?_
             rotate_left;·intro w';go_simp;with_reducible rfl
             rotate_left;·simp only [Act.put,List.setIfInBounds_toArray,List.set_cons_zero,List.set_cons_succ,i64_w,i32_w];rfl
             refine pure_ (i:=7) (N:=some 107) (v:=?_) (a':=?_) #[true,true,true,true,true,true,true,true,false] rfl rfl (any_of HT_.out (by kernel_rfl)) (fun _ _ _ h=>h) (Or.inl ⟨by rfl,?_⟩) ?_ ?_
             rotate_left;·intro w';go_simp;with_reducible rfl
             rotate_left;·simp only [Act.put,List.setIfInBounds_toArray,List.set_cons_zero,List.set_cons_succ,i64_w,i32_w];rfl
             refine last_ (i:=8) (N:=none) #[true,true,true,true,true,true,true,true,true] rfl rfl (one_of HT_.out (by kernel_rfl)) (by decide) (fun K hK=>?_)
             refine skip_ (w1:=?_) (by rfl) rfl ?_ ?_
             rotate_left
             ·go_simp
              rfl
             refine hK.out _ _ ?_
             clear hK K
             refine done_ (done_of HT_.out (by kernel_rfl)) ?_
             have n0_:Aside0 (Kd.R (Kd.int .i64) 3 (w113.setCell ⟨go111,0,none⟩ (.slice A115 y228.length c115)) w.heap.size (fun k_=>(w.heap.size ≤ k_)) u184000 x184000_64):=⟨by exact Kd.R_mono (Kd.R_far (p:=⟨go111,0,none⟩) (Kd.R_types HO_184000.out GG111.out (by decide)) (fun _ hk=>hk.2) (.slice A115 y228.length c115)) (fun _ hk=>hk.1)⟩
             have n1_:Aside0 (Kd.N (Kd.slice 3 (Kd.int .i64)) 22 (w113.setCell ⟨go111,0,none⟩ (.slice A115 y228.length c115)) w.heap.size (fun k_=>(w.heap.size ≤ k_)∧some k_ ≠ (u184000:Value).ownBlock∧k_ ≠ gb182∧k_ ≠ gb183∧k_ ≠ g) (.slice (some ⟨go111,0,none⟩) x184001_64.length co114) y233):=⟨by exact HQ116.out⟩
             have n2_:Aside0 (Kd.V (Kd.int .i64) 3 (w113.setCell ⟨go111,0,none⟩ (.slice A115 y228.length c115)) w.heap.size (fun k_=>(w.heap.size ≤ k_)∧some k_ ≠ (u184000:Value).ownBlock∧some k_ ≠ (.slice (some ⟨go111,0,none⟩) x184001_64.length co114:Value).ownBlock∧k_ ≠ gb182∧k_ ≠ gb183∧k_ ≠ g) (.slice A227_0 (rd_L1 x184001_64 0).length c227_0) (rd_L1 x184001_64 0)):=⟨by exact Kd.V_mono (Kd.V_far (p:=⟨go111,0,none⟩) (Kd.V_mono HL227_0.out (fun k_ hk=>(⟨hk,fun e_=>hk.2 (by rw [e_];rfl)⟩:_∧k_ ≠ go111))) (fun _ hk=>hk.2) (.slice A115 y228.length c115)) (fun _ hk=>⟨hk.1.1.1,⟨hk.1.1.2.1,⟨hk.1.2,⟨hk.1.1.2.2.1,⟨hk.1.1.2.2.2.1,hk.1.1.2.2.2.2⟩⟩⟩⟩⟩)⟩
             have n3_:Aside0 (Kd.V (Kd.int .i64) 3 (w113.setCell ⟨go111,0,none⟩ (.slice A115 y228.length c115)) w.heap.size (fun k_=>(w.heap.size ≤ k_)∧some k_ ≠ (u184000:Value).ownBlock∧some k_ ≠ (.slice (some ⟨go111,0,none⟩) x184001_64.length co114:Value).ownBlock∧k_ ≠ gb182∧k_ ≠ gb183∧k_ ≠ g) (.slice A115 y228.length c115) y228):=⟨by exact Kd.V_mono (Kd.V_far (p:=⟨go111,0,none⟩) (Kd.V_mono HO232.out (fun k_ hk=>(⟨hk,fun e_=>hk.2 (by rw [e_];rfl)⟩:_∧k_ ≠ go111))) (fun _ hk=>hk.2) (.slice A115 y228.length c115)) (fun _ hk=>⟨hk.1.1.1,⟨hk.1.1.2.1,⟨hk.1.2,⟨hk.1.1.2.2.1,⟨hk.1.1.2.2.2.1,hk.1.1.2.2.2.2⟩⟩⟩⟩⟩)⟩
             have n4_:Aside0 ((w113.setCell ⟨go111,0,none⟩ (.slice A115 y228.length c115)).heap[gb182]? = some (.cells #[.slice none 0 0,.slice none 0 0] 28 (0,0))):=⟨by refine blk_far ?_ (by have h_:=Kd.N_away HO_184001.out (fun _ hk=>hk.2.2.1);intro e_;exact h_ (by rw [e_];rfl)) _;exact BK182.out⟩
             have n5_:Aside0 ((w113.setCell ⟨go111,0,none⟩ (.slice A115 y228.length c115)).heap[gb183]? = some (.cells #[u184000,.slice (some ⟨go111,0,none⟩) x184001_64.length co114] 28 (0,0))):=⟨by refine blk_far ?_ (by have h_:=Kd.N_away HO_184001.out (fun _ hk=>hk.2.2.2.1);intro e_;exact h_ (by rw [e_];rfl)) _;exact BK183.out⟩
             have n6_:Aside0 (IsS67 w0 (w113.setCell ⟨go111,0,none⟩ (.slice A115 y228.length c115)) g s0_0 t225):=⟨by repeat (with_reducible first | exact HI0.out | apply IsS67.alloc | apply IsS67.drewN | apply IsS67.drew | apply IsS67.set_1 | refine IsS67.far ?_ HN0_go111.out _ | refine IsS67.far ?_ NB0_182.out _ | refine IsS67.far ?_ NB0_183.out _)⟩
             have n7_:Aside0 (KeepBut w (w113.setCell ⟨go111,0,none⟩ (.slice A115 y228.length c115)) g none):=⟨by repeat (with_reducible first | exact HK.out | apply KeepBut.set_ | apply keep_drewN | apply keep_drew | apply keep_alloc | refine keep_far ?_ GB111.out _ | refine keep_far ?_ GW182.out _ | refine keep_far ?_ GW183.out _)⟩
             have n8_:Aside0 (Below w0.heap.size w0 (w113.setCell ⟨go111,0,none⟩ (.slice A115 y228.length c115))):=⟨by repeat (with_reducible first | exact HB.out | apply below_alloc | apply pw_below_drewN | apply below_drew1 | refine below_set ?_ (Nat.le_trans HL.out GB111.out) | refine below_set ?_ (IsS67.ge HI0.out) | refine below_set ?_ GE182.out | refine below_set ?_ GE183.out)⟩
             (try clear HO_184000)
             (try clear HO_184001)
             (try clear HL227_0)
             (try clear HO232)
             (try clear BK182)
             (try clear BK183)
             (try clear HI0)
             (try clear HK)
             (try clear HB)
             generalize (w113.setCell ⟨go111,0,none⟩ (.slice A115 y228.length c115)) = w117 at n0_ n1_ n2_ n3_ n4_ n5_ n6_ n7_ n8_ ⊢
             have HO_184000:=n0_
             have HO_184001:=n1_
             have HL227_0:=n2_
             have HO232:=n3_
             have BK182:=n4_
             have BK183:=n5_
             have HI0:=n6_
             have HK:=n7_
             have HB:=n8_
             clear n0_ n1_ n2_ n3_ n4_ n5_ n6_ n7_ n8_
             have hnb118:=NB183_182.out
             have hnc118:=NB182_183.out
             have hnb119:=NB183_0.out
             have hnc119:=NB0_183.out
             have hcz120_0:w117.cell? ⟨gb183,0,none⟩ = some (u184000):=(blk_cell BK183.out 0).trans rfl
             have hcz120_1:w117.cell? ⟨gb183,1,none⟩ = some (.slice (some ⟨go111,0,none⟩) x184001_64.length co114):=(blk_cell BK183.out 1).trans rfl
             have hfz120_0:=blk_frozen BK183.out 0
             have hfz120_1:=blk_frozen BK183.out 1
             obtain ⟨Ao121,co121,eo121⟩:=Kd.R_slice HO_184000.out
             subst eo121
             have hnb122:=NB182_0.out
             have hnc122:=NB0_182.out
             have hcz123_0:w117.cell? ⟨gb182,0,none⟩ = some (.slice none 0 0):=(blk_cell BK182.out 0).trans rfl
             have hcz123_1:w117.cell? ⟨gb182,1,none⟩ = some (.slice none 0 0):=(blk_cell BK182.out 1).trans rfl
             have hfz123_0:=blk_frozen BK182.out 0
             have hfz123_1:=blk_frozen BK182.out 1
             try go_wp2
             refine bodyPost_ret (results_cell_row rfl _ _ gb182 28 #[.slice Ao121 x184000_64.length co121,.slice (some ⟨go111,0,none⟩) x184001_64.length co114] (0,0) _ rfl (by refine blk_put (cs:=#[.slice Ao121 x184000_64.length co121,.slice none 0 0]) ?_ 1 _ rfl;refine blk_put (cs:=#[.slice none 0 0,.slice none 0 0]) ?_ 0 _ rfl;exact BK182.out) Try.underlying28 rfl (by kernel_rfl)) rfl ?_
             exact ⟨_,_,rfl,by exact Kd.R_mono (Kd.R_far (p:=⟨gb182,1,none⟩) (Kd.R_far (p:=⟨gb182,0,none⟩) (Kd.R_types HO_184000.out BK182.out (by decide)) (fun _ hk=>hk.2) (.slice Ao121 x184000_64.length co121)) (fun _ hk=>hk.2) (.slice (some ⟨go111,0,none⟩) x184001_64.length co114)) (fun _ hk=>hk.1),by exact Kd.N_mono (Kd.N_far (p:=⟨gb182,1,none⟩) (Kd.N_far (p:=⟨gb182,0,none⟩) (Kd.N_mono HO_184001.out (fun k_ hk=>(⟨hk,hk.2.2.1⟩:_∧k_ ≠ gb182))) (fun _ hk=>hk.2) (.slice Ao121 x184000_64.length co121)) (fun _ hk=>hk.2) (.slice (some ⟨go111,0,none⟩) x184001_64.length co114)) (fun _ hk=>⟨hk.1.1,hk.1.2.1⟩),by repeat (with_reducible first | exact HI0.out | apply IsS67.alloc | apply IsS67.drewN | apply IsS67.drew | apply IsS67.set_1 | refine IsS67.far ?_ NB0_182.out _ | refine IsS67.far ?_ NB0_183.out _),by repeat (with_reducible first | exact HB.out | apply below_alloc | apply pw_below_drewN | apply below_drew1 | refine below_set ?_ (IsS67.ge HI0.out) | refine below_set ?_ GE182.out | refine below_set ?_ GE183.out),by repeat (with_reducible first | exact HK.out | apply KeepBut.set_ | apply keep_drewN | apply keep_drew | apply keep_alloc | refine keep_far ?_ GW182.out _ | refine keep_far ?_ GW183.out _)⟩
            ·rw [if_neg c110] at H
             exact absurd H (by simp)
           ·rw [if_neg c109] at H
            exact absurd H (by simp)
          ·rw [if_neg c108] at H
           have c108b0:(t224 == 2) = false:=beq_eq_false_iff_ne.mpr c108
           have c108b1:(t224 != 2) = true:=bne_iff_ne.mpr c108
           by_cases c124:t224 = 3
           ·rw [if_pos c124] at H
            have c124b0:(t224 == 3) = true:=beq_iff_eq.mpr c124
            have c124b1:(t224 != 3) = false:=bne_eq_false_iff_eq.mpr c124
            clear c124
            simp only [Option.some.injEq,Prod.mk.injEq] at H
            obtain ⟨rfl,rfl,rfl⟩:=H
            go_wp2_with (first | ((with_reducible refine gate_callee (f:=48) rfl ?_);refine goesL_ (some 78) rfl rfl Try.func48 (by kernel_rfl) rfl #[.pointer (some ⟨g,0,none⟩),.int .i64 30] rfl (by (try simp only [List.map_toArray,List.map_cons,List.map_nil]);first | done | rfl | (simp only [List.length_drop,List.length_take];rfl)) ?_;(with_reducible refine (spec_l6Rd_pick.calls kj64 g s0_0 x1001_60 30 t224 t225 w0 _ ?side1 ?side2 A84.out).mono ?_);(case side1=>repeat (with_reducible first | exact HI0.out | apply IsS67.alloc | apply IsS67.drewN | apply IsS67.drew | apply IsS67.set_1 | refine IsS67.far ?_ NB0_182.out _ | refine IsS67.far ?_ NB0_183.out _));(case side2=>repeat (with_reducible first | exact HB.out | apply below_alloc | apply pw_below_drewN | apply below_drew1 | refine below_set ?_ (IsS67.ge HI0.out) | refine below_set ?_ GE182.out | refine below_set ?_ GE183.out));rintro e w125 ⟨rfl,hi,hb,hk⟩;refine ⟨_,rfl,?_⟩;have n0_:=Aside0.mk (Kd.R_mono (Kd.R_keep (IsS67.apart (show IsS67 w0 _ g s0_0 x1001_60 from by repeat (with_reducible first | exact HI0.out | apply IsS67.alloc | apply IsS67.drewN | apply IsS67.drew | apply IsS67.set_1 | refine IsS67.far ?_ NB0_182.out _ | refine IsS67.far ?_ NB0_183.out _)) (by exact HO_184000.out) (by decide)) hk (fun _ h=>h.2)) (fun _ h=>h.1));have n1_:=Aside0.mk (Kd.N_mono (Kd.N_keep (Kd.N_mono (ok:=fun k_=>(((w.heap.size ≤ k_))∧(some k_ ≠ (u184000:Value).ownBlock∧(k_ ≠ gb182∧(k_ ≠ gb183∧k_ ≠ g))))) (by exact HO_184001.out) (fun k_ hk_=>(⟨hk_,hk_.2.2.2.2⟩:_∧k_ ≠ g))) hk (fun _ h=>h.2)) (fun _ h=>h.1));have n2_:=Aside0.mk (KeepBut.blk hk (g':=gb182) (o:=.cells #[.slice none 0 0,.slice none 0 0] 28 (0,0)) (by exact BK182.out) NB182_0.out (by simp));have n3_:=Aside0.mk (KeepBut.blk hk (g':=gb183) (o:=.cells #[u184000,u184001] 28 (0,0)) (by exact BK183.out) NB183_0.out (by simp));have n4_:=Aside0.mk (KeepBut.trans (by repeat (with_reducible first | exact HK.out | apply KeepBut.set_ | apply keep_drewN | apply keep_drew | apply keep_alloc | refine keep_far ?_ GW182.out _ | refine keep_far ?_ GW183.out _)) hk (.inl rfl));have n5_:=Aside0.mk (hb);have n6_:=Aside0.mk (hi);clear HO_184000;clear HO_184001;clear BK182;clear BK183;clear HK;clear HB;clear HI0;have HO_184000:=n0_;have HO_184001:=n1_;have BK182:=n2_;have BK183:=n3_;have HK:=n4_;have HB:=n5_;have HI0:=n6_;clear n0_ n1_ n2_ n3_ n4_ n5_ n6_;(try clear hb);(try clear hb2);(try clear hk);(try clear hi);have hnb126:=NB182_183.out;have hnc126:=NB183_182.out;have hnb127:=NB182_0.out;have hnc127:=NB0_182.out;have hcz128_0:w125.cell? ⟨gb182,0,none⟩ = some (.slice none 0 0):=(blk_cell BK182.out 0).trans rfl;have hcz128_1:w125.cell? ⟨gb182,1,none⟩ = some (.slice none 0 0):=(blk_cell BK182.out 1).trans rfl;have hfz128_0:=blk_frozen BK182.out 0;have hfz128_1:=blk_frozen BK182.out 1))
            refine bodyPost_ret (results_cell_row rfl _ _ gb182 28 #[.slice none 0 0,.slice none 0 0] (0,0) _ rfl (by refine blk_put (cs:=#[.slice none 0 0,.slice none 0 0]) ?_ 1 _ rfl;refine blk_put (cs:=#[.slice none 0 0,.slice none 0 0]) ?_ 0 _ rfl;exact BK182.out) Try.underlying28 rfl (by kernel_rfl)) rfl ?_
            exact ⟨_,_,rfl,by first | exact Kd.R_nil _ _ _ _ _ | exact Kd.N_nil _ _ _ _ _ | exact Kd.V_nil _ _ _ _ _ | exact Kd.Q_nil _ _ _ _ _ | exact Kd.S_nil _ _ _ _ _,by first | exact Kd.S_nil _ _ _ _ _ | exact Kd.N_nil _ _ _ _ _ | exact Kd.V_nil _ _ _ _ _ | exact Kd.Q_nil _ _ _ _ _ | exact Kd.R_nil _ _ _ _ _,by repeat (with_reducible first | exact HI0.out | apply IsS67.alloc | apply IsS67.drewN | apply IsS67.drew | apply IsS67.set_1 | refine IsS67.far ?_ NB0_182.out _ | refine IsS67.far ?_ NB0_183.out _),by repeat (with_reducible first | exact HB.out | apply below_alloc | apply pw_below_drewN | apply below_drew1 | refine below_set ?_ (IsS67.ge HI0.out) | refine below_set ?_ GE182.out | refine below_set ?_ GE183.out),by repeat (with_reducible first | exact HK.out | apply KeepBut.set_ | apply keep_drewN | apply keep_drew | apply keep_alloc | refine keep_far ?_ GW182.out _ | refine keep_far ?_ GW183.out _)⟩
           ·rw [if_neg c124] at H
            have c124b0:(t224 == 3) = false:=beq_eq_false_iff_ne.mpr c124
            have c124b1:(t224 != 3) = true:=bne_iff_ne.mpr c124
            simp only [Option.some.injEq,Prod.mk.injEq] at H
            obtain ⟨rfl,rfl,rfl⟩:=H
            go_wp2_with (first | ((with_reducible refine gate_callee (f:=48) rfl ?_);refine goesL_ (some 78) rfl rfl Try.func48 (by kernel_rfl) rfl #[.pointer (some ⟨g,0,none⟩),.int .i64 30] rfl (by (try simp only [List.map_toArray,List.map_cons,List.map_nil]);first | done | rfl | (simp only [List.length_drop,List.length_take];rfl)) ?_;(with_reducible refine (spec_l6Rd_pick.calls kj64 g s0_0 x1001_60 30 t224 t225 w0 _ ?side1 ?side2 A84.out).mono ?_);(case side1=>repeat (with_reducible first | exact HI0.out | apply IsS67.alloc | apply IsS67.drewN | apply IsS67.drew | apply IsS67.set_1 | refine IsS67.far ?_ NB0_182.out _ | refine IsS67.far ?_ NB0_183.out _));(case side2=>repeat (with_reducible first | exact HB.out | apply below_alloc | apply pw_below_drewN | apply below_drew1 | refine below_set ?_ (IsS67.ge HI0.out) | refine below_set ?_ GE182.out | refine below_set ?_ GE183.out));rintro e w129 ⟨rfl,hi,hb,hk⟩;refine ⟨_,rfl,?_⟩;have n0_:=Aside0.mk (Kd.R_mono (Kd.R_keep (IsS67.apart (show IsS67 w0 _ g s0_0 x1001_60 from by repeat (with_reducible first | exact HI0.out | apply IsS67.alloc | apply IsS67.drewN | apply IsS67.drew | apply IsS67.set_1 | refine IsS67.far ?_ NB0_182.out _ | refine IsS67.far ?_ NB0_183.out _)) (by exact HO_184000.out) (by decide)) hk (fun _ h=>h.2)) (fun _ h=>h.1));have n1_:=Aside0.mk (Kd.N_mono (Kd.N_keep (Kd.N_mono (ok:=fun k_=>(((w.heap.size ≤ k_))∧(some k_ ≠ (u184000:Value).ownBlock∧(k_ ≠ gb182∧(k_ ≠ gb183∧k_ ≠ g))))) (by exact HO_184001.out) (fun k_ hk_=>(⟨hk_,hk_.2.2.2.2⟩:_∧k_ ≠ g))) hk (fun _ h=>h.2)) (fun _ h=>h.1));have n2_:=Aside0.mk (KeepBut.blk hk (g':=gb182) (o:=.cells #[.slice none 0 0,.slice none 0 0] 28 (0,0)) (by exact BK182.out) NB182_0.out (by simp));have n3_:=Aside0.mk (KeepBut.blk hk (g':=gb183) (o:=.cells #[u184000,u184001] 28 (0,0)) (by exact BK183.out) NB183_0.out (by simp));have n4_:=Aside0.mk (KeepBut.trans (by repeat (with_reducible first | exact HK.out | apply KeepBut.set_ | apply keep_drewN | apply keep_drew | apply keep_alloc | refine keep_far ?_ GW182.out _ | refine keep_far ?_ GW183.out _)) hk (.inl rfl));have n5_:=Aside0.mk (hb);have n6_:=Aside0.mk (hi);clear HO_184000;clear HO_184001;clear BK182;clear BK183;clear HK;clear HB;clear HI0;have HO_184000:=n0_;have HO_184001:=n1_;have BK182:=n2_;have BK183:=n3_;have HK:=n4_;have HB:=n5_;have HI0:=n6_;clear n0_ n1_ n2_ n3_ n4_ n5_ n6_;(try clear hb);(try clear hb2);(try clear hk);(try clear hi);have hnb130:=NB183_182.out;have hnc130:=NB182_183.out;have hnb131:=NB183_0.out;have hnc131:=NB0_183.out;have hcz132_0:w129.cell? ⟨gb183,0,none⟩ = some (u184000):=(blk_cell BK183.out 0).trans rfl;have hcz132_1:w129.cell? ⟨gb183,1,none⟩ = some (u184001):=(blk_cell BK183.out 1).trans rfl;have hfz132_0:=blk_frozen BK183.out 0;have hfz132_1:=blk_frozen BK183.out 1;obtain ⟨Ao133,co133,eo133⟩:=Kd.R_slice HO_184000.out;subst eo133;have hnb134:=NB182_0.out;have hnc134:=NB0_182.out;have hcz135_0:w129.cell? ⟨gb182,0,none⟩ = some (.slice none 0 0):=(blk_cell BK182.out 0).trans rfl;have hcz135_1:w129.cell? ⟨gb182,1,none⟩ = some (.slice none 0 0):=(blk_cell BK182.out 1).trans rfl;have hfz135_0:=blk_frozen BK182.out 0;have hfz135_1:=blk_frozen BK182.out 1;obtain ⟨Ao136,co136,eo136⟩:=Kd.N_slice HO_184001.out;subst eo136))
            refine bodyPost_ret (results_cell_row rfl _ _ gb182 28 #[.slice Ao133 x184000_64.length co133,.slice Ao136 x184001_64.length co136] (0,0) _ rfl (by refine blk_put (cs:=#[.slice Ao133 x184000_64.length co133,.slice none 0 0]) ?_ 1 _ rfl;refine blk_put (cs:=#[.slice none 0 0,.slice none 0 0]) ?_ 0 _ rfl;exact BK182.out) Try.underlying28 rfl (by kernel_rfl)) rfl ?_
            exact ⟨_,_,rfl,by exact Kd.R_mono (Kd.R_far (p:=⟨gb182,1,none⟩) (Kd.R_far (p:=⟨gb182,0,none⟩) (Kd.R_types HO_184000.out BK182.out (by decide)) (fun _ hk=>hk.2) (.slice Ao133 x184000_64.length co133)) (fun _ hk=>hk.2) (.slice Ao136 x184001_64.length co136)) (fun _ hk=>hk.1),by exact Kd.N_mono (Kd.N_far (p:=⟨gb182,1,none⟩) (Kd.N_far (p:=⟨gb182,0,none⟩) (Kd.N_mono HO_184001.out (fun k_ hk=>(⟨hk,hk.2.2.1⟩:_∧k_ ≠ gb182))) (fun _ hk=>hk.2) (.slice Ao133 x184000_64.length co133)) (fun _ hk=>hk.2) (.slice Ao136 x184001_64.length co136)) (fun _ hk=>⟨hk.1.1,hk.1.2.1⟩),by repeat (with_reducible first | exact HI0.out | apply IsS67.alloc | apply IsS67.drewN | apply IsS67.drew | apply IsS67.set_1 | refine IsS67.far ?_ NB0_182.out _ | refine IsS67.far ?_ NB0_183.out _),by repeat (with_reducible first | exact HB.out | apply below_alloc | apply pw_below_drewN | apply below_drew1 | refine below_set ?_ (IsS67.ge HI0.out) | refine below_set ?_ GE182.out | refine below_set ?_ GE183.out),by repeat (with_reducible first | exact HK.out | apply KeepBut.set_ | apply keep_drewN | apply keep_drew | apply keep_alloc | refine keep_far ?_ GW182.out _ | refine keep_far ?_ GW183.out _)⟩
end Go.Proofs.Ytablnoddkllhmaa.P
