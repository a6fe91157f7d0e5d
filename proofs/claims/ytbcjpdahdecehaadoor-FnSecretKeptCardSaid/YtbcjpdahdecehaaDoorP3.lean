/- What the Go functions that the laws reach compute, and that their calls come to just that: told by a program of this session (aprint.py). No condition. -/
import Derived.Test.YtbcjpdahdecehaaDoorP0
import Derived.Test.YtbcjpdahdecehaaDoorP1
import Derived.Test.YtbcjpdahdecehaaDoorP2
namespace Go.Proofs.YtbcjpdahdecehaaDoor.P
open Go.RowKit Go.Proofs.YtbcjpdahdecehaaDoorW.PrintWords Go.Proofs.YtbcjpdahdecehaaDoorW.PrintLast Go.Proofs.YtbcjpdahdecehaaDoorW.PrintMore
attribute [local go_sem] max2_int min2_int max_two min_two max_three min_three max_four min_four
set_option linter.unusedVariables false
set_option linter.unusedSimpArgs false
mutual
def spec_l92Asked.j0:Nat → List (S25) → Bool → List Int → Int → Int → Int → List (S25) → Option ((List (S25)) × Int × Int × (List (S25)) × Int)
 | 0,_,_,_,_,_,_,_=>none
 | k + 1,x4,x19,x1000,x1001,x389000,x389001,x389002=>if x19 = true then ((spec_l6Rd_pick.f k x1000 x1001 (x4.length:Int)).bind fun bt391=>(if 0 ≤ bt391.1 then (if bt391.1 < (x4.length:Int) then (spec_l92Asked.l0 k x4 x1000 bt391.2 ((rd_T25 x4 bt391.1).f0) ((rd_T25 x4 bt391.1).f1) ((rd_T25 x4 bt391.1).f2)) else (none)) else (none))) else (spec_l92Asked.j2 k x4 x1000 x1001 x389000 x389001 x389002)
def spec_l92Asked.j2:Nat → List (S25) → List Int → Int → Int → Int → List (S25) → Option ((List (S25)) × Int × Int × (List (S25)) × Int)
 | 0,_,_,_,_,_,_=>none
 | k + 1,x4,x1000,x1001,x389000,x389001,x389002=>if (x4.length:Int) > 1 then ((spec_l6Rd_pick.f k x1000 x1001 3).bind fun bt399=>(if bt399.1 = 0 then ((spec_l6Rd_pick.f k x1000 bt399.2 2).bind fun bt401=>(if 0 < (x4.length:Int) then (some (x4,wrap64 (1 + bt401.1),0,(([(⟨x389000,x389001,x389002⟩:S25),(⟨(rd_T25 x4 0).f0,(rd_T25 x4 0).f1,(rd_T25 x4 0).f2⟩:S25)]:List (S25))),bt401.2)) else (none))) else (some (x4,x389000,x389001,x389002,bt399.2)))) else (some (x4,x389000,x389001,x389002,x1001))
def spec_l92Asked.l0:Nat → List (S25) → List Int → Int → Int → Int → List (S25) → Option ((List (S25)) × Int × Int × (List (S25)) × Int)
 | 0,_,_,_,_,_,_=>none
 | k + 1,x4,x1000,x1001,x389000,x389001,x389002=>if (x389002.length:Int) > 0 then ((spec_l6Rd_pick.f k x1000 x1001 3).bind fun bt394=>(if bt394.1 > 0 then ((spec_l6Rd_pick.f k x1000 bt394.2 (x389002.length:Int)).bind fun bt396=>(if 0 ≤ bt396.1 then (if bt396.1 < (x389002.length:Int) then (spec_l92Asked.l0 k x4 x1000 bt396.2 ((rd_T25 x389002 bt396.1).f0) ((rd_T25 x389002 bt396.1).f1) ((rd_T25 x389002 bt396.1).f2)) else (none)) else (none))) else (spec_l92Asked.j2 k x4 x1000 bt394.2 x389000 x389001 x389002))) else (spec_l92Asked.j2 k x4 x1000 x1001 x389000 x389001 x389002)
end
def spec_l92Asked.f (k:Nat) (s0_0:List Int) (s0_1:Int):Option ((List (S25)) × Int × Int × (List (S25)) × Int):=(spec_l92Know.f k s0_0 s0_1).bind fun bt376=>((spec_l6Rd_pick.f k s0_0 bt376.2 3).bind fun bt380=>((spec_l92Seal.f k s0_0 bt380.2 bt380.1).bind fun bt382=>(if (bt376.1.length:Int) > 0 then ((spec_l6Rd_pick.f k s0_0 bt382.2.2.2 2).bind fun bt389=>(spec_l92Asked.j0 k bt376.1 (bt389.1 == 0) s0_0 bt389.2 bt382.1 bt382.2.1 bt382.2.2.1)) else (spec_l92Asked.j0 k bt376.1 false s0_0 bt382.2.2.2 bt382.1 bt382.2.1 bt382.2.2.1))))
theorem spec_l92Asked.mono_l:∀ k,(∀ y0 y1 y2 y3 y4 y5 y6,LeO (spec_l92Asked.j0 k y0 y1 y2 y3 y4 y5 y6) (spec_l92Asked.j0 (k + 1) y0 y1 y2 y3 y4 y5 y6))∧(∀ y0 y1 y2 y3 y4 y5,LeO (spec_l92Asked.j2 k y0 y1 y2 y3 y4 y5) (spec_l92Asked.j2 (k + 1) y0 y1 y2 y3 y4 y5))∧(∀ y0 y1 y2 y3 y4 y5,LeO (spec_l92Asked.l0 k y0 y1 y2 y3 y4 y5) (spec_l92Asked.l0 (k + 1) y0 y1 y2 y3 y4 y5))
 | 0=>⟨fun _ _ _ _ _ _ _ r h=>by simp [spec_l92Asked.j0] at h,fun _ _ _ _ _ _ r h=>by simp [spec_l92Asked.j2] at h,fun _ _ _ _ _ _ r h=>by simp [spec_l92Asked.l0] at h⟩
 | k + 1=>by
  obtain ⟨ih0,ih1,ih2⟩:=spec_l92Asked.mono_l k
  refine ⟨?_,?_,?_⟩
  ·intro y0 y1 y2 y3 y4 y5 y6
   unfold spec_l92Asked.j0
   repeat' first
   | (with_reducible exact ih0 _ _ _ _ _ _ _)
   | (with_reducible exact ih1 _ _ _ _ _ _)
   | (with_reducible exact ih2 _ _ _ _ _ _)
   | (with_reducible exact spec_l6Rd_pick.mono _ _ _ _)
   | (with_reducible exact spec_l92Know.mono _ _ _)
   | (with_reducible exact spec_l92Seal.mono _ _ _ _)
   | (with_reducible exact LeO.refl _)
   | (with_reducible exact LeO.none _)
   | (with_reducible refine LeO.ite ?_ ?_)
   | (with_reducible refine LeO.bind ?_ (fun _=>?_))
   | exact ih0 _ _ _ _ _ _ _
   | exact ih1 _ _ _ _ _ _
   | exact ih2 _ _ _ _ _ _
   | exact spec_l6Rd_pick.mono _ _ _ _
   | exact spec_l92Know.mono _ _ _
   | exact spec_l92Seal.mono _ _ _ _
   | exact LeO.none _
   | refine LeO.ite ?_ ?_
   | refine LeO.bind ?_ (fun _=>?_)
  ·intro y0 y1 y2 y3 y4 y5
   unfold spec_l92Asked.j2
   repeat' first
   | (with_reducible exact ih0 _ _ _ _ _ _ _)
   | (with_reducible exact ih1 _ _ _ _ _ _)
   | (with_reducible exact ih2 _ _ _ _ _ _)
   | (with_reducible exact spec_l6Rd_pick.mono _ _ _ _)
   | (with_reducible exact spec_l92Know.mono _ _ _)
   | (with_reducible exact spec_l92Seal.mono _ _ _ _)
   | (with_reducible exact LeO.refl _)
   | (with_reducible exact LeO.none _)
   | (with_reducible refine LeO.ite ?_ ?_)
   | (with_reducible refine LeO.bind ?_ (fun _=>?_))
   | exact ih0 _ _ _ _ _ _ _
   | exact ih1 _ _ _ _ _ _
   | exact ih2 _ _ _ _ _ _
   | exact spec_l6Rd_pick.mono _ _ _ _
   | exact spec_l92Know.mono _ _ _
   | exact spec_l92Seal.mono _ _ _ _
   | exact LeO.none _
   | refine LeO.ite ?_ ?_
   | refine LeO.bind ?_ (fun _=>?_)
  ·intro y0 y1 y2 y3 y4 y5
   unfold spec_l92Asked.l0
   repeat' first
   | (with_reducible exact ih0 _ _ _ _ _ _ _)
   | (with_reducible exact ih1 _ _ _ _ _ _)
   | (with_reducible exact ih2 _ _ _ _ _ _)
   | (with_reducible exact spec_l6Rd_pick.mono _ _ _ _)
   | (with_reducible exact spec_l92Know.mono _ _ _)
   | (with_reducible exact spec_l92Seal.mono _ _ _ _)
   | (with_reducible exact LeO.refl _)
   | (with_reducible exact LeO.none _)
   | (with_reducible refine LeO.ite ?_ ?_)
   | (with_reducible refine LeO.bind ?_ (fun _=>?_))
   | exact ih0 _ _ _ _ _ _ _
   | exact ih1 _ _ _ _ _ _
   | exact ih2 _ _ _ _ _ _
   | exact spec_l6Rd_pick.mono _ _ _ _
   | exact spec_l92Know.mono _ _ _
   | exact spec_l92Seal.mono _ _ _ _
   | exact LeO.none _
   | refine LeO.ite ?_ ?_
   | refine LeO.bind ?_ (fun _=>?_)
theorem spec_l92Asked.mono:∀ a0 a1 k,LeO (spec_l92Asked.f k a0 a1) (spec_l92Asked.f (k + 1) a0 a1):=by
 intro a0 a1 k
 obtain ⟨ih0,ih1,ih2⟩:=spec_l92Asked.mono_l k
 unfold spec_l92Asked.f
 repeat' first
   | (with_reducible exact ih0 _ _ _ _ _ _ _)
   | (with_reducible exact ih1 _ _ _ _ _ _)
   | (with_reducible exact ih2 _ _ _ _ _ _)
   | (with_reducible exact spec_l6Rd_pick.mono _ _ _ _)
   | (with_reducible exact spec_l92Know.mono _ _ _)
   | (with_reducible exact spec_l92Seal.mono _ _ _ _)
   | (with_reducible exact LeO.refl _)
   | (with_reducible exact LeO.none _)
   | (with_reducible refine LeO.ite ?_ ?_)
   | (with_reducible refine LeO.bind ?_ (fun _=>?_))
   | exact ih0 _ _ _ _ _ _ _
   | exact ih1 _ _ _ _ _ _
   | exact ih2 _ _ _ _ _ _
   | exact spec_l6Rd_pick.mono _ _ _ _
   | exact spec_l92Know.mono _ _ _
   | exact spec_l92Seal.mono _ _ _ _
   | exact LeO.none _
   | refine LeO.ite ?_ ?_
   | refine LeO.bind ?_ (fun _=>?_)
def spec_l92Asked.T6:Bool × List (List Nat × List Nat):=(true,[([],[]),([0],[0]),([],[]),([],[]),([3],[3]),([4],[4]),([2,5],[2,5]),([1,6],[1,6]),([7],[7]),([8,6,0,1,2,3,4,5,6,7,8],[8])])
def spec_l92Asked.B6:List Nat:=[0,1,0,0,8,24,60,127,255,511]
theorem spec_l92Asked.tab6:rtab .any (opsOf Tryd.f50 6) = spec_l92Asked.T6:=by kernel_rfl
theorem spec_l92Asked.bits6:waitsOk spec_l92Asked.T6.2 spec_l92Asked.B6 = true:=by kernel_rfl
def spec_l92Asked.T8:Bool × List (List Nat × List Nat):=(true,[([],[]),([0],[0]),([1],[1]),([],[]),([],[]),([4],[4]),([5],[5]),([3,6],[3,6]),([2,7],[2,7]),([8,1,0,1,2,3,4,5,6,7,8],[8])])
def spec_l92Asked.B8:List Nat:=[0,1,3,0,0,16,48,120,255,511]
theorem spec_l92Asked.tab8:rtab .any (opsOf Tryd.f50 8) = spec_l92Asked.T8:=by kernel_rfl
theorem spec_l92Asked.bits8:waitsOk spec_l92Asked.T8.2 spec_l92Asked.B8 = true:=by kernel_rfl
set_option maxHeartbeats 8000000 in
set_option maxRecDepth 100000 in
theorem spec_l92Asked.calls (k:Nat) (g:Nat) (s0_0:List Int) (s0_1:Int) (r1:List (S25)) (r2:Int) (r3:Int) (r4:List (S25)) (r5:Int) (w0 w:World) (hI:IsS73 w0 w g s0_0 s0_1) (hB:Below w0.heap.size w0 w) (h:spec_l92Asked.f k s0_0 s0_1 = some (r1,r2,r3,r4,r5)) :
  Calls Tryd.prog 50 #[.pointer (some ⟨g,0,none⟩)] w fun e w'=>∃ v0_ v3_:Value,e = .returned (.tuple #[v0_,.agg #[.int .i64 r2,.int .i64 r3,v3_]])∧Kd.N k25 25 w' w.heap.size (fun k_=>(w.heap.size ≤ k_)) v0_ r1∧Kd.V k25 25 w' w.heap.size (fun k_=>(w.heap.size ≤ k_)∧some k_ ≠ (v0_:Value).ownBlock) v3_ r4∧IsS73 w0 w' g s0_0 r5∧Below w0.heap.size w0 w'∧KeepBut w w' g none:=by
 have hu25:=Tryd.underlying25
 have HI0:=Aside0.mk hI
 have HK:=Aside0.mk (KeepBut.refl w g none)
 have HL:=Aside0.mk hB.size
 clear hI
 have HW0:=Aside0.mk hB.size
 have HB:=Aside0.mk hB
 clear hB
 have H:((spec_l92Know.f k s0_0 s0_1).bind fun bt376=>((spec_l6Rd_pick.f k s0_0 bt376.2 3).bind fun bt380=>((spec_l92Seal.f k s0_0 bt380.2 bt380.1).bind fun bt382=>(if (bt376.1.length:Int) > 0 then ((spec_l6Rd_pick.f k s0_0 bt382.2.2.2 2).bind fun bt389=>(spec_l92Asked.j0 k bt376.1 (bt389.1 == 0) s0_0 bt389.2 bt382.1 bt382.2.1 bt382.2.2.1)) else (spec_l92Asked.j0 k bt376.1 false s0_0 bt382.2.2.2 bt382.1 bt382.2.1 bt382.2.2.1))))) = some (r1,r2,r3,r4,r5):=h
 clear h
 replace H:=Option.bind_eq_some_iff.mp H
 obtain ⟨⟨t376,t379⟩,A20,H⟩:=H
 replace H:((spec_l6Rd_pick.f k s0_0 t379 3).bind fun bt380=>((spec_l92Seal.f k s0_0 bt380.2 bt380.1).bind fun bt382=>(if (t376.length:Int) > 0 then ((spec_l6Rd_pick.f k s0_0 bt382.2.2.2 2).bind fun bt389=>(spec_l92Asked.j0 k t376 (bt389.1 == 0) s0_0 bt389.2 bt382.1 bt382.2.1 bt382.2.2.1)) else (spec_l92Asked.j0 k t376 false s0_0 bt382.2.2.2 bt382.1 bt382.2.1 bt382.2.2.1)))) = some (r1,r2,r3,r4,r5):=H
 have A2:=Aside0.mk A20
 clear A20
 replace H:=Option.bind_eq_some_iff.mp H
 obtain ⟨⟨t380,t381⟩,A30,H⟩:=H
 replace H:((spec_l92Seal.f k s0_0 t381 t380).bind fun bt382=>(if (t376.length:Int) > 0 then ((spec_l6Rd_pick.f k s0_0 bt382.2.2.2 2).bind fun bt389=>(spec_l92Asked.j0 k t376 (bt389.1 == 0) s0_0 bt389.2 bt382.1 bt382.2.1 bt382.2.2.1)) else (spec_l92Asked.j0 k t376 false s0_0 bt382.2.2.2 bt382.1 bt382.2.1 bt382.2.2.1))) = some (r1,r2,r3,r4,r5):=H
 have A3:=Aside0.mk A30
 clear A30
 replace H:=Option.bind_eq_some_iff.mp H
 obtain ⟨⟨t382,t383,t384,t387⟩,A40,H⟩:=H
 replace H:(if (t376.length:Int) > 0 then ((spec_l6Rd_pick.f k s0_0 t387 2).bind fun bt389=>(spec_l92Asked.j0 k t376 (bt389.1 == 0) s0_0 bt389.2 t382 t383 t384)) else (spec_l92Asked.j0 k t376 false s0_0 t387 t382 t383 t384)) = some (r1,r2,r3,r4,r5):=H
 have A4:=Aside0.mk A40
 clear A40
 have HC5:=Aside0.mk H
 clear H
 go_enter Tryd.func50,Tryd.ntmps50
 go_upto_region 3 with (first | ((with_reducible refine gate_dst (N:=3) rfl ?_);refine box_event ?hg (N:=3) ?hd (cs:=#[.int .i64 0,.int .i64 0,.slice none 0 0]) (t:=25) ?hr ?_;(case hd=>rfl);(case hg=>rfl);(case hr=>first | (go_simp;done) | (go_simp;rfl));intro gb375 hg w6 hbox hb;have n0_:=Aside0.mk (IsS73.below (by repeat (first | (with_reducible first | exact HI0.out | apply IsS73.alloc | apply IsS73.drewN | apply IsS73.drew | apply IsS73.set_1) | exact HI0.out)) hb);have n1_:=Aside0.mk (KeepBut.trans (by repeat (first | (with_reducible first | exact HK.out | apply KeepBut.set_ | apply keep_drewN | apply keep_drew | apply keep_alloc) | exact HK.out)) (KeepBut.of_below hb g none) (.inl rfl));have n2_:=Aside0.mk (below_step (by repeat (first | (with_reducible first | exact HB.out | apply below_alloc | apply pw_below_drewN | apply below_drew1 | refine below_set ?_ (IsS73.ge HI0.out)) | exact HB.out)) hb);have n3_:=Aside0.mk (hbox);have n4_:=Aside0.mk ((by rw [hg];exact (keep_size (w:=w) (g:=g) (row:=none) (by repeat (first | (with_reducible first | exact HK.out | apply KeepBut.set_ | apply keep_drewN | apply keep_drew | apply keep_alloc) | exact HK.out))):w.heap.size ≤ gb375));have n5_:=Aside0.mk ((Nat.le_trans HW0.out (by rw [hg];exact (keep_size (w:=w) (g:=g) (row:=none) (by repeat (first | (with_reducible first | exact HK.out | apply KeepBut.set_ | apply keep_drewN | apply keep_drew | apply keep_alloc) | exact HK.out))):w.heap.size ≤ gb375):w0.heap.size ≤ gb375));have n6_:=Aside0.mk ((by rw [hg];exact Nat.ne_of_lt (IsS73.lt (show IsS73 w0 _ g s0_0 s0_1 from by repeat (first | (with_reducible first | exact HI0.out | apply IsS73.alloc | apply IsS73.drewN | apply IsS73.drew | apply IsS73.set_1) | exact HI0.out))):g ≠ gb375));have n7_:=Aside0.mk ((by rw [hg];exact Nat.ne_of_gt (IsS73.lt (show IsS73 w0 _ g s0_0 s0_1 from by repeat (first | (with_reducible first | exact HI0.out | apply IsS73.alloc | apply IsS73.drewN | apply IsS73.drew | apply IsS73.set_1) | exact HI0.out))):gb375 ≠ g));clear HI0;clear HK;clear HB;have HI0:=n0_;have HK:=n1_;have HB:=n2_;have BK375:=n3_;have GW375:=n4_;have GE375:=n5_;have NB0_375:=n6_;have NB375_0:=n7_;clear n0_ n1_ n2_ n3_ n4_ n5_ n6_ n7_;clear hb hbox hg) | ((with_reducible refine gate_callee (f:=56) rfl ?_);refine goesL_ (some 7) rfl rfl Tryd.func56 (by kernel_rfl) rfl #[.pointer (some ⟨g,0,none⟩)] rfl (by (try simp only [List.map_toArray,List.map_cons,List.map_nil]);first | done | rfl | (simp only [List.length_drop,List.length_take];rfl)) ?_;(with_reducible refine (spec_l92Know.calls k g s0_0 s0_1 t376 t379 w0 _ ?side1 ?side2 A2.out).mono ?_);(case side1=>repeat (first | (with_reducible first | exact HI0.out | apply IsS73.alloc | apply IsS73.drewN | apply IsS73.drew | apply IsS73.set_1 | refine IsS73.far ?_ NB0_375.out _) | exact HI0.out));(case side2=>repeat (first | (with_reducible first | exact HB.out | apply below_alloc | apply pw_below_drewN | apply below_drew1 | refine below_set ?_ (IsS73.ge HI0.out) | refine below_set ?_ GE375.out) | exact HB.out));rintro e w7 ⟨v377,rfl,ho0,hi,hb,hk⟩;refine ⟨_,rfl,?_⟩;have n0_:=Aside0.mk (KeepBut.blk hk (g':=gb375) (o:=.cells #[.int .i64 0,.int .i64 0,.slice none 0 0] 25 (0,0)) (by (with_reducible repeat (first | refine blk_drewN ?_ _ | refine blk_drew ?_ | refine blk_alloc ?_ _));exact BK375.out) NB375_0.out (by simp));have n1_:=Aside0.mk (Kd.N_lower (Kd.N_mono (ok':=fun k_=>(w.heap.size ≤ k_)∧k_ ≠ gb375∧k_ ≠ g) ho0 (fun k_ hk_=>⟨(Nat.le_trans (keep_size (w:=w) (g:=g) (row:=none) (by repeat (first | (with_reducible first | exact HK.out | apply KeepBut.set_ | apply keep_drewN | apply keep_drew | apply keep_alloc | refine keep_far ?_ GW375.out _) | exact HK.out))) hk_),(Kd.freshB (g:=gb375) (o:=.cells #[.int .i64 0,.int .i64 0,.slice none 0 0] 25 (0,0)) (by (with_reducible repeat (first | refine blk_drewN ?_ _ | refine blk_drew ?_ | refine blk_alloc ?_ _));exact BK375.out) k_ hk_),(IsS73.fresh (by repeat (first | (with_reducible first | exact HI0.out | apply IsS73.alloc | apply IsS73.drewN | apply IsS73.drew | apply IsS73.set_1 | refine IsS73.far ?_ NB0_375.out _) | exact HI0.out)) k_ hk_)⟩)) (keep_size (w:=w) (g:=g) (row:=none) (by repeat (first | (with_reducible first | exact HK.out | apply KeepBut.set_ | apply keep_drewN | apply keep_drew | apply keep_alloc | refine keep_far ?_ GW375.out _) | exact HK.out))));have n2_:=Aside0.mk (KeepBut.trans (by repeat (first | (with_reducible first | exact HK.out | apply KeepBut.set_ | apply keep_drewN | apply keep_drew | apply keep_alloc | refine keep_far ?_ GW375.out _) | exact HK.out)) hk (.inl rfl));have n3_:=Aside0.mk (hb);have n4_:=Aside0.mk (hi);clear BK375;clear HK;clear HB;clear HI0;have BK375:=n0_;have HO378:=n1_;have HK:=n2_;have HB:=n3_;have HI0:=n4_;clear n0_ n1_ n2_ n3_ n4_;(try clear hb);(try clear hb2);(try clear hk);(try clear hi);(try clear ho0)) | ((with_reducible refine gate_callee (f:=41) rfl ?_);refine goesL_ (some 10) rfl rfl Tryd.func41 (by kernel_rfl) rfl #[.pointer (some ⟨g,0,none⟩),.int .i64 3] rfl (by (try simp only [List.map_toArray,List.map_cons,List.map_nil]);first | done | rfl | (simp only [List.length_drop,List.length_take];rfl)) ?_;(with_reducible refine (spec_l6Rd_pick.calls k g s0_0 t379 3 t380 t381 w0 _ ?side1 ?side2 A3.out).mono ?_);(case side1=>repeat (first | (with_reducible first | exact HI0.out | apply IsS73.alloc | apply IsS73.drewN | apply IsS73.drew | apply IsS73.set_1 | refine IsS73.far ?_ NB0_375.out _) | exact HI0.out));(case side2=>repeat (first | (with_reducible first | exact HB.out | apply below_alloc | apply pw_below_drewN | apply below_drew1 | refine below_set ?_ (IsS73.ge HI0.out) | refine below_set ?_ GE375.out) | exact HB.out));rintro e w8 ⟨rfl,hi,hb,hk⟩;refine ⟨_,rfl,?_⟩;have n0_:=Aside0.mk (KeepBut.blk hk (g':=gb375) (o:=.cells #[.int .i64 0,.int .i64 0,.slice none 0 0] 25 (0,0)) (by (with_reducible repeat (first | refine blk_drewN ?_ _ | refine blk_drew ?_ | refine blk_alloc ?_ _));exact BK375.out) NB375_0.out (by simp));have n1_:=Aside0.mk (Kd.N_mono (Kd.N_keep (Kd.N_mono (ok:=fun k_=>(((w.heap.size ≤ k_))∧(k_ ≠ gb375∧k_ ≠ g))) (by (with_reducible repeat (first | apply Kd.N_alloc | apply Kd.N_drewN | apply Kd.N_drew));exact HO378.out) (fun k_ hk_=>(⟨hk_,hk_.2.2⟩:_∧k_ ≠ g))) hk (fun _ h=>h.2)) (fun _ h=>h.1));have n2_:=Aside0.mk (KeepBut.trans (by repeat (first | (with_reducible first | exact HK.out | apply KeepBut.set_ | apply keep_drewN | apply keep_drew | apply keep_alloc | refine keep_far ?_ GW375.out _) | exact HK.out)) hk (.inl rfl));have n3_:=Aside0.mk (hb);have n4_:=Aside0.mk (hi);clear BK375;clear HO378;clear HK;clear HB;clear HI0;have BK375:=n0_;have HO378:=n1_;have HK:=n2_;have HB:=n3_;have HI0:=n4_;clear n0_ n1_ n2_ n3_ n4_;(try clear hb);(try clear hb2);(try clear hk);(try clear hi)) | ((with_reducible refine gate_callee (f:=40) rfl ?_);refine goesL_ (some 11) rfl rfl Tryd.func40 (by kernel_rfl) rfl #[.pointer (some ⟨g,0,none⟩),.int .i64 t380] rfl (by (try simp only [List.map_toArray,List.map_cons,List.map_nil]);first | done | rfl | (simp only [List.length_drop,List.length_take];rfl)) ?_;(with_reducible refine (spec_l92Seal.calls k g s0_0 t381 t380 t382 t383 t384 t387 w0 _ ?side1 ?side2 A4.out).mono ?_);(case side1=>repeat (first | (with_reducible first | exact HI0.out | apply IsS73.alloc | apply IsS73.drewN | apply IsS73.drew | apply IsS73.set_1 | refine IsS73.far ?_ NB0_375.out _) | exact HI0.out));(case side2=>repeat (first | (with_reducible first | exact HB.out | apply below_alloc | apply pw_below_drewN | apply below_drew1 | refine below_set ?_ (IsS73.ge HI0.out) | refine below_set ?_ GE375.out) | exact HB.out));rintro e w9 ⟨v385,rfl,ho0,hi,hb,hk⟩;refine ⟨_,rfl,?_⟩;have n0_:=Aside0.mk (KeepBut.blk hk (g':=gb375) (o:=.cells #[.int .i64 0,.int .i64 0,.slice none 0 0] 25 (0,0)) (by (with_reducible repeat (first | refine blk_drewN ?_ _ | refine blk_drew ?_ | refine blk_alloc ?_ _));exact BK375.out) NB375_0.out (by simp));have n1_:=Aside0.mk (Kd.N_mono (Kd.N_told (Kd.N_oldK (Kd.N_mono (ok:=fun k_=>(((w.heap.size ≤ k_))∧(k_ ≠ gb375∧k_ ≠ g))) (by (with_reducible repeat (first | apply Kd.N_alloc | apply Kd.N_drewN | apply Kd.N_drew));exact HO378.out) (fun k_ hk_=>(⟨hk_,hk_.2.2⟩:_∧k_ ≠ g))) hk) (Kd.N_base ho0)) (fun _ h_=>h_.1));have n2_:=Aside0.mk (Kd.N_lower (Kd.N_mono (ok':=fun k_=>(w.heap.size ≤ k_)∧some k_ ≠ (v377:Value).ownBlock∧k_ ≠ gb375∧k_ ≠ g) ho0 (fun k_ hk_=>⟨(Nat.le_trans (keep_size (w:=w) (g:=g) (row:=none) (by repeat (first | (with_reducible first | exact HK.out | apply KeepBut.set_ | apply keep_drewN | apply keep_drew | apply keep_alloc | refine keep_far ?_ GW375.out _) | exact HK.out))) hk_),(Kd.fresh' (Kd.N_lt (by (with_reducible repeat (first | apply Kd.N_alloc | apply Kd.N_drewN | apply Kd.N_drew));exact HO378.out)) k_ hk_),(Kd.freshB (g:=gb375) (o:=.cells #[.int .i64 0,.int .i64 0,.slice none 0 0] 25 (0,0)) (by (with_reducible repeat (first | refine blk_drewN ?_ _ | refine blk_drew ?_ | refine blk_alloc ?_ _));exact BK375.out) k_ hk_),(IsS73.fresh (by repeat (first | (with_reducible first | exact HI0.out | apply IsS73.alloc | apply IsS73.drewN | apply IsS73.drew | apply IsS73.set_1 | refine IsS73.far ?_ NB0_375.out _) | exact HI0.out)) k_ hk_)⟩)) (keep_size (w:=w) (g:=g) (row:=none) (by repeat (first | (with_reducible first | exact HK.out | apply KeepBut.set_ | apply keep_drewN | apply keep_drew | apply keep_alloc | refine keep_far ?_ GW375.out _) | exact HK.out))));have n3_:=Aside0.mk (KeepBut.trans (by repeat (first | (with_reducible first | exact HK.out | apply KeepBut.set_ | apply keep_drewN | apply keep_drew | apply keep_alloc | refine keep_far ?_ GW375.out _) | exact HK.out)) hk (.inl rfl));have n4_:=Aside0.mk (hb);have n5_:=Aside0.mk (hi);clear BK375;clear HO378;clear HK;clear HB;clear HI0;have BK375:=n0_;have HO378:=n1_;have HO386:=n2_;have HK:=n3_;have HB:=n4_;have HI0:=n5_;clear n0_ n1_ n2_ n3_ n4_ n5_;(try clear hb);(try clear hb2);(try clear hk);(try clear hi);(try clear ho0)) | ((with_reducible refine gate_dst (N:=5) rfl ?_);refine box_event ?hg (N:=5) ?hd (cs:=#[.int .i64 0,.int .i64 0,.slice none 0 0]) (t:=25) ?hr ?_;(case hd=>rfl);(case hg=>rfl);(case hr=>first | (go_simp;done) | (go_simp;rfl));intro gb388 hg w10 hbox hb;have n0_:=Aside0.mk (Kd.N_below (Kd.N_elderB (by (with_reducible repeat (first | apply Kd.N_alloc | apply Kd.N_drewN | apply Kd.N_drew));exact HO378.out) gb388 (Nat.le_of_eq hg.symm)) hb);have n1_:=Aside0.mk (Kd.N_below (Kd.N_elderB (by (with_reducible repeat (first | apply Kd.N_alloc | apply Kd.N_drewN | apply Kd.N_drew));exact HO386.out) gb388 (Nat.le_of_eq hg.symm)) hb);have n2_:=Aside0.mk (IsS73.below (by repeat (first | (with_reducible first | exact HI0.out | apply IsS73.alloc | apply IsS73.drewN | apply IsS73.drew | apply IsS73.set_1 | refine IsS73.far ?_ NB0_375.out _) | exact HI0.out)) hb);have n3_:=Aside0.mk (blk_below (g:=gb375) (o:=.cells #[.int .i64 0,.int .i64 0,.slice none 0 0] 25 (0,0)) (by (with_reducible repeat (first | refine blk_drewN ?_ _ | refine blk_drew ?_ | refine blk_alloc ?_ _));exact BK375.out) hb);have n4_:=Aside0.mk (KeepBut.trans (by repeat (first | (with_reducible first | exact HK.out | apply KeepBut.set_ | apply keep_drewN | apply keep_drew | apply keep_alloc | refine keep_far ?_ GW375.out _) | exact HK.out)) (KeepBut.of_below hb g none) (.inl rfl));have n5_:=Aside0.mk (below_step (by repeat (first | (with_reducible first | exact HB.out | apply below_alloc | apply pw_below_drewN | apply below_drew1 | refine below_set ?_ (IsS73.ge HI0.out) | refine below_set ?_ GE375.out) | exact HB.out)) hb);have n6_:=Aside0.mk (hbox);have n7_:=Aside0.mk ((by rw [hg];exact (keep_size (w:=w) (g:=g) (row:=none) (by repeat (first | (with_reducible first | exact HK.out | apply KeepBut.set_ | apply keep_drewN | apply keep_drew | apply keep_alloc | refine keep_far ?_ GW375.out _) | exact HK.out))):w.heap.size ≤ gb388));have n8_:=Aside0.mk ((Nat.le_trans HW0.out (by rw [hg];exact (keep_size (w:=w) (g:=g) (row:=none) (by repeat (first | (with_reducible first | exact HK.out | apply KeepBut.set_ | apply keep_drewN | apply keep_drew | apply keep_alloc | refine keep_far ?_ GW375.out _) | exact HK.out))):w.heap.size ≤ gb388):w0.heap.size ≤ gb388));have n9_:=Aside0.mk ((by rw [hg];exact Nat.ne_of_lt (blk_lt (g:=gb375) (o:=.cells #[.int .i64 0,.int .i64 0,.slice none 0 0] 25 (0,0)) (by (with_reducible repeat (first | refine blk_drewN ?_ _ | refine blk_drew ?_ | refine blk_alloc ?_ _));exact BK375.out)):gb375 ≠ gb388));have n10_:=Aside0.mk ((by rw [hg];exact Nat.ne_of_gt (blk_lt (g:=gb375) (o:=.cells #[.int .i64 0,.int .i64 0,.slice none 0 0] 25 (0,0)) (by (with_reducible repeat (first | refine blk_drewN ?_ _ | refine blk_drew ?_ | refine blk_alloc ?_ _));exact BK375.out)):gb388 ≠ gb375));have n11_:=Aside0.mk ((by rw [hg];exact Nat.ne_of_lt (IsS73.lt (show IsS73 w0 _ g s0_0 t387 from by repeat (first | (with_reducible first | exact HI0.out | apply IsS73.alloc | apply IsS73.drewN | apply IsS73.drew | apply IsS73.set_1 | refine IsS73.far ?_ NB0_375.out _) | exact HI0.out))):g ≠ gb388));have n12_:=Aside0.mk ((by rw [hg];exact Nat.ne_of_gt (IsS73.lt (show IsS73 w0 _ g s0_0 t387 from by repeat (first | (with_reducible first | exact HI0.out | apply IsS73.alloc | apply IsS73.drewN | apply IsS73.drew | apply IsS73.set_1 | refine IsS73.far ?_ NB0_375.out _) | exact HI0.out))):gb388 ≠ g));clear HO378;clear HO386;clear HI0;clear BK375;clear HK;clear HB;have HO378:=n0_;have HO386:=n1_;have HI0:=n2_;have BK375:=n3_;have HK:=n4_;have HB:=n5_;have BK388:=n6_;have GW388:=n7_;have GE388:=n8_;have NB375_388:=n9_;have NB388_375:=n10_;have NB0_388:=n11_;have NB388_0:=n12_;clear n0_ n1_ n2_ n3_ n4_ n5_ n6_ n7_ n8_ n9_ n10_ n11_ n12_;clear hb hbox hg;have hnb11:=NB388_375.out;have hnc11:=NB375_388.out;have hnb12:=NB388_0.out;have hnc12:=NB0_388.out;have hcz13_0:w10.cell? ⟨gb388,0,none⟩ = some (.int .i64 0):=(blk_cell BK388.out 0).trans rfl;have hcz13_1:w10.cell? ⟨gb388,1,none⟩ = some (.int .i64 0):=(blk_cell BK388.out 1).trans rfl;have hcz13_2:w10.cell? ⟨gb388,2,none⟩ = some (.slice none 0 0):=(blk_cell BK388.out 2).trans rfl;have hfz13_0:=blk_frozen BK388.out 0;have hfz13_1:=blk_frozen BK388.out 1;have hfz13_2:=blk_frozen BK388.out 2;obtain ⟨Ao14,co14,eo14⟩:=Kd.N_slice HO386.out;subst eo14))
 (try simp only [Act.put,List.setIfInBounds_toArray,List.set_cons_zero,List.set_cons_succ])
 go_cut [19] (fun v19 wc=>∃ (kq:Nat) (x19_4:Bool) (x1001_4:Int),v19 = .bool x19_4∧Aside0 (spec_l92Asked.j0 kq t376 x19_4 s0_0 x1001_4 t382 t383 t384 = some (r1,r2,r3,r4,r5))∧Aside0 (kq ≤ k)∧Aside0 (Kd.N k25 25 wc w.heap.size (fun k_=>(w.heap.size ≤ k_)∧some k_ ≠ ((.slice Ao14 t384.length co14):Value).ownBlock∧k_ ≠ gb375∧k_ ≠ gb388∧k_ ≠ g) v377 t376)∧Aside0 (Kd.N k25 25 wc w.heap.size (fun k_=>(w.heap.size ≤ k_)∧some k_ ≠ (v377:Value).ownBlock∧k_ ≠ gb375∧k_ ≠ gb388∧k_ ≠ g) (.slice Ao14 t384.length co14) t384)∧Aside0 (wc.heap[gb375]? = some (.cells #[.int .i64 0,.int .i64 0,(.slice none 0 0)] 25 (0,0)))∧Aside0 (wc.heap[gb388]? = some (.cells #[.int .i64 t382,.int .i64 t383,(.slice Ao14 t384.length co14)] 25 (0,0)))∧Aside0 (IsS73 w0 wc g s0_0 x1001_4)∧Aside0 (KeepBut w wc g none)∧Aside0 (Below w0.heap.size w0 wc))
 case first =>
  have H:=HC5.out
  clear HC5
  by_cases c15:(t376.length:Int) > 0
  ·rw [if_pos c15] at H
   have c15b0:decide (0 < (t376.length:Int)) = true:=decide_eq_true c15
   have c15b1:decide (0 < t376.length) = true:=decide_eq_true (by omega)
   clear c15
   (first | rw [c15b0] | (simp only [i64_w,i32_w];rw [c15b0]) | skip)
   replace H:=Option.bind_eq_some_iff.mp H
   obtain ⟨⟨t389,t390⟩,A160,H⟩:=H
   replace H:(spec_l92Asked.j0 k t376 (t389 == 0) s0_0 t390 t382 t383 t384) = some (r1,r2,r3,r4,r5):=H
   have A16:=Aside0.mk A160
   clear A160
   have H':=Aside0.mk H
   clear H
   obtain ⟨Ao17,co17,eo17⟩:=Kd.N_slice HO378.out
   subst eo17
   go_wp2_with (first | (go_at_call 41;(with_reducible refine (spec_l6Rd_pick.calls k g s0_0 t387 2 t389 t390 w0 _ ?side1 ?side2 A16.out).mono ?_);(case side1=>repeat (first | (with_reducible first | exact HI0.out | apply IsS73.alloc | apply IsS73.drewN | apply IsS73.drew | apply IsS73.set_1 | refine IsS73.far ?_ NB0_375.out _ | refine IsS73.far ?_ NB0_388.out _) | exact HI0.out));(case side2=>repeat (first | (with_reducible first | exact HB.out | apply below_alloc | apply pw_below_drewN | apply below_drew1 | refine below_set ?_ (IsS73.ge HI0.out) | refine below_set ?_ GE375.out | refine below_set ?_ GE388.out) | exact HB.out));rintro e w18 ⟨rfl,hi,hb,hk⟩;have n0_:=Aside0.mk (KeepBut.blk hk (g':=gb375) (o:=.cells #[.int .i64 0,.int .i64 0,.slice none 0 0] 25 (0,0)) (by (with_reducible repeat (first | refine blk_drewN ?_ _ | refine blk_drew ?_ | refine blk_alloc ?_ _));refine blk_far ?_ NB375_388.out _;(with_reducible repeat (first | refine blk_drewN ?_ _ | refine blk_drew ?_ | refine blk_alloc ?_ _));refine blk_far ?_ NB375_388.out _;(with_reducible repeat (first | refine blk_drewN ?_ _ | refine blk_drew ?_ | refine blk_alloc ?_ _));refine blk_far ?_ NB375_388.out _;(with_reducible repeat (first | refine blk_drewN ?_ _ | refine blk_drew ?_ | refine blk_alloc ?_ _));exact BK375.out) NB375_0.out (by simp));have n1_:=Aside0.mk (Kd.N_mono (Kd.N_keep (Kd.N_mono (ok:=fun k_=>(((((w.heap.size ≤ k_))∧(k_ ≠ gb375∧k_ ≠ g))∧some k_ ≠ (.slice Ao14 t384.length co14:Value).ownBlock)∧k_ ≠ gb388)) (by (with_reducible repeat (first | apply Kd.N_alloc | apply Kd.N_drewN | apply Kd.N_drew));exact (Kd.N_mono (Kd.N_far (p:=⟨gb388,2,none⟩) (Kd.N_far (p:=⟨gb388,1,none⟩) (Kd.N_far (p:=⟨gb388,0,none⟩) (Kd.N_mono HO378.out (fun k_ hk=>(⟨hk,hk.2⟩:_∧k_ ≠ gb388))) (fun _ hk=>hk.2) (.int .i64 t382)) (fun _ hk=>hk.2) (.int .i64 t383)) (fun _ hk=>hk.2) (.slice Ao14 t384.length co14)) (fun _ h_=>h_.1))) (fun k_ hk_=>(⟨hk_,hk_.1.1.2.2⟩:_∧k_ ≠ g))) hk (fun _ h=>h.2)) (fun _ h=>h.1));have n2_:=Aside0.mk (Kd.N_mono (Kd.N_keep (Kd.N_mono (ok:=fun k_=>((((w.heap.size ≤ k_))∧(some k_ ≠ (.slice Ao17 t376.length co17:Value).ownBlock∧(k_ ≠ gb375∧k_ ≠ g)))∧k_ ≠ gb388)) (by (with_reducible repeat (first | apply Kd.N_alloc | apply Kd.N_drewN | apply Kd.N_drew));exact (Kd.N_mono (Kd.N_far (p:=⟨gb388,2,none⟩) (Kd.N_far (p:=⟨gb388,1,none⟩) (Kd.N_far (p:=⟨gb388,0,none⟩) (Kd.N_mono HO386.out (fun k_ hk=>(⟨hk,hk.2⟩:_∧k_ ≠ gb388))) (fun _ hk=>hk.2) (.int .i64 t382)) (fun _ hk=>hk.2) (.int .i64 t383)) (fun _ hk=>hk.2) (.slice Ao14 t384.length co14)) (fun _ h_=>h_.1))) (fun k_ hk_=>(⟨hk_,hk_.1.2.2.2⟩:_∧k_ ≠ g))) hk (fun _ h=>h.2)) (fun _ h=>h.1));have n3_:=Aside0.mk (KeepBut.blk hk (g':=gb388) (o:=.cells #[.int .i64 t382,.int .i64 t383,.slice Ao14 t384.length co14] 25 (0,0)) (by (with_reducible repeat (first | refine blk_drewN ?_ _ | refine blk_drew ?_ | refine blk_alloc ?_ _));refine blk_put (cs:=#[.int .i64 t382,.int .i64 t383,.slice none 0 0]) ?_ 2 _ rfl;(with_reducible repeat (first | refine blk_drewN ?_ _ | refine blk_drew ?_ | refine blk_alloc ?_ _));refine blk_put (cs:=#[.int .i64 t382,.int .i64 0,.slice none 0 0]) ?_ 1 _ rfl;(with_reducible repeat (first | refine blk_drewN ?_ _ | refine blk_drew ?_ | refine blk_alloc ?_ _));refine blk_put (cs:=#[.int .i64 0,.int .i64 0,.slice none 0 0]) ?_ 0 _ rfl;(with_reducible repeat (first | refine blk_drewN ?_ _ | refine blk_drew ?_ | refine blk_alloc ?_ _));exact BK388.out) NB388_0.out (by simp));have n4_:=Aside0.mk (KeepBut.trans (by repeat (first | (with_reducible first | exact HK.out | apply KeepBut.set_ | apply keep_drewN | apply keep_drew | apply keep_alloc | refine keep_far ?_ GW375.out _ | refine keep_far ?_ GW388.out _) | exact HK.out)) hk (.inl rfl));have n5_:=Aside0.mk (hb);have n6_:=Aside0.mk (hi);clear BK375;clear HO378;clear HO386;clear BK388;clear HK;clear HB;clear HI0;have BK375:=n0_;have HO378:=n1_;have HO386:=n2_;have BK388:=n3_;have HK:=n4_;have HB:=n5_;have HI0:=n6_;clear n0_ n1_ n2_ n3_ n4_ n5_ n6_;(try clear hb);(try clear hb2);(try clear hk);(try clear hi)))
   go_meet
   case rel=>exact ⟨_,((t389 == 0)),(t390),(by first | rfl | (simp;done) | (simp [*];done)),H',⟨by first | omega | exact Nat.le_refl _⟩,⟨by (with_reducible repeat (first | apply Kd.N_alloc | apply Kd.N_drewN | apply Kd.N_drew));exact Kd.N_mono HO378.out (fun _ hk=>⟨hk.1.1.1,⟨hk.1.2,⟨hk.1.1.2.1,⟨hk.2,hk.1.1.2.2⟩⟩⟩⟩)⟩,⟨by (with_reducible repeat (first | apply Kd.N_alloc | apply Kd.N_drewN | apply Kd.N_drew));exact Kd.N_mono HO386.out (fun _ hk=>⟨hk.1.1,⟨hk.1.2.1,⟨hk.1.2.2.1,⟨hk.2,hk.1.2.2.2⟩⟩⟩⟩)⟩,⟨by (with_reducible repeat (first | refine blk_drewN ?_ _ | refine blk_drew ?_ | refine blk_alloc ?_ _));exact BK375.out⟩,⟨by (with_reducible repeat (first | refine blk_drewN ?_ _ | refine blk_drew ?_ | refine blk_alloc ?_ _));exact BK388.out⟩,⟨by repeat (first | (with_reducible first | exact HI0.out | apply IsS73.alloc | apply IsS73.drewN | apply IsS73.drew | apply IsS73.set_1 | refine IsS73.far ?_ NB0_375.out _ | refine IsS73.far ?_ NB0_388.out _) | exact HI0.out)⟩,⟨by repeat (first | (with_reducible first | exact HK.out | apply KeepBut.set_ | apply keep_drewN | apply keep_drew | apply keep_alloc | refine keep_far ?_ GW375.out _ | refine keep_far ?_ GW388.out _) | exact HK.out)⟩,⟨by repeat (first | (with_reducible first | exact HB.out | apply below_alloc | apply pw_below_drewN | apply below_drew1 | refine below_set ?_ (IsS73.ge HI0.out) | refine below_set ?_ GE375.out | refine below_set ?_ GE388.out) | exact HB.out)⟩⟩
  ·rw [if_neg c15] at H
   have c15b0:decide (0 < (t376.length:Int)) = false:=decide_eq_false c15
   have c15b1:decide (0 < t376.length) = false:=decide_eq_false (by omega)
   clear c15
   (first | rw [c15b0] | (simp only [i64_w,i32_w];rw [c15b0]) | skip)
   have H':=Aside0.mk H
   clear H
   obtain ⟨Ao19,co19,eo19⟩:=Kd.N_slice HO378.out
   subst eo19
   go_wp2
   go_meet
   case rel=>exact ⟨_,(false),(t387),(by first | rfl | (simp;done) | (simp [*];done)),H',⟨by first | omega | exact Nat.le_refl _⟩,⟨by (with_reducible repeat (first | apply Kd.N_alloc | apply Kd.N_drewN | apply Kd.N_drew));exact Kd.N_mono (Kd.N_far (p:=⟨gb388,2,none⟩) (Kd.N_far (p:=⟨gb388,1,none⟩) (Kd.N_far (p:=⟨gb388,0,none⟩) (Kd.N_mono HO378.out (fun k_ hk=>(⟨hk,hk.2⟩:_∧k_ ≠ gb388))) (fun _ hk=>hk.2) (.int .i64 t382)) (fun _ hk=>hk.2) (.int .i64 t383)) (fun _ hk=>hk.2) (.slice Ao14 t384.length co14)) (fun _ hk=>⟨hk.1.1.1.1,⟨hk.1.1.2,⟨hk.1.1.1.2.1,⟨hk.1.2,hk.1.1.1.2.2⟩⟩⟩⟩)⟩,⟨by (with_reducible repeat (first | apply Kd.N_alloc | apply Kd.N_drewN | apply Kd.N_drew));exact Kd.N_mono (Kd.N_far (p:=⟨gb388,2,none⟩) (Kd.N_far (p:=⟨gb388,1,none⟩) (Kd.N_far (p:=⟨gb388,0,none⟩) (Kd.N_mono HO386.out (fun k_ hk=>(⟨hk,hk.2⟩:_∧k_ ≠ gb388))) (fun _ hk=>hk.2) (.int .i64 t382)) (fun _ hk=>hk.2) (.int .i64 t383)) (fun _ hk=>hk.2) (.slice Ao14 t384.length co14)) (fun _ hk=>⟨hk.1.1.1,⟨hk.1.1.2.1,⟨hk.1.1.2.2.1,⟨hk.1.2,hk.1.1.2.2.2⟩⟩⟩⟩)⟩,⟨by (with_reducible repeat (first | refine blk_drewN ?_ _ | refine blk_drew ?_ | refine blk_alloc ?_ _));refine blk_far ?_ NB375_388.out _;(with_reducible repeat (first | refine blk_drewN ?_ _ | refine blk_drew ?_ | refine blk_alloc ?_ _));refine blk_far ?_ NB375_388.out _;(with_reducible repeat (first | refine blk_drewN ?_ _ | refine blk_drew ?_ | refine blk_alloc ?_ _));refine blk_far ?_ NB375_388.out _;(with_reducible repeat (first | refine blk_drewN ?_ _ | refine blk_drew ?_ | refine blk_alloc ?_ _));exact BK375.out⟩,⟨by (with_reducible repeat (first | refine blk_drewN ?_ _ | refine blk_drew ?_ | refine blk_alloc ?_ _));refine blk_put (cs:=#[.int .i64 t382,.int .i64 t383,.slice none 0 0]) ?_ 2 _ rfl;(with_reducible repeat (first | refine blk_drewN ?_ _ | refine blk_drew ?_ | refine blk_alloc ?_ _));refine blk_put (cs:=#[.int .i64 t382,.int .i64 0,.slice none 0 0]) ?_ 1 _ rfl;(with_reducible repeat (first | refine blk_drewN ?_ _ | refine blk_drew ?_ | refine blk_alloc ?_ _));refine blk_put (cs:=#[.int .i64 0,.int .i64 0,.slice none 0 0]) ?_ 0 _ rfl;(with_reducible repeat (first | refine blk_drewN ?_ _ | refine blk_drew ?_ | refine blk_alloc ?_ _));exact BK388.out⟩,⟨by repeat (first | (with_reducible first | exact HI0.out | apply IsS73.alloc | apply IsS73.drewN | apply IsS73.drew | apply IsS73.set_1 | refine IsS73.far ?_ NB0_375.out _ | refine IsS73.far ?_ NB0_388.out _) | exact HI0.out)⟩,⟨by repeat (first | (with_reducible first | exact HK.out | apply KeepBut.set_ | apply keep_drewN | apply keep_drew | apply keep_alloc | refine keep_far ?_ GW375.out _ | refine keep_far ?_ GW388.out _) | exact HK.out)⟩,⟨by repeat (first | (with_reducible first | exact HB.out | apply below_alloc | apply pw_below_drewN | apply below_drew1 | refine below_set ?_ (IsS73.ge HI0.out) | refine below_set ?_ GE375.out | refine below_set ?_ GE388.out) | exact HB.out)⟩⟩
 case rest =>
  clear HC5
  try clear c1
  try clear p2
  try clear c4
  try clear c5
  try clear c11
  try clear c12
  try clear c15
  try clear c15b0
  try clear c15b1
  try clear hcz13_0
  try clear hcz13_1
  try clear hcz13_2
  try clear hfz13_0
  try clear hfz13_1
  try clear hfz13_2
  obtain ⟨kq,x19_4,x1001_4,rfl,HA,HJ4,HO_4,HO_389002,BK375,BK388,HI0,HK,HB⟩:=hcut
  cases kq with
  | zero=>exact absurd HA.out (by simp [spec_l92Asked.j0])
  | succ kj4 =>
   have H:=HA.out
   clear HA
   simp only [spec_l92Asked.j0] at H
   have HC20:=Aside0.mk H
   clear H
   go_upto_if 19 with (fail)
   go_cut [] (fun wc=>∃ (kq:Nat) (x1001_19:Int) (x389000_19:Int) (x389001_19:Int) (x389002_19:List (S25)) (u389002:Value),Aside0 (spec_l92Asked.j2 kq t376 s0_0 x1001_19 x389000_19 x389001_19 x389002_19 = some (r1,r2,r3,r4,r5))∧Aside0 (kq ≤ kj4)∧Aside0 (Kd.N k25 25 wc w.heap.size (fun k_=>(w.heap.size ≤ k_)∧k_ ≠ gb375∧k_ ≠ gb388∧k_ ≠ g) v377 t376)∧Aside0 (Kd.V k25 25 wc w.heap.size (fun k_=>(w.heap.size ≤ k_)∧some k_ ≠ (v377:Value).ownBlock∧k_ ≠ gb375∧k_ ≠ gb388∧k_ ≠ g) u389002 x389002_19)∧Aside0 (wc.heap[gb375]? = some (.cells #[.int .i64 0,.int .i64 0,(.slice none 0 0)] 25 (0,0)))∧Aside0 (wc.heap[gb388]? = some (.cells #[.int .i64 x389000_19,.int .i64 x389001_19,u389002] 25 (0,0)))∧Aside0 (IsS73 w0 wc g s0_0 x1001_19)∧Aside0 (KeepBut w wc g none)∧Aside0 (Below w0.heap.size w0 wc))
   case first =>
    have H:=HC20.out
    clear HC20
    by_cases c21:x19_4 = true
    ·subst c21
     have H1:((spec_l6Rd_pick.f kj4 s0_0 x1001_4 (t376.length:Int)).bind fun bt391=>(if 0 ≤ bt391.1 then (if bt391.1 < (t376.length:Int) then (spec_l92Asked.l0 kj4 t376 s0_0 bt391.2 ((rd_T25 t376 bt391.1).f0) ((rd_T25 t376 bt391.1).f1) ((rd_T25 t376 bt391.1).f2)) else (none)) else (none))) = some (r1,r2,r3,r4,r5):=by rw [if_pos rfl] at H;exact H
     clear H
     have H:=H1
     clear H1
     replace H:=Option.bind_eq_some_iff.mp H
     obtain ⟨⟨t391,t392⟩,A220,H⟩:=H
     replace H:(if 0 ≤ t391 then (if t391 < (t376.length:Int) then (spec_l92Asked.l0 kj4 t376 s0_0 t392 ((rd_T25 t376 t391).f0) ((rd_T25 t376 t391).f1) ((rd_T25 t376 t391).f2)) else (none)) else (none)) = some (r1,r2,r3,r4,r5):=H
     have A22:=Aside0.mk A220
     clear A220
     by_cases c23:0 ≤ t391
     ·rw [if_pos c23] at H
      have c23b0:decide (0 ≤ t391) = true:=decide_eq_true c23
      clear c23
      (first | rw [c23b0] | (simp only [i64_w,i32_w];rw [c23b0]) | skip)
      by_cases c24:t391 < (t376.length:Int)
      ·rw [if_pos c24] at H
       have c24b0:decide (t391 < (t376.length:Int)) = true:=decide_eq_true c24
       clear c24
       have H':=Aside0.mk H
       clear H
       obtain ⟨Ao25,co25,eo25⟩:=Kd.N_slice HO_4.out
       subst eo25
       go_wp2_with (first | ((with_reducible refine gate_callee (f:=41) rfl ?_);refine goesL_ (some 24) rfl rfl Tryd.func41 (by kernel_rfl) rfl #[.pointer (some ⟨g,0,none⟩),.int .i64 (t376.length:Int)] rfl (by (try simp only [List.map_toArray,List.map_cons,List.map_nil]);first | done | rfl | (simp only [List.length_drop,List.length_take];rfl)) ?_;(with_reducible refine (spec_l6Rd_pick.calls kj4 g s0_0 x1001_4 (t376.length:Int) t391 t392 w0 _ ?side1 ?side2 A22.out).mono ?_);(case side1=>repeat (first | (with_reducible first | exact HI0.out | apply IsS73.alloc | apply IsS73.drewN | apply IsS73.drew | apply IsS73.set_1 | refine IsS73.far ?_ NB0_375.out _ | refine IsS73.far ?_ NB0_388.out _) | exact HI0.out));(case side2=>repeat (first | (with_reducible first | exact HB.out | apply below_alloc | apply pw_below_drewN | apply below_drew1 | refine below_set ?_ (IsS73.ge HI0.out) | refine below_set ?_ GE375.out | refine below_set ?_ GE388.out) | exact HB.out));rintro e w26 ⟨rfl,hi,hb,hk⟩;refine ⟨_,rfl,?_⟩;have n0_:=Aside0.mk (Kd.N_mono (Kd.N_keep (Kd.N_mono (ok:=fun k_=>(((w.heap.size ≤ k_))∧(some k_ ≠ (.slice Ao14 t384.length co14:Value).ownBlock∧(k_ ≠ gb375∧(k_ ≠ gb388∧k_ ≠ g))))) (by (with_reducible repeat (first | apply Kd.N_alloc | apply Kd.N_drewN | apply Kd.N_drew));exact HO_4.out) (fun k_ hk_=>(⟨hk_,hk_.2.2.2.2⟩:_∧k_ ≠ g))) hk (fun _ h=>h.2)) (fun _ h=>h.1));have n1_:=Aside0.mk (Kd.N_mono (Kd.N_keep (Kd.N_mono (ok:=fun k_=>(((w.heap.size ≤ k_))∧(some k_ ≠ (.slice Ao25 t376.length co25:Value).ownBlock∧(k_ ≠ gb375∧(k_ ≠ gb388∧k_ ≠ g))))) (by (with_reducible repeat (first | apply Kd.N_alloc | apply Kd.N_drewN | apply Kd.N_drew));exact HO_389002.out) (fun k_ hk_=>(⟨hk_,hk_.2.2.2.2⟩:_∧k_ ≠ g))) hk (fun _ h=>h.2)) (fun _ h=>h.1));have n2_:=Aside0.mk (KeepBut.blk hk (g':=gb375) (o:=.cells #[.int .i64 0,.int .i64 0,.slice none 0 0] 25 (0,0)) (by (with_reducible repeat (first | refine blk_drewN ?_ _ | refine blk_drew ?_ | refine blk_alloc ?_ _));exact BK375.out) NB375_0.out (by simp));have n3_:=Aside0.mk (KeepBut.blk hk (g':=gb388) (o:=.cells #[.int .i64 t382,.int .i64 t383,.slice Ao14 t384.length co14] 25 (0,0)) (by (with_reducible repeat (first | refine blk_drewN ?_ _ | refine blk_drew ?_ | refine blk_alloc ?_ _));exact BK388.out) NB388_0.out (by simp));have n4_:=Aside0.mk (KeepBut.trans (by repeat (first | (with_reducible first | exact HK.out | apply KeepBut.set_ | apply keep_drewN | apply keep_drew | apply keep_alloc | refine keep_far ?_ GW375.out _ | refine keep_far ?_ GW388.out _) | exact HK.out)) hk (.inl rfl));have n5_:=Aside0.mk (hb);have n6_:=Aside0.mk (hi);clear HO_4;clear HO_389002;clear BK375;clear BK388;clear HK;clear HB;clear HI0;have HO_4:=n0_;have HO_389002:=n1_;have BK375:=n2_;have BK388:=n3_;have HK:=n4_;have HB:=n5_;have HI0:=n6_;clear n0_ n1_ n2_ n3_ n4_ n5_ n6_;(try clear hb);(try clear hb2);(try clear hk);(try clear hi);have p393:0 ≤ (t391:Int):=of_decide_eq_true (by first | (with_reducible assumption) | assumption);have q393:t391 < (t376.length:Int):=of_decide_eq_true (by first | (with_reducible assumption) | assumption);obtain ⟨ad393,A393_2,c393_2,e393,hx393_0,hx393_1,hx393_2,hl393_2,hi393_2⟩:=at_T25 (Kd.N_reads' HO_4.out).2.2 t391 p393 q393;cases e393;obtain ⟨ce393,hce393,hMe393,hcc393⟩:=Kd.N_get HO_4.out z25 t391 p393 (by first | exact q393 | exact of_decide_eq_true (by first | (with_reducible assumption) | assumption) | (have e_:=(Kd.N_reads' HO_4.out).1;omega));obtain ⟨ua393_2,uc393_2,rfl,ul393_2,ge393_2⟩:=k25_openF hMe393;have hv393_2:=hcc393 2 _ rfl;rw [add_field _ _ 2 (by omega)] at hv393_2;replace hv393_2:=Option.some.inj (hv393_2.symm.trans hx393_2);injection hv393_2 with hva_ hvn_ hvc_;rw [hva_] at ge393_2;rw [hvc_] at ul393_2;have HL393_2:=Aside0.mk (show Kd.V k25 25 _ w.heap.size _ _ ((rd_T25 t376 t391).f2) from Kd.V_mk ul393_2 ge393_2);clear hva_ hvn_ hvc_ ge393_2 ul393_2;clear hcc393 hce393;have HR393_2:=Aside0.mk hi393_2;have HC393_2:=Aside0.mk hl393_2;clear hi393_2 hl393_2;replace p393:=eq_true p393;replace q393:=eq_true q393;have hnb27:=NB388_375.out;have hnc27:=NB375_388.out;have hnb28:=NB388_0.out;have hnc28:=NB0_388.out;have hcz29_0:w26.cell? ⟨gb388,0,none⟩ = some (.int .i64 t382):=(blk_cell BK388.out 0).trans rfl;have hcz29_1:w26.cell? ⟨gb388,1,none⟩ = some (.int .i64 t383):=(blk_cell BK388.out 1).trans rfl;have hcz29_2:w26.cell? ⟨gb388,2,none⟩ = some (.slice Ao14 t384.length co14):=(blk_cell BK388.out 2).trans rfl;have hfz29_0:=blk_frozen BK388.out 0;have hfz29_1:=blk_frozen BK388.out 1;have hfz29_2:=blk_frozen BK388.out 2))
       go_loopg [] kj4 (fun kq w'=>∃ (x1001_2:Int) (x389000_2:Int) (x389001_2:Int) (x389002_2:List (S25)) (u389002:Value),Aside0 (spec_l92Asked.l0 kq t376 s0_0 x1001_2 x389000_2 x389001_2 x389002_2 = some (r1,r2,r3,r4,r5))∧Aside0 (kq ≤ kj4)∧Aside0 (Kd.N k25 25 w' w.heap.size (fun k_=>(w.heap.size ≤ k_)∧k_ ≠ gb375∧k_ ≠ gb388∧k_ ≠ g) (.slice (some ad393) t376.length co25) t376)∧Aside0 (Kd.V k25 25 w' w.heap.size (fun k_=>(w.heap.size ≤ k_)∧some k_ ≠ ((.slice (some ad393) t376.length co25):Value).ownBlock∧k_ ≠ gb375∧k_ ≠ gb388∧k_ ≠ g) u389002 x389002_2)∧Aside0 (w'.heap[gb375]? = some (.cells #[.int .i64 0,.int .i64 0,(.slice none 0 0)] 25 (0,0)))∧Aside0 (w'.heap[gb388]? = some (.cells #[.int .i64 x389000_2,.int .i64 x389001_2,u389002] 25 (0,0)))∧Aside0 (IsS73 w0 w' g s0_0 x1001_2)∧Aside0 (KeepBut w w' g none)∧Aside0 (Below w0.heap.size w0 w'))
       case atStart=>exact ⟨(t392),((rd_T25 t376 t391).f0),((rd_T25 t376 t391).f1),((rd_T25 t376 t391).f2),(.slice A393_2 ((rd_T25 t376 t391).f2).length c393_2),H',⟨Nat.le_refl _⟩,⟨by (with_reducible repeat (first | apply Kd.N_alloc | apply Kd.N_drewN | apply Kd.N_drew));exact Kd.N_mono (Kd.N_far (p:=⟨gb388,2,none⟩) (Kd.N_far (p:=⟨gb388,1,none⟩) (Kd.N_far (p:=⟨gb388,0,none⟩) (Kd.N_mono HO_4.out (fun k_ hk=>(⟨hk,hk.2.2.2.1⟩:_∧k_ ≠ gb388))) (fun _ hk=>hk.2) (.int .i64 ((rd_T25 t376 t391).f0))) (fun _ hk=>hk.2) (.int .i64 ((rd_T25 t376 t391).f1))) (fun _ hk=>hk.2) (.slice A393_2 ((rd_T25 t376 t391).f2).length c393_2)) (fun _ hk=>⟨hk.1.1,⟨hk.1.2.2.1,⟨hk.1.2.2.2.1,hk.1.2.2.2.2⟩⟩⟩)⟩,⟨by (with_reducible repeat (first | apply Kd.V_alloc | apply Kd.V_drewN | apply Kd.V_drew));exact Kd.V_mono (Kd.V_far (p:=⟨gb388,2,none⟩) (Kd.V_far (p:=⟨gb388,1,none⟩) (Kd.V_far (p:=⟨gb388,0,none⟩) (Kd.V_mono HL393_2.out (fun k_ hk=>(⟨hk,hk.1.2.2.2.1⟩:_∧k_ ≠ gb388))) (fun _ hk=>hk.2) (.int .i64 ((rd_T25 t376 t391).f0))) (fun _ hk=>hk.2) (.int .i64 ((rd_T25 t376 t391).f1))) (fun _ hk=>hk.2) (.slice A393_2 ((rd_T25 t376 t391).f2).length c393_2)) (fun _ hk=>⟨hk.1.1.1,⟨hk.1.2,⟨hk.1.1.2.2.1,⟨hk.1.1.2.2.2.1,hk.1.1.2.2.2.2⟩⟩⟩⟩)⟩,⟨by (with_reducible repeat (first | refine blk_drewN ?_ _ | refine blk_drew ?_ | refine blk_alloc ?_ _));refine blk_far ?_ NB375_388.out _;(with_reducible repeat (first | refine blk_drewN ?_ _ | refine blk_drew ?_ | refine blk_alloc ?_ _));refine blk_far ?_ NB375_388.out _;(with_reducible repeat (first | refine blk_drewN ?_ _ | refine blk_drew ?_ | refine blk_alloc ?_ _));refine blk_far ?_ NB375_388.out _;(with_reducible repeat (first | refine blk_drewN ?_ _ | refine blk_drew ?_ | refine blk_alloc ?_ _));exact BK375.out⟩,⟨by (with_reducible repeat (first | refine blk_drewN ?_ _ | refine blk_drew ?_ | refine blk_alloc ?_ _));refine blk_put (cs:=#[.int .i64 ((rd_T25 t376 t391).f0),.int .i64 ((rd_T25 t376 t391).f1),.slice Ao14 t384.length co14]) ?_ 2 _ rfl;(with_reducible repeat (first | refine blk_drewN ?_ _ | refine blk_drew ?_ | refine blk_alloc ?_ _));refine blk_put (cs:=#[.int .i64 ((rd_T25 t376 t391).f0),.int .i64 t383,.slice Ao14 t384.length co14]) ?_ 1 _ rfl;(with_reducible repeat (first | refine blk_drewN ?_ _ | refine blk_drew ?_ | refine blk_alloc ?_ _));refine blk_put (cs:=#[.int .i64 t382,.int .i64 t383,.slice Ao14 t384.length co14]) ?_ 0 _ rfl;(with_reducible repeat (first | refine blk_drewN ?_ _ | refine blk_drew ?_ | refine blk_alloc ?_ _));exact BK388.out⟩,⟨by repeat (first | (with_reducible first | exact HI0.out | apply IsS73.alloc | apply IsS73.drewN | apply IsS73.drew | apply IsS73.set_1 | refine IsS73.far ?_ NB0_375.out _ | refine IsS73.far ?_ NB0_388.out _) | exact HI0.out)⟩,⟨by repeat (first | (with_reducible first | exact HK.out | apply KeepBut.set_ | apply keep_drewN | apply keep_drew | apply keep_alloc | refine keep_far ?_ GW375.out _ | refine keep_far ?_ GW388.out _) | exact HK.out)⟩,⟨by repeat (first | (with_reducible first | exact HB.out | apply below_alloc | apply pw_below_drewN | apply below_drew1 | refine below_set ?_ (IsS73.ge HI0.out) | refine below_set ?_ GE375.out | refine below_set ?_ GE388.out) | exact HB.out)⟩⟩
       case round =>
        clear H'
        try clear c1
        try clear c2
        try clear p2
        try clear c3
        try clear p3
        try clear q3
        try clear hx3
        try clear c4
        try clear c5
        try clear c11
        try clear c12
        try clear c15
        try clear c15b0
        try clear c15b1
        try clear c21
        try clear c23
        try clear c23b0
        try clear c24
        try clear c24b0
        try clear c27
        try clear c28
        try clear hcz13_0
        try clear hcz13_1
        try clear hcz13_2
        try clear hcz29_0
        try clear hcz29_1
        try clear hcz29_2
        try clear hfz13_0
        try clear hfz13_1
        try clear hfz13_2
        try clear hfz29_0
        try clear hfz29_1
        try clear hfz29_2
        try clear hx393_0
        try clear hx393_1
        try clear hx393_2
        try clear p2
        try clear p393
        try clear q393
        obtain ⟨x1001_2,x389000_2,x389001_2,x389002_2,u389002,HA,HK2,HO_4,HO_389002,BK375,BK388,HI0,HK,HB⟩:=hrel
        cases gk with
        | zero=>exact absurd HA.out (by simp [spec_l92Asked.l0])
        | succ k2 =>
         have H:=HA.out
         clear HA
         simp only [spec_l92Asked.l0] at H
         by_cases c30:(x389002_2.length:Int) > 0
         ·rw [if_pos c30] at H
          have c30b0:decide (0 < (x389002_2.length:Int)) = true:=decide_eq_true c30
          have c30b1:decide (0 < x389002_2.length) = true:=decide_eq_true (by omega)
          clear c30
          replace H:=Option.bind_eq_some_iff.mp H
          obtain ⟨⟨t394,t395⟩,A310,H⟩:=H
          replace H:(if t394 > 0 then ((spec_l6Rd_pick.f k2 s0_0 t395 (x389002_2.length:Int)).bind fun bt396=>(if 0 ≤ bt396.1 then (if bt396.1 < (x389002_2.length:Int) then (spec_l92Asked.l0 k2 t376 s0_0 bt396.2 ((rd_T25 x389002_2 bt396.1).f0) ((rd_T25 x389002_2 bt396.1).f1) ((rd_T25 x389002_2 bt396.1).f2)) else (none)) else (none))) else (spec_l92Asked.j2 k2 t376 s0_0 t395 x389000_2 x389001_2 x389002_2)) = some (r1,r2,r3,r4,r5):=H
          have A31:=Aside0.mk A310
          clear A310
          by_cases c32:t394 > 0
          ·rw [if_pos c32] at H
           have c32b0:decide (0 < t394) = true:=decide_eq_true c32
           clear c32
           replace H:=Option.bind_eq_some_iff.mp H
           obtain ⟨⟨t396,t397⟩,A330,H⟩:=H
           replace H:(if 0 ≤ t396 then (if t396 < (x389002_2.length:Int) then (spec_l92Asked.l0 k2 t376 s0_0 t397 ((rd_T25 x389002_2 t396).f0) ((rd_T25 x389002_2 t396).f1) ((rd_T25 x389002_2 t396).f2)) else (none)) else (none)) = some (r1,r2,r3,r4,r5):=H
           have A33:=Aside0.mk A330
           clear A330
           by_cases c34:0 ≤ t396
           ·rw [if_pos c34] at H
            have c34b0:decide (0 ≤ t396) = true:=decide_eq_true c34
            clear c34
            by_cases c35:t396 < (x389002_2.length:Int)
            ·rw [if_pos c35] at H
             have c35b0:decide (t396 < (x389002_2.length:Int)) = true:=decide_eq_true c35
             clear c35
             have H':=Aside0.mk H
             clear H
             have hnb36:=NB388_375.out
             have hnc36:=NB375_388.out
             have hnb37:=NB388_0.out
             have hnc37:=NB0_388.out
             have hcz38_0:wr.cell? ⟨gb388,0,none⟩ = some (.int .i64 x389000_2):=(blk_cell BK388.out 0).trans rfl
             have hcz38_1:wr.cell? ⟨gb388,1,none⟩ = some (.int .i64 x389001_2):=(blk_cell BK388.out 1).trans rfl
             have hcz38_2:wr.cell? ⟨gb388,2,none⟩ = some (u389002):=(blk_cell BK388.out 2).trans rfl
             have hfz38_0:=blk_frozen BK388.out 0
             have hfz38_1:=blk_frozen BK388.out 1
             have hfz38_2:=blk_frozen BK388.out 2
             obtain ⟨Ao39,co39,eo39⟩:=Kd.V_slice HO_389002.out
             subst eo39
             try go_wp2_with (first | (go_at_call 41;(with_reducible refine (spec_l6Rd_pick.calls k2 g s0_0 x1001_2 3 t394 t395 w0 _ ?side1 ?side2 A31.out).mono ?_);(case side1=>repeat (first | (with_reducible first | exact HI0.out | apply IsS73.alloc | apply IsS73.drewN | apply IsS73.drew | apply IsS73.set_1 | refine IsS73.far ?_ NB0_375.out _ | refine IsS73.far ?_ NB0_388.out _) | exact HI0.out));(case side2=>repeat (first | (with_reducible first | exact HB.out | apply below_alloc | apply pw_below_drewN | apply below_drew1 | refine below_set ?_ (IsS73.ge HI0.out) | refine below_set ?_ GE375.out | refine below_set ?_ GE388.out) | exact HB.out));rintro e w40 ⟨rfl,hi,hb,hk⟩;have n0_:=Aside0.mk (Kd.N_mono (Kd.N_keep (Kd.N_mono (ok:=fun k_=>(((w.heap.size ≤ k_))∧(k_ ≠ gb375∧(k_ ≠ gb388∧k_ ≠ g)))) (by (with_reducible repeat (first | apply Kd.N_alloc | apply Kd.N_drewN | apply Kd.N_drew));exact HO_4.out) (fun k_ hk_=>(⟨hk_,hk_.2.2.2⟩:_∧k_ ≠ g))) hk (fun _ h=>h.2)) (fun _ h=>h.1));have n1_:=Aside0.mk (Kd.V_mono (Kd.V_keep (Kd.V_mono (ok:=fun k_=>(((w.heap.size ≤ k_))∧(some k_ ≠ (.slice (some ad393) t376.length co25:Value).ownBlock∧(k_ ≠ gb375∧(k_ ≠ gb388∧k_ ≠ g))))) (by (with_reducible repeat (first | apply Kd.V_alloc | apply Kd.V_drewN | apply Kd.V_drew));exact HO_389002.out) (fun k_ hk_=>(⟨hk_,hk_.2.2.2.2⟩:_∧k_ ≠ g))) hk (fun _ h=>h.2)) (fun _ h=>h.1));have n2_:=Aside0.mk (KeepBut.blk hk (g':=gb375) (o:=.cells #[.int .i64 0,.int .i64 0,.slice none 0 0] 25 (0,0)) (by (with_reducible repeat (first | refine blk_drewN ?_ _ | refine blk_drew ?_ | refine blk_alloc ?_ _));exact BK375.out) NB375_0.out (by simp));have n3_:=Aside0.mk (KeepBut.blk hk (g':=gb388) (o:=.cells #[.int .i64 x389000_2,.int .i64 x389001_2,.slice Ao39 x389002_2.length co39] 25 (0,0)) (by (with_reducible repeat (first | refine blk_drewN ?_ _ | refine blk_drew ?_ | refine blk_alloc ?_ _));exact BK388.out) NB388_0.out (by simp));have n4_:=Aside0.mk (KeepBut.trans (by repeat (first | (with_reducible first | exact HK.out | apply KeepBut.set_ | apply keep_drewN | apply keep_drew | apply keep_alloc | refine keep_far ?_ GW375.out _ | refine keep_far ?_ GW388.out _) | exact HK.out)) hk (.inl rfl));have n5_:=Aside0.mk (hb);have n6_:=Aside0.mk (hi);clear HO_4;clear HO_389002;clear BK375;clear BK388;clear HK;clear HB;clear HI0;have HO_4:=n0_;have HO_389002:=n1_;have BK375:=n2_;have BK388:=n3_;have HK:=n4_;have HB:=n5_;have HI0:=n6_;clear n0_ n1_ n2_ n3_ n4_ n5_ n6_;(try clear hb);(try clear hb2);(try clear hk);(try clear hi)))
             have n0_:=Aside0.mk (Kd.N_drew HO_4.out)
             have n1_:=Aside0.mk (Kd.V_drew HO_389002.out)
             have n2_:=Aside0.mk (blk_drew BK375.out)
             have n3_:=Aside0.mk (blk_drew BK388.out)
             have n4_:=Aside0.mk (IsS73.drew HI0.out)
             have n5_:=Aside0.mk (keep_drew HK.out)
             have n6_:=Aside0.mk (below_drew1 HB.out)
             clear HO_4
             clear HO_389002
             clear BK375
             clear BK388
             clear HI0
             clear HK
             clear HB
             have HO_4:=n0_
             have HO_389002:=n1_
             have BK375:=n2_
             have BK388:=n3_
             have HI0:=n4_
             have HK:=n5_
             have HB:=n6_
             clear n0_ n1_ n2_ n3_ n4_ n5_ n6_
             have p398:0 ≤ (t396:Int):=of_decide_eq_true (by first | (with_reducible assumption) | assumption)
             have q398:t396 < (x389002_2.length:Int):=of_decide_eq_true (by first | (with_reducible assumption) | assumption)
             obtain ⟨ad398,A398_2,c398_2,e398,hx398_0,hx398_1,hx398_2,hl398_2,hi398_2⟩:=at_T25 (Kd.V_reads' HO_389002.out).2.2 t396 p398 q398
             cases e398
             obtain ⟨ce398,hce398,hMe398,hcc398⟩:=Kd.V_get HO_389002.out z25 t396 p398 (by first | exact q398 | exact of_decide_eq_true (by first | (with_reducible assumption) | assumption) | (have e_:=(Kd.V_reads' HO_389002.out).1;omega))
             obtain ⟨ua398_2,uc398_2,rfl,ul398_2,ge398_2⟩:=k25_openF hMe398
             have hv398_2:=hcc398 2 _ rfl
             rw [add_field _ _ 2 (by omega)] at hv398_2
             replace hv398_2:=Option.some.inj (hv398_2.symm.trans hx398_2)
             injection hv398_2 with hva_ hvn_ hvc_
             rw [hva_] at ge398_2
             rw [hvc_] at ul398_2
             have HL398_2:=Aside0.mk (show Kd.V k25 25 _ w.heap.size _ _ ((rd_T25 x389002_2 t396).f2) from Kd.V_mk ul398_2 ge398_2)
             clear hva_ hvn_ hvc_ ge398_2 ul398_2
             clear hcc398 hce398
             have HR398_2:=Aside0.mk hi398_2
             have HC398_2:=Aside0.mk hl398_2
             clear hi398_2 hl398_2
             replace p398:=eq_true p398
             replace q398:=eq_true q398
             refine start_ (n:=10) (S:=fun w'=>w'.cell? ⟨gb388,0,none⟩ = some (.int .i64 x389000_2)∧w'.cell? ⟨gb388,1,none⟩ = some (.int .i64 x389001_2)∧w'.cell? ⟨gb388,2,none⟩ = some (.slice (some ad398) x389002_2.length co39)∧w'.cell? (ad398.add ((t396).toNat * 3)) = some (.int .i64 ((rd_T25 x389002_2 t396).f0))∧w'.cell? ⟨(ad398.add ((t396).toNat * 3)).block,(ad398.add ((t396).toNat * 3)).off + 1,none⟩ = some (.int .i64 ((rd_T25 x389002_2 t396).f1))∧w'.cell? ⟨(ad398.add ((t396).toNat * 3)).block,(ad398.add ((t396).toNat * 3)).off + 2,none⟩ = some (.slice A398_2 ((rd_T25 x389002_2 t396).f2).length c398_2)) (ds:=[9]) #[false,false,false,false,false,false,false,false,false,false] (by kernel_rfl) rfl rfl ⟨(blk_cell BK388.out 0).trans rfl,(blk_cell BK388.out 1).trans rfl,(blk_cell BK388.out 2).trans rfl,hx398_0,hx398_1,hx398_2⟩ (fun hHeld=>?_);refine with_tabW spec_l92Asked.tab6 spec_l92Asked.bits6 (fun HT_ HW_=>?_)
             generalize w40.drew = w41 at HO_4 HO_389002 BK375 BK388 HI0 HK HB HL398_2 HR398_2 hx398_0 hx398_1 hx398_2 hHeld ⊢
             refine pure_ (i:=0) (N:=some 36) (v:=?_) (a':=?_) #[true,false,false,false,false,false,false,false,false,false] rfl rfl (any_of HT_.out (by kernel_rfl)) (fun _ _ _ h=>h) (Or.inl ⟨by rfl,?_⟩) ?_ ?_
             rotate_left;·intro w';go_simp;with_reducible rfl
             rotate_left;·simp only [Act.put,List.setIfInBounds_toArray,List.set_cons_zero,List.set_cons_succ,i64_w,i32_w];rfl
             refine pure_ (i:=2) (N:=some 38) (v:=?_) (a':=?_) #[true,false,true,false,false,false,false,false,false,false] rfl rfl (any_of HT_.out (by kernel_rfl)) (fun _ _ _ h=>h) (Or.inl ⟨by rfl,?_⟩) ?_ ?_
             rotate_left;·intro w';go_simp;with_reducible rfl
             rotate_left;·simp only [Act.put,List.setIfInBounds_toArray,List.set_cons_zero,List.set_cons_succ,i64_w,i32_w];rfl
             refine pure_ (i:=3) (N:=some 39) (v:=?_) (a':=?_) #[true,false,true,true,false,false,false,false,false,false] rfl rfl (any_of HT_.out (by kernel_rfl)) (fun _ _ _ h=>h) (Or.inl ⟨by rfl,?_⟩) ?_ ?_
             rotate_left;·intro w';go_simp;with_reducible rfl
             rotate_left;·simp only [Act.put,List.setIfInBounds_toArray,List.set_cons_zero,List.set_cons_succ,i64_w,i32_w];rfl
             refine take_ (i:=1) (N:=some 37) (v:=?_) (a':=?_) #[true,true,true,true,false,false,false,false,false,false] rfl rfl (take_ofW HT_.out HW_.out (by kernel_rfl)) (fun _ _ _ h=>h) (Or.inl ⟨by rfl,?_⟩) hHeld ?_ ?_
             rotate_left;·rintro w' ⟨s0,s1,s2,s3,s4,s5⟩;go_simp;with_reducible rfl
             rotate_left;·simp only [Act.put,List.setIfInBounds_toArray,List.set_cons_zero,List.set_cons_succ,i64_w,i32_w];rfl
             refine take_ (i:=4) (N:=some 40) (v:=?_) (a':=?_) #[true,true,true,true,true,false,false,false,false,false] rfl rfl (take_ofW HT_.out HW_.out (by kernel_rfl)) (fun _ _ _ h=>h) (Or.inl ⟨by rfl,?_⟩) hHeld ?_ ?_
             rotate_left;·rintro w' ⟨s0,s1,s2,s3,s4,s5⟩;go_simp;with_reducible rfl
             rotate_left;·simp only [Act.put,List.setIfInBounds_toArray,List.set_cons_zero,List.set_cons_succ,i64_w,i32_w];rfl
             refine pure_ (i:=5) (N:=some 41) (v:=?_) (a':=?_) #[true,true,true,true,true,true,false,false,false,false] rfl rfl (any_of HT_.out (by kernel_rfl)) (fun _ _ _ h=>h) (Or.inl ⟨by rfl,?_⟩) ?_ ?_
             rotate_left;·intro w';go_simp;with_reducible rfl
             rotate_left;·simp only [Act.put,List.setIfInBounds_toArray,List.set_cons_zero,List.set_cons_succ,i64_w,i32_w];rfl
             refine one_ (i:=6) (N:=some 42) #[true,true,true,true,true,true,true,false,false,false] rfl rfl (one_of HT_.out (by kernel_rfl)) (by decide) (fun K hK=>?_)
             refine goes_ Tryd.func41 (by kernel_rfl) rfl #[.pointer (some ⟨g,0,none⟩),.int .i64 (x389002_2.length:Int)] (by rfl) rfl rfl (by (try simp only [List.map_toArray,List.map_cons,List.map_nil]);first | done | rfl | (simp only [List.length_drop,List.length_take];rfl)) ?_
             with_reducible refine (spec_l6Rd_pick.calls k2 g s0_0 t395 (x389002_2.length:Int) t396 t397 w0 _ ?side1 ?side2 A33.out).mono ?_
             (case side1=>repeat (first | (with_reducible first | exact HI0.out | apply IsS73.alloc | apply IsS73.drewN | apply IsS73.drew | apply IsS73.set_1 | refine IsS73.far ?_ NB0_375.out _ | refine IsS73.far ?_ NB0_388.out _) | exact HI0.out))
             (case side2=>repeat (first | (with_reducible first | exact HB.out | apply below_alloc | apply pw_below_drewN | apply below_drew1 | refine below_set ?_ (IsS73.ge HI0.out) | refine below_set ?_ GE375.out | refine below_set ?_ GE388.out) | exact HB.out))
             rintro e w42 ⟨rfl,hi,hb,hk⟩
             have HS3_:=keep_cell hk (hHeld.2.2.2.1) (by first | (rw [add_block];exact (by have a_:=of_eq_true p398;have b_:=of_eq_true q398;have k_:=V_ok HO_389002.out z25 (by omega) (by decide);first | exact k_.2.2.2.2 | exact k_.2.2.2 | exact k_.2.2 | exact k_.2 | exact k_.1.2.2.2 | exact k_.1.2.2.2.2)) | (show (Addr.add _ _).block ≠ _;rw [add_block];exact (by have a_:=of_eq_true p398;have b_:=of_eq_true q398;have k_:=V_ok HO_389002.out z25 (by omega) (by decide);first | exact k_.2.2.2.2 | exact k_.2.2.2 | exact k_.2.2 | exact k_.2 | exact k_.1.2.2.2 | exact k_.1.2.2.2.2)) | exact (by have a_:=of_eq_true p398;have b_:=of_eq_true q398;have k_:=V_ok HO_389002.out z25 (by omega) (by decide);first | exact k_.2.2.2.2 | exact k_.2.2.2 | exact k_.2.2 | exact k_.2 | exact k_.1.2.2.2 | exact k_.1.2.2.2.2))
             have HS4_:=keep_cell hk (hHeld.2.2.2.2.1) (by first | (rw [add_block];exact (by have a_:=of_eq_true p398;have b_:=of_eq_true q398;have k_:=V_ok HO_389002.out z25 (by omega) (by decide);first | exact k_.2.2.2.2 | exact k_.2.2.2 | exact k_.2.2 | exact k_.2 | exact k_.1.2.2.2 | exact k_.1.2.2.2.2)) | (show (Addr.add _ _).block ≠ _;rw [add_block];exact (by have a_:=of_eq_true p398;have b_:=of_eq_true q398;have k_:=V_ok HO_389002.out z25 (by omega) (by decide);first | exact k_.2.2.2.2 | exact k_.2.2.2 | exact k_.2.2 | exact k_.2 | exact k_.1.2.2.2 | exact k_.1.2.2.2.2)) | exact (by have a_:=of_eq_true p398;have b_:=of_eq_true q398;have k_:=V_ok HO_389002.out z25 (by omega) (by decide);first | exact k_.2.2.2.2 | exact k_.2.2.2 | exact k_.2.2 | exact k_.2 | exact k_.1.2.2.2 | exact k_.1.2.2.2.2))
             have HS5_:=keep_cell hk (hHeld.2.2.2.2.2) (by first | (rw [add_block];exact (by have a_:=of_eq_true p398;have b_:=of_eq_true q398;have k_:=V_ok HO_389002.out z25 (by omega) (by decide);first | exact k_.2.2.2.2 | exact k_.2.2.2 | exact k_.2.2 | exact k_.2 | exact k_.1.2.2.2 | exact k_.1.2.2.2.2)) | (show (Addr.add _ _).block ≠ _;rw [add_block];exact (by have a_:=of_eq_true p398;have b_:=of_eq_true q398;have k_:=V_ok HO_389002.out z25 (by omega) (by decide);first | exact k_.2.2.2.2 | exact k_.2.2.2 | exact k_.2.2 | exact k_.2 | exact k_.1.2.2.2 | exact k_.1.2.2.2.2)) | exact (by have a_:=of_eq_true p398;have b_:=of_eq_true q398;have k_:=V_ok HO_389002.out z25 (by omega) (by decide);first | exact k_.2.2.2.2 | exact k_.2.2.2 | exact k_.2.2 | exact k_.2 | exact k_.1.2.2.2 | exact k_.1.2.2.2.2))
             refine ⟨_,rfl,?_⟩
             have n0_:=Aside0.mk (Kd.N_mono (Kd.N_keep (Kd.N_mono (ok:=fun k_=>(((w.heap.size ≤ k_))∧(k_ ≠ gb375∧(k_ ≠ gb388∧k_ ≠ g)))) (by (with_reducible repeat (first | apply Kd.N_alloc | apply Kd.N_drewN | apply Kd.N_drew));exact HO_4.out) (fun k_ hk_=>(⟨hk_,hk_.2.2.2⟩:_∧k_ ≠ g))) hk (fun _ h=>h.2)) (fun _ h=>h.1))
             have n1_:=Aside0.mk (Kd.V_mono (Kd.V_keep (Kd.V_mono (ok:=fun k_=>(((w.heap.size ≤ k_))∧(some k_ ≠ (.slice (some ad393) t376.length co25:Value).ownBlock∧(k_ ≠ gb375∧(k_ ≠ gb388∧k_ ≠ g))))) (by (with_reducible repeat (first | apply Kd.V_alloc | apply Kd.V_drewN | apply Kd.V_drew));exact HO_389002.out) (fun k_ hk_=>(⟨hk_,hk_.2.2.2.2⟩:_∧k_ ≠ g))) hk (fun _ h=>h.2)) (fun _ h=>h.1))
             have HL398_2:=Aside0.mk (Kd.V_mono (Kd.V_keep (Kd.V_mono (ok:=fun k_=>(((w.heap.size ≤ k_))∧(some k_ ≠ (.slice (some ad393) t376.length co25:Value).ownBlock∧(k_ ≠ gb375∧(k_ ≠ gb388∧k_ ≠ g))))) (by (with_reducible repeat (first | apply Kd.V_alloc | apply Kd.V_drewN | apply Kd.V_drew));exact HL398_2.out) (fun k_ hk_=>(⟨hk_,hk_.2.2.2.2⟩:_∧k_ ≠ g))) hk (fun _ h=>h.2)) (fun _ h=>h.1))
             have n2_:=Aside0.mk (KeepBut.blk hk (g':=gb375) (o:=.cells #[.int .i64 0,.int .i64 0,.slice none 0 0] 25 (0,0)) (by (with_reducible repeat (first | refine blk_drewN ?_ _ | refine blk_drew ?_ | refine blk_alloc ?_ _));exact BK375.out) NB375_0.out (by simp))
             have n3_:=Aside0.mk (KeepBut.blk hk (g':=gb388) (o:=.cells #[.int .i64 x389000_2,.int .i64 x389001_2,.slice (some ad398) x389002_2.length co39] 25 (0,0)) (by (with_reducible repeat (first | refine blk_drewN ?_ _ | refine blk_drew ?_ | refine blk_alloc ?_ _));exact BK388.out) NB388_0.out (by simp))
             have n4_:=Aside0.mk (KeepBut.trans (by repeat (first | (with_reducible first | exact HK.out | apply KeepBut.set_ | apply keep_drewN | apply keep_drew | apply keep_alloc | refine keep_far ?_ GW375.out _ | refine keep_far ?_ GW388.out _) | exact HK.out)) hk (.inl rfl))
             have n5_:=Aside0.mk (hb)
             have n6_:=Aside0.mk (hi)
             clear HO_4
             clear HO_389002
             clear BK375
             clear BK388
             clear HK
             clear HB
             clear HI0
             have HO_4:=n0_
             have HO_389002:=n1_
             have BK375:=n2_
             have BK388:=n3_
             have HK:=n4_
             have HB:=n5_
             have HI0:=n6_
             clear n0_ n1_ n2_ n3_ n4_ n5_ n6_
             (try clear hb)
             (try clear hb2)
             (try clear hk)
             (try clear hi)
             refine hK.out _ _ ⟨(blk_cell BK388.out 0).trans rfl,(blk_cell BK388.out 1).trans rfl,(blk_cell BK388.out 2).trans rfl,HS3_,HS4_,HS5_⟩ (fun hHeld=>?_)
             clear hK K
             refine norm_ (a':=?_) ?_ ?_
             rotate_left
             ·show Act.put _ (some 42) _ = _
              simp only [Act.put,List.setIfInBounds_toArray,List.set_cons_zero,List.set_cons_succ,i64_w,i32_w]
              rfl
             refine pure_ (i:=7) (N:=some 43) (v:=?_) (a':=?_) #[true,true,true,true,true,true,true,true,false,false] rfl rfl (any_of HT_.out (by kernel_rfl)) (fun _ _ _ h=>h) (Or.inl ⟨by rfl,?_⟩) ?_ ?_
             rotate_left;·intro w';go_simp;with_reducible rfl
             rotate_left;·simp only [Act.put,List.setIfInBounds_toArray,List.set_cons_zero,List.set_cons_succ,i64_w,i32_w];rfl
             refine take_ (i:=8) (N:=some 44) (v:=?_) (a':=?_) #[true,true,true,true,true,true,true,true,true,false] rfl rfl (take_ofW HT_.out HW_.out (by kernel_rfl)) (fun _ _ _ h=>h) (Or.inl ⟨by rfl,?_⟩) hHeld ?_ ?_
             rotate_left;·rintro w' ⟨s0,s1,s2,s3,s4,s5⟩;go_simp;with_reducible rfl
             rotate_left;·simp only [Act.put,List.setIfInBounds_toArray,List.set_cons_zero,List.set_cons_succ,i64_w,i32_w];rfl
             refine last_ (i:=9) (N:=none) #[true,true,true,true,true,true,true,true,true,true] rfl rfl (one_of HT_.out (by kernel_rfl)) (by decide) (fun K hK=>?_)
             have hs43:w42.cell? ⟨gb388,0,none⟩ = some (.int .i64 x389000_2):=(blk_cell BK388.out 0).trans rfl
             have hfs43:=blk_frozen BK388.out 0
             have hns43_0:=NB375_388.out
             have hms43_0:=NB388_375.out
             have hs44:w42.cell? ⟨gb388,1,none⟩ = some (.int .i64 x389001_2):=(blk_cell BK388.out 1).trans rfl
             have hfs44:=blk_frozen BK388.out 1
             have hns44_0:=NB375_388.out
             have hms44_0:=NB388_375.out
             have hs45:w42.cell? ⟨gb388,2,none⟩ = some (.slice (some ad398) x389002_2.length co39):=(blk_cell BK388.out 2).trans rfl
             have hfs45:=blk_frozen BK388.out 2
             have hns45_0:=NB375_388.out
             have hms45_0:=NB388_375.out
             refine skip_ (w1:=?_) (by rfl) rfl ?_ ?_
             rotate_left
             ·go_simp
              rfl
             refine hK.out _ _ ?_
             clear hK K
             refine done_ (done_of HT_.out (by kernel_rfl)) ?_
             try go_wp2
             go_roundg k2
             case measure=>have:=HJ4.out;have:=HK2.out;omega
             case rel=>exact ⟨(t397),((rd_T25 x389002_2 t396).f0),((rd_T25 x389002_2 t396).f1),((rd_T25 x389002_2 t396).f2),(.slice A398_2 ((rd_T25 x389002_2 t396).f2).length c398_2),H',⟨by have:=HJ4.out;have:=HK2.out;omega⟩,⟨by (with_reducible repeat (first | apply Kd.N_alloc | apply Kd.N_drewN | apply Kd.N_drew));exact Kd.N_mono (Kd.N_far (p:=⟨gb388,2,none⟩) (Kd.N_far (p:=⟨gb388,1,none⟩) (Kd.N_far (p:=⟨gb388,0,none⟩) (Kd.N_mono HO_4.out (fun k_ hk=>(⟨hk,hk.2.2.1⟩:_∧k_ ≠ gb388))) (fun _ hk=>hk.2) (.int .i64 ((rd_T25 x389002_2 t396).f0))) (fun _ hk=>hk.2) (.int .i64 ((rd_T25 x389002_2 t396).f1))) (fun _ hk=>hk.2) (.slice A398_2 ((rd_T25 x389002_2 t396).f2).length c398_2)) (fun _ hk=>⟨hk.1.1,⟨hk.1.2.1,⟨hk.1.2.2.1,hk.1.2.2.2⟩⟩⟩)⟩,⟨by (with_reducible repeat (first | apply Kd.V_alloc | apply Kd.V_drewN | apply Kd.V_drew));exact Kd.V_mono (Kd.V_far (p:=⟨gb388,2,none⟩) (Kd.V_far (p:=⟨gb388,1,none⟩) (Kd.V_far (p:=⟨gb388,0,none⟩) (Kd.V_mono HL398_2.out (fun k_ hk=>(⟨hk,hk.2.2.2.1⟩:_∧k_ ≠ gb388))) (fun _ hk=>hk.2) (.int .i64 ((rd_T25 x389002_2 t396).f0))) (fun _ hk=>hk.2) (.int .i64 ((rd_T25 x389002_2 t396).f1))) (fun _ hk=>hk.2) (.slice A398_2 ((rd_T25 x389002_2 t396).f2).length c398_2)) (fun _ hk=>⟨hk.1.1,⟨hk.1.2.1,⟨hk.1.2.2.1,⟨hk.1.2.2.2.1,hk.1.2.2.2.2⟩⟩⟩⟩)⟩,⟨by (with_reducible repeat (first | refine blk_drewN ?_ _ | refine blk_drew ?_ | refine blk_alloc ?_ _));refine blk_far ?_ NB375_388.out _;(with_reducible repeat (first | refine blk_drewN ?_ _ | refine blk_drew ?_ | refine blk_alloc ?_ _));refine blk_far ?_ NB375_388.out _;(with_reducible repeat (first | refine blk_drewN ?_ _ | refine blk_drew ?_ | refine blk_alloc ?_ _));refine blk_far ?_ NB375_388.out _;(with_reducible repeat (first | refine blk_drewN ?_ _ | refine blk_drew ?_ | refine blk_alloc ?_ _));exact BK375.out⟩,⟨by (with_reducible repeat (first | refine blk_drewN ?_ _ | refine blk_drew ?_ | refine blk_alloc ?_ _));refine blk_put (cs:=#[.int .i64 ((rd_T25 x389002_2 t396).f0),.int .i64 ((rd_T25 x389002_2 t396).f1),.slice (some ad398) x389002_2.length co39]) ?_ 2 _ rfl;(with_reducible repeat (first | refine blk_drewN ?_ _ | refine blk_drew ?_ | refine blk_alloc ?_ _));refine blk_put (cs:=#[.int .i64 ((rd_T25 x389002_2 t396).f0),.int .i64 x389001_2,.slice (some ad398) x389002_2.length co39]) ?_ 1 _ rfl;(with_reducible repeat (first | refine blk_drewN ?_ _ | refine blk_drew ?_ | refine blk_alloc ?_ _));refine blk_put (cs:=#[.int .i64 x389000_2,.int .i64 x389001_2,.slice (some ad398) x389002_2.length co39]) ?_ 0 _ rfl;(with_reducible repeat (first | refine blk_drewN ?_ _ | refine blk_drew ?_ | refine blk_alloc ?_ _));exact BK388.out⟩,⟨by repeat (first | (with_reducible first | exact HI0.out | apply IsS73.alloc | apply IsS73.drewN | apply IsS73.drew | apply IsS73.set_1 | refine IsS73.far ?_ NB0_375.out _ | refine IsS73.far ?_ NB0_388.out _) | exact HI0.out)⟩,⟨by repeat (first | (with_reducible first | exact HK.out | apply KeepBut.set_ | apply keep_drewN | apply keep_drew | apply keep_alloc | refine keep_far ?_ GW375.out _ | refine keep_far ?_ GW388.out _) | exact HK.out)⟩,⟨by repeat (first | (with_reducible first | exact HB.out | apply below_alloc | apply pw_below_drewN | apply below_drew1 | refine below_set ?_ (IsS73.ge HI0.out) | refine below_set ?_ GE375.out | refine below_set ?_ GE388.out) | exact HB.out)⟩⟩
            ·rw [if_neg c35] at H
             exact absurd H (by simp)
           ·rw [if_neg c34] at H
            exact absurd H (by simp)
          ·rw [if_neg c32] at H
           have c32b0:decide (0 < t394) = false:=decide_eq_false c32
           clear c32
           have H':=Aside0.mk H
           clear H
           have hnb46:=NB388_375.out
           have hnc46:=NB375_388.out
           have hnb47:=NB388_0.out
           have hnc47:=NB0_388.out
           have hcz48_0:wr.cell? ⟨gb388,0,none⟩ = some (.int .i64 x389000_2):=(blk_cell BK388.out 0).trans rfl
           have hcz48_1:wr.cell? ⟨gb388,1,none⟩ = some (.int .i64 x389001_2):=(blk_cell BK388.out 1).trans rfl
           have hcz48_2:wr.cell? ⟨gb388,2,none⟩ = some (u389002):=(blk_cell BK388.out 2).trans rfl
           have hfz48_0:=blk_frozen BK388.out 0
           have hfz48_1:=blk_frozen BK388.out 1
           have hfz48_2:=blk_frozen BK388.out 2
           obtain ⟨Ao49,co49,eo49⟩:=Kd.V_slice HO_389002.out
           subst eo49
           go_wp2_with (first | (go_at_call 41;(with_reducible refine (spec_l6Rd_pick.calls k2 g s0_0 x1001_2 3 t394 t395 w0 _ ?side1 ?side2 A31.out).mono ?_);(case side1=>repeat (first | (with_reducible first | exact HI0.out | apply IsS73.alloc | apply IsS73.drewN | apply IsS73.drew | apply IsS73.set_1 | refine IsS73.far ?_ NB0_375.out _ | refine IsS73.far ?_ NB0_388.out _) | exact HI0.out));(case side2=>repeat (first | (with_reducible first | exact HB.out | apply below_alloc | apply pw_below_drewN | apply below_drew1 | refine below_set ?_ (IsS73.ge HI0.out) | refine below_set ?_ GE375.out | refine below_set ?_ GE388.out) | exact HB.out));rintro e w50 ⟨rfl,hi,hb,hk⟩;have n0_:=Aside0.mk (Kd.N_mono (Kd.N_keep (Kd.N_mono (ok:=fun k_=>(((w.heap.size ≤ k_))∧(k_ ≠ gb375∧(k_ ≠ gb388∧k_ ≠ g)))) (by (with_reducible repeat (first | apply Kd.N_alloc | apply Kd.N_drewN | apply Kd.N_drew));exact HO_4.out) (fun k_ hk_=>(⟨hk_,hk_.2.2.2⟩:_∧k_ ≠ g))) hk (fun _ h=>h.2)) (fun _ h=>h.1));have n1_:=Aside0.mk (Kd.V_mono (Kd.V_keep (Kd.V_mono (ok:=fun k_=>(((w.heap.size ≤ k_))∧(some k_ ≠ (.slice (some ad393) t376.length co25:Value).ownBlock∧(k_ ≠ gb375∧(k_ ≠ gb388∧k_ ≠ g))))) (by (with_reducible repeat (first | apply Kd.V_alloc | apply Kd.V_drewN | apply Kd.V_drew));exact HO_389002.out) (fun k_ hk_=>(⟨hk_,hk_.2.2.2.2⟩:_∧k_ ≠ g))) hk (fun _ h=>h.2)) (fun _ h=>h.1));have n2_:=Aside0.mk (KeepBut.blk hk (g':=gb375) (o:=.cells #[.int .i64 0,.int .i64 0,.slice none 0 0] 25 (0,0)) (by (with_reducible repeat (first | refine blk_drewN ?_ _ | refine blk_drew ?_ | refine blk_alloc ?_ _));exact BK375.out) NB375_0.out (by simp));have n3_:=Aside0.mk (KeepBut.blk hk (g':=gb388) (o:=.cells #[.int .i64 x389000_2,.int .i64 x389001_2,.slice Ao49 x389002_2.length co49] 25 (0,0)) (by (with_reducible repeat (first | refine blk_drewN ?_ _ | refine blk_drew ?_ | refine blk_alloc ?_ _));exact BK388.out) NB388_0.out (by simp));have n4_:=Aside0.mk (KeepBut.trans (by repeat (first | (with_reducible first | exact HK.out | apply KeepBut.set_ | apply keep_drewN | apply keep_drew | apply keep_alloc | refine keep_far ?_ GW375.out _ | refine keep_far ?_ GW388.out _) | exact HK.out)) hk (.inl rfl));have n5_:=Aside0.mk (hb);have n6_:=Aside0.mk (hi);clear HO_4;clear HO_389002;clear BK375;clear BK388;clear HK;clear HB;clear HI0;have HO_4:=n0_;have HO_389002:=n1_;have BK375:=n2_;have BK388:=n3_;have HK:=n4_;have HB:=n5_;have HI0:=n6_;clear n0_ n1_ n2_ n3_ n4_ n5_ n6_;(try clear hb);(try clear hb2);(try clear hk);(try clear hi)))
           go_meet
           case rel=>exact ⟨_,(t395),(x389000_2),(x389001_2),(x389002_2),(.slice Ao49 x389002_2.length co49),H',⟨by have:=HJ4.out;have:=HK2.out;first | omega | exact Nat.le_refl _⟩,⟨by (with_reducible repeat (first | apply Kd.N_alloc | apply Kd.N_drewN | apply Kd.N_drew));exact HO_4.out⟩,⟨by (with_reducible repeat (first | apply Kd.V_alloc | apply Kd.V_drewN | apply Kd.V_drew));exact HO_389002.out⟩,⟨by (with_reducible repeat (first | refine blk_drewN ?_ _ | refine blk_drew ?_ | refine blk_alloc ?_ _));exact BK375.out⟩,⟨by (with_reducible repeat (first | refine blk_drewN ?_ _ | refine blk_drew ?_ | refine blk_alloc ?_ _));exact BK388.out⟩,⟨by repeat (first | (with_reducible first | exact HI0.out | apply IsS73.alloc | apply IsS73.drewN | apply IsS73.drew | apply IsS73.set_1 | refine IsS73.far ?_ NB0_375.out _ | refine IsS73.far ?_ NB0_388.out _) | exact HI0.out)⟩,⟨by repeat (first | (with_reducible first | exact HK.out | apply KeepBut.set_ | apply keep_drewN | apply keep_drew | apply keep_alloc | refine keep_far ?_ GW375.out _ | refine keep_far ?_ GW388.out _) | exact HK.out)⟩,⟨by repeat (first | (with_reducible first | exact HB.out | apply below_alloc | apply pw_below_drewN | apply below_drew1 | refine below_set ?_ (IsS73.ge HI0.out) | refine below_set ?_ GE375.out | refine below_set ?_ GE388.out) | exact HB.out)⟩⟩
         ·rw [if_neg c30] at H
          have c30b0:decide (0 < (x389002_2.length:Int)) = false:=decide_eq_false c30
          have c30b1:decide (0 < x389002_2.length) = false:=decide_eq_false (by omega)
          clear c30
          have H':=Aside0.mk H
          clear H
          have hnb51:=NB388_375.out
          have hnc51:=NB375_388.out
          have hnb52:=NB388_0.out
          have hnc52:=NB0_388.out
          have hcz53_0:wr.cell? ⟨gb388,0,none⟩ = some (.int .i64 x389000_2):=(blk_cell BK388.out 0).trans rfl
          have hcz53_1:wr.cell? ⟨gb388,1,none⟩ = some (.int .i64 x389001_2):=(blk_cell BK388.out 1).trans rfl
          have hcz53_2:wr.cell? ⟨gb388,2,none⟩ = some (u389002):=(blk_cell BK388.out 2).trans rfl
          have hfz53_0:=blk_frozen BK388.out 0
          have hfz53_1:=blk_frozen BK388.out 1
          have hfz53_2:=blk_frozen BK388.out 2
          obtain ⟨Ao54,co54,eo54⟩:=Kd.V_slice HO_389002.out
          subst eo54
          go_wp2
          go_meet
          case rel=>exact ⟨_,(x1001_2),(x389000_2),(x389001_2),(x389002_2),(.slice Ao54 x389002_2.length co54),H',⟨by have:=HJ4.out;have:=HK2.out;first | omega | exact Nat.le_refl _⟩,⟨by (with_reducible repeat (first | apply Kd.N_alloc | apply Kd.N_drewN | apply Kd.N_drew));exact HO_4.out⟩,⟨by (with_reducible repeat (first | apply Kd.V_alloc | apply Kd.V_drewN | apply Kd.V_drew));exact HO_389002.out⟩,⟨by (with_reducible repeat (first | refine blk_drewN ?_ _ | refine blk_drew ?_ | refine blk_alloc ?_ _));exact BK375.out⟩,⟨by (with_reducible repeat (first | refine blk_drewN ?_ _ | refine blk_drew ?_ | refine blk_alloc ?_ _));exact BK388.out⟩,⟨by repeat (first | (with_reducible first | exact HI0.out | apply IsS73.alloc | apply IsS73.drewN | apply IsS73.drew | apply IsS73.set_1 | refine IsS73.far ?_ NB0_375.out _ | refine IsS73.far ?_ NB0_388.out _) | exact HI0.out)⟩,⟨by repeat (first | (with_reducible first | exact HK.out | apply KeepBut.set_ | apply keep_drewN | apply keep_drew | apply keep_alloc | refine keep_far ?_ GW375.out _ | refine keep_far ?_ GW388.out _) | exact HK.out)⟩,⟨by repeat (first | (with_reducible first | exact HB.out | apply below_alloc | apply pw_below_drewN | apply below_drew1 | refine below_set ?_ (IsS73.ge HI0.out) | refine below_set ?_ GE375.out | refine below_set ?_ GE388.out) | exact HB.out)⟩⟩
      ·rw [if_neg c24] at H
       exact absurd H (by simp)
     ·rw [if_neg c23] at H
      exact absurd H (by simp)
    ·replace c21:=Bool.eq_false_iff.mpr c21
     subst c21
     have H1:(spec_l92Asked.j2 kj4 t376 s0_0 x1001_4 t382 t383 t384) = some (r1,r2,r3,r4,r5):=by rw [if_neg (show ¬ (false = true) by decide)] at H;exact H
     clear H
     have H:=H1
     clear H1
     have H':=Aside0.mk H
     clear H
     go_wp2
     go_meet
     case rel=>exact ⟨_,(x1001_4),(t382),(t383),(t384),(.slice Ao14 t384.length co14),H',⟨by have:=HJ4.out;first | omega | exact Nat.le_refl _⟩,⟨by (with_reducible repeat (first | apply Kd.N_alloc | apply Kd.N_drewN | apply Kd.N_drew));exact Kd.N_mono HO_4.out (fun _ hk=>⟨hk.1,⟨hk.2.2.1,⟨hk.2.2.2.1,hk.2.2.2.2⟩⟩⟩)⟩,⟨Kd.N_V (by (with_reducible repeat (first | apply Kd.N_alloc | apply Kd.N_drewN | apply Kd.N_drew));exact HO_389002.out)⟩,⟨by (with_reducible repeat (first | refine blk_drewN ?_ _ | refine blk_drew ?_ | refine blk_alloc ?_ _));exact BK375.out⟩,⟨by (with_reducible repeat (first | refine blk_drewN ?_ _ | refine blk_drew ?_ | refine blk_alloc ?_ _));exact BK388.out⟩,⟨by repeat (first | (with_reducible first | exact HI0.out | apply IsS73.alloc | apply IsS73.drewN | apply IsS73.drew | apply IsS73.set_1 | refine IsS73.far ?_ NB0_375.out _ | refine IsS73.far ?_ NB0_388.out _) | exact HI0.out)⟩,⟨by repeat (first | (with_reducible first | exact HK.out | apply KeepBut.set_ | apply keep_drewN | apply keep_drew | apply keep_alloc | refine keep_far ?_ GW375.out _ | refine keep_far ?_ GW388.out _) | exact HK.out)⟩,⟨by repeat (first | (with_reducible first | exact HB.out | apply below_alloc | apply pw_below_drewN | apply below_drew1 | refine below_set ?_ (IsS73.ge HI0.out) | refine below_set ?_ GE375.out | refine below_set ?_ GE388.out) | exact HB.out)⟩⟩
   case rest =>
    clear HC20
    try clear c1
    try clear c2
    try clear p2
    try clear c3
    try clear p3
    try clear q3
    try clear hx3
    try clear c4
    try clear c5
    try clear c11
    try clear c12
    try clear c15
    try clear c15b0
    try clear c15b1
    try clear c21
    try clear c23
    try clear c23b0
    try clear c24
    try clear c24b0
    try clear c27
    try clear c28
    try clear c30
    try clear c30b0
    try clear c30b1
    try clear c32
    try clear c32b0
    try clear c34
    try clear c34b0
    try clear c35
    try clear c35b0
    try clear c36
    try clear c37
    try clear c39
    try clear p39
    try clear q39
    try clear hx39
    try clear c40
    try clear c41
    try clear c46
    try clear c47
    try clear c50
    try clear c51
    try clear c52
    try clear hcz13_0
    try clear hcz13_1
    try clear hcz13_2
    try clear hcz29_0
    try clear hcz29_1
    try clear hcz29_2
    try clear hcz38_0
    try clear hcz38_1
    try clear hcz38_2
    try clear hcz48_0
    try clear hcz48_1
    try clear hcz48_2
    try clear hcz53_0
    try clear hcz53_1
    try clear hcz53_2
    try clear hfz13_0
    try clear hfz13_1
    try clear hfz13_2
    try clear hfz29_0
    try clear hfz29_1
    try clear hfz29_2
    try clear hfz38_0
    try clear hfz38_1
    try clear hfz38_2
    try clear hfz48_0
    try clear hfz48_1
    try clear hfz48_2
    try clear hfz53_0
    try clear hfz53_1
    try clear hfz53_2
    try clear hx393_0
    try clear hx393_1
    try clear hx393_2
    try clear hx398_0
    try clear hx398_1
    try clear hx398_2
    try clear p2
    try clear p3
    try clear p393
    try clear p398
    try clear q3
    try clear q393
    try clear q398
    obtain ⟨kq,x1001_19,x389000_19,x389001_19,x389002_19,u389002,HA,HJ19,HO_4,HO_389002,BK375,BK388,HI0,HK,HB⟩:=hcut
    cases kq with
    | zero=>exact absurd HA.out (by simp [spec_l92Asked.j2])
    | succ kj19 =>
     have H:=HA.out
     clear HA
     simp only [spec_l92Asked.j2] at H
     by_cases c55:(t376.length:Int) > 1
     ·rw [if_pos c55] at H
      have c55b0:decide (1 < (t376.length:Int)) = true:=decide_eq_true c55
      have c55b1:decide (1 < t376.length) = true:=decide_eq_true (by omega)
      clear c55
      replace H:=Option.bind_eq_some_iff.mp H
      obtain ⟨⟨t399,t400⟩,A560,H⟩:=H
      replace H:(if t399 = 0 then ((spec_l6Rd_pick.f kj19 s0_0 t400 2).bind fun bt401=>(if 0 < (t376.length:Int) then (some (t376,wrap64 (1 + bt401.1),0,(([(⟨x389000_19,x389001_19,x389002_19⟩:S25),(⟨(rd_T25 t376 0).f0,(rd_T25 t376 0).f1,(rd_T25 t376 0).f2⟩:S25)]:List (S25))),bt401.2)) else (none))) else (some (t376,x389000_19,x389001_19,x389002_19,t400))) = some (r1,r2,r3,r4,r5):=H
      have A56:=Aside0.mk A560
      clear A560
      by_cases c57:t399 = 0
      ·rw [if_pos c57] at H
       have c57b0:(t399 == 0) = true:=beq_iff_eq.mpr c57
       have c57b1:(t399 != 0) = false:=bne_eq_false_iff_eq.mpr c57
       clear c57
       replace H:=Option.bind_eq_some_iff.mp H
       obtain ⟨⟨t401,t402⟩,A580,H⟩:=H
       replace H:(if 0 < (t376.length:Int) then (some (t376,wrap64 (1 + t401),0,(([(⟨x389000_19,x389001_19,x389002_19⟩:S25),(⟨(rd_T25 t376 0).f0,(rd_T25 t376 0).f1,(rd_T25 t376 0).f2⟩:S25)]:List (S25))),t402)) else (none)) = some (r1,r2,r3,r4,r5):=H
       have A58:=Aside0.mk A580
       clear A580
       by_cases c59:0 < (t376.length:Int)
       ·rw [if_pos c59] at H
        have c59b0:decide (0 < (t376.length:Int)) = true:=decide_eq_true c59
        have c59b1:decide (0 < t376.length) = true:=decide_eq_true (by omega)
        clear c59
        obtain ⟨y404,hy404⟩:∃ y_:List (S25),y_ = (([(⟨x389000_19,x389001_19,x389002_19⟩:S25),(⟨(rd_T25 t376 0).f0,(rd_T25 t376 0).f1,(rd_T25 t376 0).f2⟩:S25)]:List (S25))):=⟨_,rfl⟩
        replace H:(some (t376,wrap64 (1 + t401),0,y404,t402)) = some (r1,r2,r3,r4,r5):=by first | (rw [hy404];with_reducible exact H) | (have H2_:=(Option.bind_some _ _).symm.trans H;rw [hy404];with_reducible exact H2_) | (have H2_:=(Option.bind_some _ _).symm.trans H;with_reducible exact H2_) | with_reducible exact H | (rw [hy404];exact H) | exact H
        have Ny404:=Aside0.mk hy404
        clear hy404
        simp only [Option.some.injEq,Prod.mk.injEq] at H
        obtain ⟨rfl,rfl,rfl,rfl,rfl⟩:=H
        obtain ⟨Ao60,co60,eo60⟩:=Kd.N_slice HO_4.out
        subst eo60
        obtain ⟨Ao64,co64,eo64⟩:=Kd.V_slice HO_389002.out
        subst eo64
        try go_wp2_with (first | (go_at_call 41;(with_reducible refine (spec_l6Rd_pick.calls kj19 g s0_0 x1001_19 3 t399 t400 w0 _ ?side1 ?side2 A56.out).mono ?_);(case side1=>repeat (first | (with_reducible first | exact HI0.out | apply IsS73.alloc | apply IsS73.drewN | apply IsS73.drew | apply IsS73.set_1 | refine IsS73.far ?_ NB0_375.out _ | refine IsS73.far ?_ NB0_388.out _) | exact HI0.out));(case side2=>repeat (first | (with_reducible first | exact HB.out | apply below_alloc | apply pw_below_drewN | apply below_drew1 | refine below_set ?_ (IsS73.ge HI0.out) | refine below_set ?_ GE375.out | refine below_set ?_ GE388.out) | exact HB.out));rintro e w61 ⟨rfl,hi,hb,hk⟩;have n0_:=Aside0.mk (Kd.N_mono (Kd.N_keep (Kd.N_mono (ok:=fun k_=>(((w.heap.size ≤ k_))∧(k_ ≠ gb375∧(k_ ≠ gb388∧k_ ≠ g)))) (by (with_reducible repeat (first | apply Kd.N_alloc | apply Kd.N_drewN | apply Kd.N_drew));exact HO_4.out) (fun k_ hk_=>(⟨hk_,hk_.2.2.2⟩:_∧k_ ≠ g))) hk (fun _ h=>h.2)) (fun _ h=>h.1));have n1_:=Aside0.mk (Kd.V_mono (Kd.V_keep (Kd.V_mono (ok:=fun k_=>(((w.heap.size ≤ k_))∧(some k_ ≠ (.slice Ao60 t376.length co60:Value).ownBlock∧(k_ ≠ gb375∧(k_ ≠ gb388∧k_ ≠ g))))) (by (with_reducible repeat (first | apply Kd.V_alloc | apply Kd.V_drewN | apply Kd.V_drew));exact HO_389002.out) (fun k_ hk_=>(⟨hk_,hk_.2.2.2.2⟩:_∧k_ ≠ g))) hk (fun _ h=>h.2)) (fun _ h=>h.1));have n2_:=Aside0.mk (KeepBut.blk hk (g':=gb375) (o:=.cells #[.int .i64 0,.int .i64 0,.slice none 0 0] 25 (0,0)) (by (with_reducible repeat (first | refine blk_drewN ?_ _ | refine blk_drew ?_ | refine blk_alloc ?_ _));exact BK375.out) NB375_0.out (by simp));have n3_:=Aside0.mk (KeepBut.blk hk (g':=gb388) (o:=.cells #[.int .i64 x389000_19,.int .i64 x389001_19,(.slice Ao64 x389002_19.length co64)] 25 (0,0)) (by (with_reducible repeat (first | refine blk_drewN ?_ _ | refine blk_drew ?_ | refine blk_alloc ?_ _));exact BK388.out) NB388_0.out (by simp));have n4_:=Aside0.mk (KeepBut.trans (by repeat (first | (with_reducible first | exact HK.out | apply KeepBut.set_ | apply keep_drewN | apply keep_drew | apply keep_alloc | refine keep_far ?_ GW375.out _ | refine keep_far ?_ GW388.out _) | exact HK.out)) hk (.inl rfl));have n5_:=Aside0.mk (hb);have n6_:=Aside0.mk (hi);clear HO_4;clear HO_389002;clear BK375;clear BK388;clear HK;clear HB;clear HI0;have HO_4:=n0_;have HO_389002:=n1_;have BK375:=n2_;have BK388:=n3_;have HK:=n4_;have HB:=n5_;have HI0:=n6_;clear n0_ n1_ n2_ n3_ n4_ n5_ n6_;(try clear hb);(try clear hb2);(try clear hk);(try clear hi)))
        have n0_:=Aside0.mk (Kd.N_drew HO_4.out)
        have n1_:=Aside0.mk (Kd.V_drew HO_389002.out)
        have n2_:=Aside0.mk (blk_drew BK375.out)
        have n3_:=Aside0.mk (blk_drew BK388.out)
        have n4_:=Aside0.mk (IsS73.drew HI0.out)
        have n5_:=Aside0.mk (keep_drew HK.out)
        have n6_:=Aside0.mk (below_drew1 HB.out)
        clear HO_4
        clear HO_389002
        clear BK375
        clear BK388
        clear HI0
        clear HK
        clear HB
        have HO_4:=n0_
        have HO_389002:=n1_
        have BK375:=n2_
        have BK388:=n3_
        have HI0:=n4_
        have HK:=n5_
        have HB:=n6_
        clear n0_ n1_ n2_ n3_ n4_ n5_ n6_
        have p403:0 ≤ (0:Int):=(by omega)
        have q403:0 < (t376.length:Int):=of_decide_eq_true (by first | (with_reducible assumption) | assumption)
        obtain ⟨ad403,A403_2,c403_2,e403,hx403_0,hx403_1,hx403_2,hl403_2,hi403_2⟩:=at_T25 (Kd.N_reads' HO_4.out).2.2 0 p403 q403
        cases e403
        obtain ⟨ce403,hce403,hMe403,hcc403⟩:=Kd.N_get HO_4.out z25 0 p403 (by first | exact q403 | exact of_decide_eq_true (by first | (with_reducible assumption) | assumption) | (have e_:=(Kd.N_reads' HO_4.out).1;omega))
        obtain ⟨ua403_2,uc403_2,rfl,ul403_2,ge403_2⟩:=k25_openF hMe403
        have hv403_2:=hcc403 2 _ rfl
        rw [add_field _ _ 2 (by omega)] at hv403_2
        replace hv403_2:=Option.some.inj (hv403_2.symm.trans hx403_2)
        injection hv403_2 with hva_ hvn_ hvc_
        rw [hva_] at ge403_2
        rw [hvc_] at ul403_2
        have HL403_2:=Aside0.mk (show Kd.V k25 25 _ w.heap.size _ _ ((rd_T25 t376 0).f2) from Kd.V_mk ul403_2 ge403_2)
        clear hva_ hvn_ hvc_ ge403_2 ul403_2
        clear hcc403 hce403
        have qi403:(0 < t376.length) = True:=eq_true (by omega)
        (try rw [show ((0:Int)).toNat = 0 from rfl] at hx403_0)
        (try rw [show 0 * 3 = 0 from rfl] at hx403_0)
        (try rw [Addr.add_zero'] at hx403_0)
        (try rw [show ((0:Int)).toNat = 0 from rfl] at hx403_1)
        (try rw [show 0 * 3 = 0 from rfl] at hx403_1)
        (try rw [Addr.add_zero'] at hx403_1)
        (try rw [show ((0:Int)).toNat = 0 from rfl] at hx403_2)
        (try rw [show 0 * 3 = 0 from rfl] at hx403_2)
        (try rw [Addr.add_zero'] at hx403_2)
        have HR403_2:=Aside0.mk hi403_2
        have HC403_2:=Aside0.mk hl403_2
        clear hi403_2 hl403_2
        replace p403:=eq_true p403
        replace q403:=eq_true q403
        refine start_ (n:=10) (S:=fun w'=>w'.cell? ⟨gb388,0,none⟩ = some (.int .i64 x389000_19)∧w'.cell? ⟨gb388,1,none⟩ = some (.int .i64 x389001_19)∧w'.cell? ⟨gb388,2,none⟩ = some (.slice Ao64 x389002_19.length co64)∧w'.cell? ad403 = some (.int .i64 ((rd_T25 t376 0).f0))∧w'.cell? ⟨ad403.block,ad403.off + 1,none⟩ = some (.int .i64 ((rd_T25 t376 0).f1))∧w'.cell? ⟨ad403.block,ad403.off + 2,none⟩ = some (.slice A403_2 ((rd_T25 t376 0).f2).length c403_2)) (ds:=[9]) #[false,false,false,false,false,false,false,false,false,false] (by kernel_rfl) rfl rfl ⟨(blk_cell BK388.out 0).trans rfl,(blk_cell BK388.out 1).trans rfl,(blk_cell BK388.out 2).trans rfl,hx403_0,hx403_1,hx403_2⟩ (fun hHeld=>?_);refine with_tabW spec_l92Asked.tab8 spec_l92Asked.bits8 (fun HT_ HW_=>?_)
        generalize w61.drew = w62 at HO_4 HO_389002 BK375 BK388 HI0 HK HB HL403_2 HR403_2 hx403_0 hx403_1 hx403_2 hHeld ⊢
        refine pure_ (i:=0) (N:=some 53) (v:=?_) (a':=?_) #[true,false,false,false,false,false,false,false,false,false] rfl rfl (any_of HT_.out (by kernel_rfl)) (fun _ _ _ h=>h) (Or.inl ⟨by rfl,?_⟩) ?_ ?_
        rotate_left;·intro w';go_simp;with_reducible rfl
        rotate_left;·simp only [Act.put,List.setIfInBounds_toArray,List.set_cons_zero,List.set_cons_succ,i64_w,i32_w];rfl
        refine pure_ (i:=4) (N:=some 57) (v:=?_) (a':=?_) #[true,false,false,false,true,false,false,false,false,false] rfl rfl (any_of HT_.out (by kernel_rfl)) (fun _ _ _ h=>h) (Or.inl ⟨by rfl,?_⟩) ?_ ?_
        rotate_left;·intro w';go_simp;with_reducible rfl
        rotate_left;·simp only [Act.put,List.setIfInBounds_toArray,List.set_cons_zero,List.set_cons_succ,i64_w,i32_w];rfl
        refine pure_ (i:=5) (N:=some 58) (v:=?_) (a':=?_) #[true,false,false,false,true,true,false,false,false,false] rfl rfl (any_of HT_.out (by kernel_rfl)) (fun _ _ _ h=>h) (Or.inl ⟨by rfl,?_⟩) ?_ ?_
        rotate_left;·intro w';go_simp;with_reducible rfl
        rotate_left;·simp only [Act.put,List.setIfInBounds_toArray,List.set_cons_zero,List.set_cons_succ,i64_w,i32_w];rfl
        refine take_ (i:=3) (N:=some 56) (v:=?_) (a':=?_) #[true,false,false,true,true,true,false,false,false,false] rfl rfl (take_ofW HT_.out HW_.out (by kernel_rfl)) (fun _ _ _ h=>h) (Or.inl ⟨by rfl,?_⟩) hHeld ?_ ?_
        rotate_left;·rintro w' ⟨s0,s1,s2,s3,s4,s5⟩;go_simp;with_reducible rfl
        rotate_left;·simp only [Act.put,List.setIfInBounds_toArray,List.set_cons_zero,List.set_cons_succ,i64_w,i32_w];rfl
        refine take_ (i:=6) (N:=some 59) (v:=?_) (a':=?_) #[true,false,false,true,true,true,true,false,false,false] rfl rfl (take_ofW HT_.out HW_.out (by kernel_rfl)) (fun _ _ _ h=>h) (Or.inl ⟨by rfl,?_⟩) hHeld ?_ ?_
        rotate_left;·rintro w' ⟨s0,s1,s2,s3,s4,s5⟩;go_simp;with_reducible rfl
        rotate_left;·simp only [Act.put,List.setIfInBounds_toArray,List.set_cons_zero,List.set_cons_succ,i64_w,i32_w];rfl
        refine join_ (σ:=Value) 2 #[true,true,true,true,true,true,true,true,false,false] (fun s_=>[(54,.int .i64 t401),(60,s_),(55,.int .i64 (wrap64 (1 + t401)))]) (fun s_ w'=>(w'.cell? ⟨gb388,0,none⟩ = some (.int .i64 x389000_19)∧w'.cell? ⟨gb388,1,none⟩ = some (.int .i64 x389001_19)∧w'.cell? ⟨gb388,2,none⟩ = some (.slice Ao64 x389002_19.length co64)∧w'.cell? ad403 = some (.int .i64 ((rd_T25 t376 0).f0))∧w'.cell? ⟨ad403.block,ad403.off + 1,none⟩ = some (.int .i64 ((rd_T25 t376 0).f1))∧w'.cell? ⟨ad403.block,ad403.off + 2,none⟩ = some (.slice A403_2 ((rd_T25 t376 0).f2).length c403_2))∧(Kd.V k25 25 w' w.heap.size (fun k_=>(w.heap.size ≤ k_)∧some k_ ≠ (s_:Value).ownBlock∧some k_ ≠ (.slice (some ad403) t376.length co60:Value).ownBlock∧k_ ≠ g∧k_ ≠ gb375∧k_ ≠ gb388) (.slice A403_2 ((rd_T25 t376 0).f2).length c403_2) ((rd_T25 t376 0).f2))∧(Kd.N k25 25 w' w.heap.size (fun k_=>(w.heap.size ≤ k_)∧some k_ ≠ (.slice (some ad403) t376.length co60:Value).ownBlock∧k_ ≠ g∧k_ ≠ gb375∧k_ ≠ gb388) s_ y404)∧(Kd.V k25 25 w' w.heap.size (fun k_=>(w.heap.size ≤ k_)∧some k_ ≠ (s_:Value).ownBlock∧some k_ ≠ (.slice (some ad403) t376.length co60:Value).ownBlock∧k_ ≠ g∧k_ ≠ gb375∧k_ ≠ gb388) (.slice Ao64 x389002_19.length co64) x389002_19)∧(Kd.N k25 25 w' w.heap.size (fun k_=>(w.heap.size ≤ k_)∧some k_ ≠ (s_:Value).ownBlock∧k_ ≠ g∧k_ ≠ gb375∧k_ ≠ gb388) (.slice (some ad403) t376.length co60) t376)∧(w'.heap[gb375]? = some (.cells #[.int .i64 0,.int .i64 0,.slice none 0 0] 25 (0,0)))∧(w'.heap[gb388]? = some (.cells #[.int .i64 x389000_19,.int .i64 x389001_19,.slice Ao64 x389002_19.length co64] 25 (0,0)))∧(IsS73 w0 w' g s0_0 t402)∧(KeepBut w w' g none)∧(Below w0.heap.size w0 w')) ?_ ?_
        rotate_left
        ·intro hCont
         refine two_ (i:=1) (j:=7) (Ni:=some 54) (Nj:=some 60) #[true,true,false,true,true,true,true,false,false,false] #[true,false,false,true,true,true,true,true,false,false] rfl rfl rfl rfl (two_of HT_.out (by kernel_rfl)) (by decide) (by decide) (fun K hK=>?_) (fun K hK=>?_)
         ·skip
          refine goes_ Tryd.func41 (by kernel_rfl) rfl #[.pointer (some ⟨g,0,none⟩),.int .i64 2] (by rfl) rfl rfl (by (try simp only [List.map_toArray,List.map_cons,List.map_nil]);first | done | rfl | (simp only [List.length_drop,List.length_take];rfl)) ?_
          with_reducible refine (spec_l6Rd_pick.calls kj19 g s0_0 t400 2 t401 t402 w0 _ ?side1 ?side2 A58.out).mono ?_
          (case side1=>repeat (first | (with_reducible first | exact HI0.out | apply IsS73.alloc | apply IsS73.drewN | apply IsS73.drew | apply IsS73.set_1 | refine IsS73.far ?_ NB0_375.out _ | refine IsS73.far ?_ NB0_388.out _) | exact HI0.out))
          (case side2=>repeat (first | (with_reducible first | exact HB.out | apply below_alloc | apply pw_below_drewN | apply below_drew1 | refine below_set ?_ (IsS73.ge HI0.out) | refine below_set ?_ GE375.out | refine below_set ?_ GE388.out) | exact HB.out))
          rintro e w63 ⟨rfl,hi,hb,hk⟩
          have HS3_:=keep_cell hk (hHeld.2.2.2.1) (by first | (rw [add_block];exact (Kd.own_blk (IsS73.own_neN HI0.out HO_4.out (by decide)):(ad403:Addr).block ≠ _)) | (show (Addr.add _ _).block ≠ _;rw [add_block];exact (Kd.own_blk (IsS73.own_neN HI0.out HO_4.out (by decide)):(ad403:Addr).block ≠ _)) | exact (Kd.own_blk (IsS73.own_neN HI0.out HO_4.out (by decide)):(ad403:Addr).block ≠ _))
          have HS4_:=keep_cell hk (hHeld.2.2.2.2.1) (by first | (rw [add_block];exact (Kd.own_blk (IsS73.own_neN HI0.out HO_4.out (by decide)):(ad403:Addr).block ≠ _)) | (show (Addr.add _ _).block ≠ _;rw [add_block];exact (Kd.own_blk (IsS73.own_neN HI0.out HO_4.out (by decide)):(ad403:Addr).block ≠ _)) | exact (Kd.own_blk (IsS73.own_neN HI0.out HO_4.out (by decide)):(ad403:Addr).block ≠ _))
          have HS5_:=keep_cell hk (hHeld.2.2.2.2.2) (by first | (rw [add_block];exact (Kd.own_blk (IsS73.own_neN HI0.out HO_4.out (by decide)):(ad403:Addr).block ≠ _)) | (show (Addr.add _ _).block ≠ _;rw [add_block];exact (Kd.own_blk (IsS73.own_neN HI0.out HO_4.out (by decide)):(ad403:Addr).block ≠ _)) | exact (Kd.own_blk (IsS73.own_neN HI0.out HO_4.out (by decide)):(ad403:Addr).block ≠ _))
          refine ⟨_,rfl,?_⟩
          have n0_:=Aside0.mk (Kd.N_mono (Kd.N_keep (Kd.N_mono (ok:=fun k_=>(((w.heap.size ≤ k_))∧(k_ ≠ gb375∧(k_ ≠ gb388∧k_ ≠ g)))) (by (with_reducible repeat (first | apply Kd.N_alloc | apply Kd.N_drewN | apply Kd.N_drew));exact HO_4.out) (fun k_ hk_=>(⟨hk_,hk_.2.2.2⟩:_∧k_ ≠ g))) hk (fun _ h=>h.2)) (fun _ h=>h.1))
          have n1_:=Aside0.mk (Kd.V_mono (Kd.V_keep (Kd.V_mono (ok:=fun k_=>(((w.heap.size ≤ k_))∧(some k_ ≠ (.slice (some ad403) t376.length co60:Value).ownBlock∧(k_ ≠ gb375∧(k_ ≠ gb388∧k_ ≠ g))))) (by (with_reducible repeat (first | apply Kd.V_alloc | apply Kd.V_drewN | apply Kd.V_drew));exact HO_389002.out) (fun k_ hk_=>(⟨hk_,hk_.2.2.2.2⟩:_∧k_ ≠ g))) hk (fun _ h=>h.2)) (fun _ h=>h.1))
          have n2_:=Aside0.mk (KeepBut.blk hk (g':=gb375) (o:=.cells #[.int .i64 0,.int .i64 0,.slice none 0 0] 25 (0,0)) (by (with_reducible repeat (first | refine blk_drewN ?_ _ | refine blk_drew ?_ | refine blk_alloc ?_ _));exact BK375.out) NB375_0.out (by simp))
          have n3_:=Aside0.mk (KeepBut.blk hk (g':=gb388) (o:=.cells #[.int .i64 x389000_19,.int .i64 x389001_19,(.slice Ao64 x389002_19.length co64)] 25 (0,0)) (by (with_reducible repeat (first | refine blk_drewN ?_ _ | refine blk_drew ?_ | refine blk_alloc ?_ _));exact BK388.out) NB388_0.out (by simp))
          have n4_:=Aside0.mk (Kd.V_mono (Kd.V_keep (Kd.V_mono (ok:=fun k_=>((((w.heap.size ≤ k_))∧(k_ ≠ gb375∧(k_ ≠ gb388∧k_ ≠ g)))∧some k_ ≠ (.slice (some ad403) t376.length co60:Value).ownBlock)) (by (with_reducible repeat (first | apply Kd.V_alloc | apply Kd.V_drewN | apply Kd.V_drew));exact HL403_2.out) (fun k_ hk_=>(⟨hk_,hk_.1.2.2.2⟩:_∧k_ ≠ g))) hk (fun _ h=>h.2)) (fun _ h=>h.1))
          have n5_:=Aside0.mk (KeepBut.trans (by repeat (first | (with_reducible first | exact HK.out | apply KeepBut.set_ | apply keep_drewN | apply keep_drew | apply keep_alloc | refine keep_far ?_ GW375.out _ | refine keep_far ?_ GW388.out _) | exact HK.out)) hk (.inl rfl))
          have n6_:=Aside0.mk (hb)
          have n7_:=Aside0.mk (hi)
          clear HO_4
          clear HO_389002
          clear BK375
          clear BK388
          clear HL403_2
          clear HK
          clear HB
          clear HI0
          have HO_4:=n0_
          have HO_389002:=n1_
          have BK375:=n2_
          have BK388:=n3_
          have HL403_2:=n4_
          have HK:=n5_
          have HB:=n6_
          have HI0:=n7_
          clear n0_ n1_ n2_ n3_ n4_ n5_ n6_ n7_
          (try clear hb)
          (try clear hb2)
          (try clear hk)
          (try clear hi)
          skip
          skip
          refine hK.out _ _ ⟨(blk_cell BK388.out 0).trans rfl,(blk_cell BK388.out 1).trans rfl,(blk_cell BK388.out 2).trans rfl,HS3_,HS4_,HS5_⟩ (fun hHeld=>?_)
          clear hK K
          refine norm_ (a':=?_) ?_ ?_
          rotate_left
          ·show Act.put _ (some 54) _ = _
           simp only [Act.put,List.setIfInBounds_toArray,List.set_cons_zero,List.set_cons_succ,i64_w,i32_w]
           rfl
          refine pure_ (i:=2) (N:=some 55) (v:=?_) (a':=?_) #[true,true,true,true,true,true,true,false,false,false] rfl rfl (any_of HT_.out (by kernel_rfl)) (fun _ _ _ h=>h) (Or.inl ⟨by rfl,?_⟩) ?_ ?_
          rotate_left;·intro w';go_simp;with_reducible rfl
          rotate_left;·simp only [Act.put,List.setIfInBounds_toArray,List.set_cons_zero,List.set_cons_succ,i64_w,i32_w];rfl
          refine one_ (i:=7) (N:=some 60) #[true,true,true,true,true,true,true,true,false,false] rfl rfl (one_of HT_.out (by kernel_rfl)) (by decide) (fun K hK=>?_)
          refine Kd.N_lit_step k25 _ 25 ?hg (N':=60) ?hd (xs:=([(⟨x389000_19,x389001_19,x389002_19⟩:S25),(⟨(rd_T25 t376 0).f0,(rd_T25 t376 0).f1,(rd_T25 t376 0).f2⟩:S25)]:List (S25))) (inner:=[.int .i64 x389000_19,.int .i64 x389001_19,.slice Ao64 x389002_19.length co64,.int .i64 ((rd_T25 t376 0).f0),.int .i64 ((rd_T25 t376 0).f1),.slice A403_2 ((rd_T25 t376 0).f2).length c403_2]) (ok:=(fun k_=>(w.heap.size ≤ k_)∧some k_ ≠ (.slice (some ad403) t376.length co60:Value).ownBlock∧k_ ≠ gb375∧k_ ≠ gb388∧k_ ≠ g)) (okp:=(fun k_=>(w.heap.size ≤ k_)∧some k_ ≠ (.slice (some ad403) t376.length co60:Value).ownBlock∧k_ ≠ gb375∧k_ ≠ gb388∧k_ ≠ g)) ?hr ?hp (fun _ hk=>hk) ((show ∀ k_,w63.heap.size ≤ k_ → (fun k_=>(w.heap.size ≤ k_)∧some k_ ≠ (.slice (some ad403) t376.length co60:Value).ownBlock∧k_ ≠ gb375∧k_ ≠ gb388∧k_ ≠ g) k_ from fun k_ hk=>⟨(Nat.le_trans (keep_size (w:=w) (g:=g) (row:=none) (by repeat (first | (with_reducible first | exact HK.out | apply KeepBut.set_ | apply keep_drewN | apply keep_drew | apply keep_alloc | refine keep_far ?_ GW375.out _ | refine keep_far ?_ GW388.out _) | exact HK.out))) hk),Kd.fresh' (Kd.N_lt (by (with_reducible repeat (first | apply Kd.N_alloc | apply Kd.N_drewN | apply Kd.N_drew));exact HO_4.out)) k_ hk,Kd.freshB (g:=gb375) (o:=.cells #[.int .i64 0,.int .i64 0,.slice none 0 0] 25 (0,0)) (by (with_reducible repeat (first | refine blk_drewN ?_ _ | refine blk_drew ?_ | refine blk_alloc ?_ _));exact BK375.out) k_ hk,Kd.freshB (g:=gb388) (o:=.cells #[.int .i64 x389000_19,.int .i64 x389001_19,.slice Ao64 x389002_19.length co64] 25 (0,0)) (by (with_reducible repeat (first | refine blk_drewN ?_ _ | refine blk_drew ?_ | refine blk_alloc ?_ _));exact BK388.out) k_ hk,IsS73.fresh (by repeat (first | (with_reducible first | exact HI0.out | apply IsS73.alloc | apply IsS73.drewN | apply IsS73.drew | apply IsS73.set_1 | refine IsS73.far ?_ NB0_375.out _ | refine IsS73.far ?_ NB0_388.out _) | exact HI0.out)) k_ hk⟩) _ (Nat.le_refl _)) (Below.refl _ _) (Nat.le_refl _) (by simp) ?_;(case hd=>rfl);(case hg=>rfl);(case hr=>first | (go_simp;done) | (go_simp;rfl));(case hp=>exact (Reps.c3 (show Kd.FK k25 _ _ (⟨x389000_19,x389001_19,x389002_19⟩:S25) [.int .i64 x389000_19,.int .i64 x389001_19,.slice Ao64 x389002_19.length co64] from (k25_mkF _ _ (⟨x389000_19,x389001_19,x389002_19⟩:S25) (Kd.V_reads' (Kd.V_mono (ok':=(fun k_=>(w.heap.size ≤ k_)∧some k_ ≠ (.slice (some ad403) t376.length co60:Value).ownBlock∧k_ ≠ gb375∧k_ ≠ gb388∧k_ ≠ g)) (HO_389002.out) (fun k_ hk=>⟨hk.1,⟨hk.2.1,⟨hk.2.2.1,⟨hk.2.2.2.1,hk.2.2.2.2⟩⟩⟩⟩))).2.1 (Kd.V_F (Kd.V_mono (ok':=(fun k_=>(w.heap.size ≤ k_)∧some k_ ≠ (.slice (some ad403) t376.length co60:Value).ownBlock∧k_ ≠ gb375∧k_ ≠ gb388∧k_ ≠ g)) (HO_389002.out) (fun k_ hk=>⟨hk.1,⟨hk.2.1,⟨hk.2.2.1,⟨hk.2.2.2.1,hk.2.2.2.2⟩⟩⟩⟩))))) (Reps.c3 (show Kd.FK k25 _ _ (⟨(rd_T25 t376 0).f0,(rd_T25 t376 0).f1,(rd_T25 t376 0).f2⟩:S25) [.int .i64 ((rd_T25 t376 0).f0),.int .i64 ((rd_T25 t376 0).f1),.slice A403_2 ((rd_T25 t376 0).f2).length c403_2] from (k25_mkF _ _ (⟨(rd_T25 t376 0).f0,(rd_T25 t376 0).f1,(rd_T25 t376 0).f2⟩:S25) (Kd.V_reads' (Kd.V_mono (ok':=(fun k_=>(w.heap.size ≤ k_)∧some k_ ≠ (.slice (some ad403) t376.length co60:Value).ownBlock∧k_ ≠ gb375∧k_ ≠ gb388∧k_ ≠ g)) (HL403_2.out) (fun k_ hk=>⟨hk.1.1,⟨hk.2,⟨hk.1.2.1,⟨hk.1.2.2.1,hk.1.2.2.2⟩⟩⟩⟩))).2.1 (Kd.V_F (Kd.V_mono (ok':=(fun k_=>(w.heap.size ≤ k_)∧some k_ ≠ (.slice (some ad403) t376.length co60:Value).ownBlock∧k_ ≠ gb375∧k_ ≠ gb388∧k_ ≠ g)) (HL403_2.out) (fun k_ hk=>⟨hk.1.1,⟨hk.2,⟨hk.1.2.1,⟨hk.1.2.2.1,hk.1.2.2.2⟩⟩⟩⟩))))) (Reps.none _ _))))
          intro v405 w65 ho66 hb hg_ hnew_
          have HS3_:=(hb.cell (World.block_lt_of_cell? _ _ (hHeld.2.2.2.1))).trans (hHeld.2.2.2.1)
          have HS4_:=(hb.cell (World.block_lt_of_cell? _ _ (hHeld.2.2.2.2.1))).trans (hHeld.2.2.2.2.1)
          have HS5_:=(hb.cell (World.block_lt_of_cell? _ _ (hHeld.2.2.2.2.2))).trans (hHeld.2.2.2.2.2)
          clear hg_ hnew_
          (first | rw [← Ny404.out] at ho66 | (simp only [Int.reduceToNat] at ho66;rw [← Ny404.out] at ho66))
          have n0_:=Aside0.mk (Kd.N_elder' (by (with_reducible repeat (first | apply Kd.N_alloc | apply Kd.N_drewN | apply Kd.N_drew));exact HO_4.out) (Kd.N_base ho66) hb)
          have n1_:=Aside0.mk (Kd.V_elder' (by (with_reducible repeat (first | apply Kd.V_alloc | apply Kd.V_drewN | apply Kd.V_drew));exact HO_389002.out) (Kd.N_base ho66) hb)
          have n2_:=Aside0.mk (Kd.V_elder' (by (with_reducible repeat (first | apply Kd.V_alloc | apply Kd.V_drewN | apply Kd.V_drew));exact HL403_2.out) (Kd.N_base ho66) hb)
          have n3_:=Aside0.mk (Kd.N_lower ho66 (keep_size (w:=w) (g:=g) (row:=none) (by repeat (first | (with_reducible first | exact HK.out | apply KeepBut.set_ | apply keep_drewN | apply keep_drew | apply keep_alloc | refine keep_far ?_ GW375.out _ | refine keep_far ?_ GW388.out _) | exact HK.out))))
          have n4_:=Aside0.mk (blk_below (g:=gb375) (o:=.cells #[.int .i64 0,.int .i64 0,.slice none 0 0] 25 (0,0)) (by (with_reducible repeat (first | refine blk_drewN ?_ _ | refine blk_drew ?_ | refine blk_alloc ?_ _));exact BK375.out) hb)
          have n5_:=Aside0.mk (blk_below (g:=gb388) (o:=.cells #[.int .i64 x389000_19,.int .i64 x389001_19,.slice Ao64 x389002_19.length co64] 25 (0,0)) (by (with_reducible repeat (first | refine blk_drewN ?_ _ | refine blk_drew ?_ | refine blk_alloc ?_ _));exact BK388.out) hb)
          have n6_:=Aside0.mk (IsS73.below (by repeat (first | (with_reducible first | exact HI0.out | apply IsS73.alloc | apply IsS73.drewN | apply IsS73.drew | apply IsS73.set_1 | refine IsS73.far ?_ NB0_375.out _ | refine IsS73.far ?_ NB0_388.out _) | exact HI0.out)) hb)
          have n7_:=Aside0.mk (KeepBut.trans (by repeat (first | (with_reducible first | exact HK.out | apply KeepBut.set_ | apply keep_drewN | apply keep_drew | apply keep_alloc | refine keep_far ?_ GW375.out _ | refine keep_far ?_ GW388.out _) | exact HK.out)) (KeepBut.of_below hb g none) (.inl rfl))
          have n8_:=Aside0.mk (below_step (by repeat (first | (with_reducible first | exact HB.out | apply below_alloc | apply pw_below_drewN | apply below_drew1 | refine below_set ?_ (IsS73.ge HI0.out) | refine below_set ?_ GE375.out | refine below_set ?_ GE388.out) | exact HB.out)) hb)
          clear HO_4
          clear HO_389002
          clear HL403_2
          clear BK375
          clear BK388
          clear HI0
          clear HK
          clear HB
          have HO_4:=n0_
          have HO_389002:=n1_
          have HL403_2:=n2_
          have HO406:=n3_
          have BK375:=n4_
          have BK388:=n5_
          have HI0:=n6_
          have HK:=n7_
          have HB:=n8_
          clear n0_ n1_ n2_ n3_ n4_ n5_ n6_ n7_ n8_
          clear hb ho66
          obtain ⟨Ao67,co67,eo67⟩:=Kd.N_slice HO406.out
          (first | subst eo67 | (injection eo67 with f1_ f2_ f3_;have f4_:=f1_.symm;have f5_:=f3_.symm;clear f1_ f2_ f3_;subst f4_;subst f5_))
          refine hK.out _ _ ⟨(blk_cell BK388.out 0).trans rfl,(blk_cell BK388.out 1).trans rfl,(blk_cell BK388.out 2).trans rfl,HS3_,HS4_,HS5_⟩ (fun hHeld=>?_)
          clear hK K
          refine norm_ (a':=?_) ?_ ?_
          rotate_left
          ·show Act.put _ (some 60) _ = _
           simp only [Act.put,List.setIfInBounds_toArray,List.set_cons_zero,List.set_cons_succ,i64_w,i32_w]
           rfl
          exact norm_ (by simp only [putAll,Act.put,List.setIfInBounds_toArray,List.set_cons_zero,List.set_cons_succ]) (hCont (.slice Ao67 y404.length co67) _ ⟨hHeld,(by (with_reducible repeat (first | apply Kd.V_alloc | apply Kd.V_drewN | apply Kd.V_drew));exact Kd.V_mono HL403_2.out (fun _ hk=>⟨hk.1.1.1,⟨hk.2,⟨hk.1.2,⟨hk.1.1.2.2.2,⟨hk.1.1.2.1,hk.1.1.2.2.1⟩⟩⟩⟩⟩)),(by (with_reducible repeat (first | apply Kd.N_alloc | apply Kd.N_drewN | apply Kd.N_drew));exact Kd.N_mono HO406.out (fun _ hk=>⟨hk.1,⟨hk.2.1,⟨hk.2.2.2.2,⟨hk.2.2.1,hk.2.2.2.1⟩⟩⟩⟩)),(by (with_reducible repeat (first | apply Kd.V_alloc | apply Kd.V_drewN | apply Kd.V_drew));exact Kd.V_mono HO_389002.out (fun _ hk=>⟨hk.1.1,⟨hk.2,⟨hk.1.2.1,⟨hk.1.2.2.2.2,⟨hk.1.2.2.1,hk.1.2.2.2.1⟩⟩⟩⟩⟩)),(by (with_reducible repeat (first | apply Kd.N_alloc | apply Kd.N_drewN | apply Kd.N_drew));exact Kd.N_mono HO_4.out (fun _ hk=>⟨hk.1.1,⟨hk.2,⟨hk.1.2.2.2,⟨hk.1.2.1,hk.1.2.2.1⟩⟩⟩⟩)),(by (with_reducible repeat (first | refine blk_drewN ?_ _ | refine blk_drew ?_ | refine blk_alloc ?_ _));exact BK375.out),(by (with_reducible repeat (first | refine blk_drewN ?_ _ | refine blk_drew ?_ | refine blk_alloc ?_ _));exact BK388.out),(by repeat (first | (with_reducible first | exact HI0.out | apply IsS73.alloc | apply IsS73.drewN | apply IsS73.drew | apply IsS73.set_1 | refine IsS73.far ?_ NB0_375.out _ | refine IsS73.far ?_ NB0_388.out _) | exact HI0.out)),(by repeat (first | (with_reducible first | exact HK.out | apply KeepBut.set_ | apply keep_drewN | apply keep_drew | apply keep_alloc | refine keep_far ?_ GW375.out _ | refine keep_far ?_ GW388.out _) | exact HK.out)),(by repeat (first | (with_reducible first | exact HB.out | apply below_alloc | apply pw_below_drewN | apply below_drew1 | refine below_set ?_ (IsS73.ge HI0.out) | refine below_set ?_ GE375.out | refine below_set ?_ GE388.out) | exact HB.out))⟩)
         ·skip
          refine Kd.N_lit_step k25 _ 25 ?hg (N':=60) ?hd (xs:=([(⟨x389000_19,x389001_19,x389002_19⟩:S25),(⟨(rd_T25 t376 0).f0,(rd_T25 t376 0).f1,(rd_T25 t376 0).f2⟩:S25)]:List (S25))) (inner:=[.int .i64 x389000_19,.int .i64 x389001_19,.slice Ao64 x389002_19.length co64,.int .i64 ((rd_T25 t376 0).f0),.int .i64 ((rd_T25 t376 0).f1),.slice A403_2 ((rd_T25 t376 0).f2).length c403_2]) (ok:=(fun k_=>(w.heap.size ≤ k_)∧some k_ ≠ (.slice (some ad403) t376.length co60:Value).ownBlock∧k_ ≠ gb375∧k_ ≠ gb388∧k_ ≠ g)) (okp:=(fun k_=>(w.heap.size ≤ k_)∧some k_ ≠ (.slice (some ad403) t376.length co60:Value).ownBlock∧k_ ≠ gb375∧k_ ≠ gb388∧k_ ≠ g)) ?hr ?hp (fun _ hk=>hk) ((show ∀ k_,w62.heap.size ≤ k_ → (fun k_=>(w.heap.size ≤ k_)∧some k_ ≠ (.slice (some ad403) t376.length co60:Value).ownBlock∧k_ ≠ gb375∧k_ ≠ gb388∧k_ ≠ g) k_ from fun k_ hk=>⟨(Nat.le_trans (keep_size (w:=w) (g:=g) (row:=none) (by repeat (first | (with_reducible first | exact HK.out | apply KeepBut.set_ | apply keep_drewN | apply keep_drew | apply keep_alloc | refine keep_far ?_ GW375.out _ | refine keep_far ?_ GW388.out _) | exact HK.out))) hk),Kd.fresh' (Kd.N_lt (by (with_reducible repeat (first | apply Kd.N_alloc | apply Kd.N_drewN | apply Kd.N_drew));exact HO_4.out)) k_ hk,Kd.freshB (g:=gb375) (o:=.cells #[.int .i64 0,.int .i64 0,.slice none 0 0] 25 (0,0)) (by (with_reducible repeat (first | refine blk_drewN ?_ _ | refine blk_drew ?_ | refine blk_alloc ?_ _));exact BK375.out) k_ hk,Kd.freshB (g:=gb388) (o:=.cells #[.int .i64 x389000_19,.int .i64 x389001_19,.slice Ao64 x389002_19.length co64] 25 (0,0)) (by (with_reducible repeat (first | refine blk_drewN ?_ _ | refine blk_drew ?_ | refine blk_alloc ?_ _));exact BK388.out) k_ hk,IsS73.fresh (by repeat (first | (with_reducible first | exact HI0.out | apply IsS73.alloc | apply IsS73.drewN | apply IsS73.drew | apply IsS73.set_1 | refine IsS73.far ?_ NB0_375.out _ | refine IsS73.far ?_ NB0_388.out _) | exact HI0.out)) k_ hk⟩) _ (Nat.le_refl _)) (Below.refl _ _) (Nat.le_refl _) (by simp) ?_;(case hd=>rfl);(case hg=>rfl);(case hr=>first | (go_simp;done) | (go_simp;rfl));(case hp=>exact (Reps.c3 (show Kd.FK k25 _ _ (⟨x389000_19,x389001_19,x389002_19⟩:S25) [.int .i64 x389000_19,.int .i64 x389001_19,.slice Ao64 x389002_19.length co64] from (k25_mkF _ _ (⟨x389000_19,x389001_19,x389002_19⟩:S25) (Kd.V_reads' (Kd.V_mono (ok':=(fun k_=>(w.heap.size ≤ k_)∧some k_ ≠ (.slice (some ad403) t376.length co60:Value).ownBlock∧k_ ≠ gb375∧k_ ≠ gb388∧k_ ≠ g)) (HO_389002.out) (fun k_ hk=>⟨hk.1,⟨hk.2.1,⟨hk.2.2.1,⟨hk.2.2.2.1,hk.2.2.2.2⟩⟩⟩⟩))).2.1 (Kd.V_F (Kd.V_mono (ok':=(fun k_=>(w.heap.size ≤ k_)∧some k_ ≠ (.slice (some ad403) t376.length co60:Value).ownBlock∧k_ ≠ gb375∧k_ ≠ gb388∧k_ ≠ g)) (HO_389002.out) (fun k_ hk=>⟨hk.1,⟨hk.2.1,⟨hk.2.2.1,⟨hk.2.2.2.1,hk.2.2.2.2⟩⟩⟩⟩))))) (Reps.c3 (show Kd.FK k25 _ _ (⟨(rd_T25 t376 0).f0,(rd_T25 t376 0).f1,(rd_T25 t376 0).f2⟩:S25) [.int .i64 ((rd_T25 t376 0).f0),.int .i64 ((rd_T25 t376 0).f1),.slice A403_2 ((rd_T25 t376 0).f2).length c403_2] from (k25_mkF _ _ (⟨(rd_T25 t376 0).f0,(rd_T25 t376 0).f1,(rd_T25 t376 0).f2⟩:S25) (Kd.V_reads' (Kd.V_mono (ok':=(fun k_=>(w.heap.size ≤ k_)∧some k_ ≠ (.slice (some ad403) t376.length co60:Value).ownBlock∧k_ ≠ gb375∧k_ ≠ gb388∧k_ ≠ g)) (HL403_2.out) (fun k_ hk=>⟨hk.1.1,⟨hk.2,⟨hk.1.2.1,⟨hk.1.2.2.1,hk.1.2.2.2⟩⟩⟩⟩))).2.1 (Kd.V_F (Kd.V_mono (ok':=(fun k_=>(w.heap.size ≤ k_)∧some k_ ≠ (.slice (some ad403) t376.length co60:Value).ownBlock∧k_ ≠ gb375∧k_ ≠ gb388∧k_ ≠ g)) (HL403_2.out) (fun k_ hk=>⟨hk.1.1,⟨hk.2,⟨hk.1.2.1,⟨hk.1.2.2.1,hk.1.2.2.2⟩⟩⟩⟩))))) (Reps.none _ _))))
          intro v405 w64 ho65 hb hg_ hnew_
          have HS3_:=(hb.cell (World.block_lt_of_cell? _ _ (hHeld.2.2.2.1))).trans (hHeld.2.2.2.1)
          have HS4_:=(hb.cell (World.block_lt_of_cell? _ _ (hHeld.2.2.2.2.1))).trans (hHeld.2.2.2.2.1)
          have HS5_:=(hb.cell (World.block_lt_of_cell? _ _ (hHeld.2.2.2.2.2))).trans (hHeld.2.2.2.2.2)
          clear hg_ hnew_
          (first | rw [← Ny404.out] at ho65 | (simp only [Int.reduceToNat] at ho65;rw [← Ny404.out] at ho65))
          have n0_:=Aside0.mk (Kd.N_elder' (by (with_reducible repeat (first | apply Kd.N_alloc | apply Kd.N_drewN | apply Kd.N_drew));exact HO_4.out) (Kd.N_base ho65) hb)
          have n1_:=Aside0.mk (Kd.V_elder' (by (with_reducible repeat (first | apply Kd.V_alloc | apply Kd.V_drewN | apply Kd.V_drew));exact HO_389002.out) (Kd.N_base ho65) hb)
          have n2_:=Aside0.mk (Kd.V_elder' (by (with_reducible repeat (first | apply Kd.V_alloc | apply Kd.V_drewN | apply Kd.V_drew));exact HL403_2.out) (Kd.N_base ho65) hb)
          have n3_:=Aside0.mk (Kd.N_lower ho65 (keep_size (w:=w) (g:=g) (row:=none) (by repeat (first | (with_reducible first | exact HK.out | apply KeepBut.set_ | apply keep_drewN | apply keep_drew | apply keep_alloc | refine keep_far ?_ GW375.out _ | refine keep_far ?_ GW388.out _) | exact HK.out))))
          have n4_:=Aside0.mk (blk_below (g:=gb375) (o:=.cells #[.int .i64 0,.int .i64 0,.slice none 0 0] 25 (0,0)) (by (with_reducible repeat (first | refine blk_drewN ?_ _ | refine blk_drew ?_ | refine blk_alloc ?_ _));exact BK375.out) hb)
          have n5_:=Aside0.mk (blk_below (g:=gb388) (o:=.cells #[.int .i64 x389000_19,.int .i64 x389001_19,.slice Ao64 x389002_19.length co64] 25 (0,0)) (by (with_reducible repeat (first | refine blk_drewN ?_ _ | refine blk_drew ?_ | refine blk_alloc ?_ _));exact BK388.out) hb)
          have n6_:=Aside0.mk (IsS73.below (by repeat (first | (with_reducible first | exact HI0.out | apply IsS73.alloc | apply IsS73.drewN | apply IsS73.drew | apply IsS73.set_1 | refine IsS73.far ?_ NB0_375.out _ | refine IsS73.far ?_ NB0_388.out _) | exact HI0.out)) hb)
          have n7_:=Aside0.mk (Kd.C_below (by repeat (first | (with_reducible exact HR403_2.out) | (with_reducible refine Kd.C_alloc ?_ _) | (with_reducible refine Kd.C_drewN ?_ _) | (with_reducible refine Kd.C_drew ?_) | exact HR403_2.out)) hb)
          have n8_:=Aside0.mk (KeepBut.trans (by repeat (first | (with_reducible first | exact HK.out | apply KeepBut.set_ | apply keep_drewN | apply keep_drew | apply keep_alloc | refine keep_far ?_ GW375.out _ | refine keep_far ?_ GW388.out _) | exact HK.out)) (KeepBut.of_below hb g none) (.inl rfl))
          have n9_:=Aside0.mk (below_step (by repeat (first | (with_reducible first | exact HB.out | apply below_alloc | apply pw_below_drewN | apply below_drew1 | refine below_set ?_ (IsS73.ge HI0.out) | refine below_set ?_ GE375.out | refine below_set ?_ GE388.out) | exact HB.out)) hb)
          clear HO_4
          clear HO_389002
          clear HL403_2
          clear BK375
          clear BK388
          clear HI0
          clear HR403_2
          clear HK
          clear HB
          have HO_4:=n0_
          have HO_389002:=n1_
          have HL403_2:=n2_
          have HO406:=n3_
          have BK375:=n4_
          have BK388:=n5_
          have HI0:=n6_
          have HR403_2:=n7_
          have HK:=n8_
          have HB:=n9_
          clear n0_ n1_ n2_ n3_ n4_ n5_ n6_ n7_ n8_ n9_
          clear hb ho65
          refine hK.out _ _ ⟨(blk_cell BK388.out 0).trans rfl,(blk_cell BK388.out 1).trans rfl,(blk_cell BK388.out 2).trans rfl,HS3_,HS4_,HS5_⟩ (fun hHeld=>?_)
          clear hK K
          refine norm_ (a':=?_) ?_ ?_
          rotate_left
          ·show Act.put _ (some 60) _ = _
           simp only [Act.put,List.setIfInBounds_toArray,List.set_cons_zero,List.set_cons_succ,i64_w,i32_w]
           rfl
          refine one_ (i:=1) (N:=some 54) #[true,true,false,true,true,true,true,true,false,false] rfl rfl (one_of HT_.out (by kernel_rfl)) (by decide) (fun K hK=>?_)
          refine goes_ Tryd.func41 (by kernel_rfl) rfl #[.pointer (some ⟨g,0,none⟩),.int .i64 2] (by rfl) rfl rfl (by (try simp only [List.map_toArray,List.map_cons,List.map_nil]);first | done | rfl | (simp only [List.length_drop,List.length_take];rfl)) ?_
          with_reducible refine (spec_l6Rd_pick.calls kj19 g s0_0 t400 2 t401 t402 w0 _ ?side1 ?side2 A58.out).mono ?_
          (case side1=>repeat (first | (with_reducible first | exact HI0.out | apply IsS73.alloc | apply IsS73.drewN | apply IsS73.drew | apply IsS73.set_1 | refine IsS73.far ?_ NB0_375.out _ | refine IsS73.far ?_ NB0_388.out _) | exact HI0.out))
          (case side2=>repeat (first | (with_reducible first | exact HB.out | apply below_alloc | apply pw_below_drewN | apply below_drew1 | refine below_set ?_ (IsS73.ge HI0.out) | refine below_set ?_ GE375.out | refine below_set ?_ GE388.out) | exact HB.out))
          rintro e w66 ⟨rfl,hi,hb,hk⟩
          have HS3_:=keep_cell hk (hHeld.2.2.2.1) (by first | (rw [add_block];exact (Kd.own_blk (IsS73.own_neN HI0.out HO_4.out (by decide)):(ad403:Addr).block ≠ _)) | (show (Addr.add _ _).block ≠ _;rw [add_block];exact (Kd.own_blk (IsS73.own_neN HI0.out HO_4.out (by decide)):(ad403:Addr).block ≠ _)) | exact (Kd.own_blk (IsS73.own_neN HI0.out HO_4.out (by decide)):(ad403:Addr).block ≠ _))
          have HS4_:=keep_cell hk (hHeld.2.2.2.2.1) (by first | (rw [add_block];exact (Kd.own_blk (IsS73.own_neN HI0.out HO_4.out (by decide)):(ad403:Addr).block ≠ _)) | (show (Addr.add _ _).block ≠ _;rw [add_block];exact (Kd.own_blk (IsS73.own_neN HI0.out HO_4.out (by decide)):(ad403:Addr).block ≠ _)) | exact (Kd.own_blk (IsS73.own_neN HI0.out HO_4.out (by decide)):(ad403:Addr).block ≠ _))
          have HS5_:=keep_cell hk (hHeld.2.2.2.2.2) (by first | (rw [add_block];exact (Kd.own_blk (IsS73.own_neN HI0.out HO_4.out (by decide)):(ad403:Addr).block ≠ _)) | (show (Addr.add _ _).block ≠ _;rw [add_block];exact (Kd.own_blk (IsS73.own_neN HI0.out HO_4.out (by decide)):(ad403:Addr).block ≠ _)) | exact (Kd.own_blk (IsS73.own_neN HI0.out HO_4.out (by decide)):(ad403:Addr).block ≠ _))
          refine ⟨_,rfl,?_⟩
          have n0_:=Aside0.mk (Kd.N_mono (Kd.N_keep (Kd.N_mono (ok:=fun k_=>((((w.heap.size ≤ k_))∧(k_ ≠ gb375∧(k_ ≠ gb388∧k_ ≠ g)))∧some k_ ≠ (v405:Value).ownBlock)) (by (with_reducible repeat (first | apply Kd.N_alloc | apply Kd.N_drewN | apply Kd.N_drew));exact HO_4.out) (fun k_ hk_=>(⟨hk_,hk_.1.2.2.2⟩:_∧k_ ≠ g))) hk (fun _ h=>h.2)) (fun _ h=>h.1))
          have n1_:=Aside0.mk (Kd.V_mono (Kd.V_keep (Kd.V_mono (ok:=fun k_=>((((w.heap.size ≤ k_))∧(some k_ ≠ (.slice (some ad403) t376.length co60:Value).ownBlock∧(k_ ≠ gb375∧(k_ ≠ gb388∧k_ ≠ g))))∧some k_ ≠ (v405:Value).ownBlock)) (by (with_reducible repeat (first | apply Kd.V_alloc | apply Kd.V_drewN | apply Kd.V_drew));exact HO_389002.out) (fun k_ hk_=>(⟨hk_,hk_.1.2.2.2.2⟩:_∧k_ ≠ g))) hk (fun _ h=>h.2)) (fun _ h=>h.1))
          have n2_:=Aside0.mk (KeepBut.blk hk (g':=gb375) (o:=.cells #[.int .i64 0,.int .i64 0,.slice none 0 0] 25 (0,0)) (by (with_reducible repeat (first | refine blk_drewN ?_ _ | refine blk_drew ?_ | refine blk_alloc ?_ _));exact BK375.out) NB375_0.out (by simp))
          have n3_:=Aside0.mk (KeepBut.blk hk (g':=gb388) (o:=.cells #[.int .i64 x389000_19,.int .i64 x389001_19,.slice Ao64 x389002_19.length co64] 25 (0,0)) (by (with_reducible repeat (first | refine blk_drewN ?_ _ | refine blk_drew ?_ | refine blk_alloc ?_ _));exact BK388.out) NB388_0.out (by simp))
          have n4_:=Aside0.mk (Kd.V_mono (Kd.V_keep (Kd.V_mono (ok:=fun k_=>(((((w.heap.size ≤ k_))∧(k_ ≠ gb375∧(k_ ≠ gb388∧k_ ≠ g)))∧some k_ ≠ (.slice (some ad403) t376.length co60:Value).ownBlock)∧some k_ ≠ (v405:Value).ownBlock)) (by (with_reducible repeat (first | apply Kd.V_alloc | apply Kd.V_drewN | apply Kd.V_drew));exact HL403_2.out) (fun k_ hk_=>(⟨hk_,hk_.1.1.2.2.2⟩:_∧k_ ≠ g))) hk (fun _ h=>h.2)) (fun _ h=>h.1))
          have n5_:=Aside0.mk (Kd.N_mono (Kd.N_keep (Kd.N_mono (ok:=fun k_=>(((w.heap.size ≤ k_))∧(some k_ ≠ (.slice (some ad403) t376.length co60:Value).ownBlock∧(k_ ≠ gb375∧(k_ ≠ gb388∧k_ ≠ g))))) (by (with_reducible repeat (first | apply Kd.N_alloc | apply Kd.N_drewN | apply Kd.N_drew));exact HO406.out) (fun k_ hk_=>(⟨hk_,hk_.2.2.2.2⟩:_∧k_ ≠ g))) hk (fun _ h=>h.2)) (fun _ h=>h.1))
          have n6_:=Aside0.mk (KeepBut.trans (by repeat (first | (with_reducible first | exact HK.out | apply KeepBut.set_ | apply keep_drewN | apply keep_drew | apply keep_alloc | refine keep_far ?_ GW375.out _ | refine keep_far ?_ GW388.out _) | exact HK.out)) hk (.inl rfl))
          have n7_:=Aside0.mk (hb)
          have n8_:=Aside0.mk (hi)
          clear HO_4
          clear HO_389002
          clear BK375
          clear BK388
          clear HL403_2
          clear HO406
          clear HK
          clear HB
          clear HI0
          have HO_4:=n0_
          have HO_389002:=n1_
          have BK375:=n2_
          have BK388:=n3_
          have HL403_2:=n4_
          have HO406:=n5_
          have HK:=n6_
          have HB:=n7_
          have HI0:=n8_
          clear n0_ n1_ n2_ n3_ n4_ n5_ n6_ n7_ n8_
          (try clear hb)
          (try clear hb2)
          (try clear hk)
          (try clear hi)
          obtain ⟨Ao67,co67,eo67⟩:=Kd.N_slice HO406.out
          (first | subst eo67 | (injection eo67 with f1_ f2_ f3_;have f4_:=f1_.symm;have f5_:=f3_.symm;clear f1_ f2_ f3_;subst f4_;subst f5_))
          refine hK.out _ _ ⟨(blk_cell BK388.out 0).trans rfl,(blk_cell BK388.out 1).trans rfl,(blk_cell BK388.out 2).trans rfl,HS3_,HS4_,HS5_⟩ (fun hHeld=>?_)
          clear hK K
          refine norm_ (a':=?_) ?_ ?_
          rotate_left
          ·show Act.put _ (some 54) _ = _
           simp only [Act.put,List.setIfInBounds_toArray,List.set_cons_zero,List.set_cons_succ,i64_w,i32_w]
           rfl
          refine pure_ (i:=2) (N:=some 55) (v:=?_) (a':=?_) #[true,true,true,true,true,true,true,true,false,false] rfl rfl (any_of HT_.out (by kernel_rfl)) (fun _ _ _ h=>h) (Or.inl ⟨by rfl,?_⟩) ?_ ?_
          rotate_left;·intro w';go_simp;with_reducible rfl
          rotate_left;·simp only [Act.put,List.setIfInBounds_toArray,List.set_cons_zero,List.set_cons_succ,i64_w,i32_w];rfl
          exact norm_ (by simp only [putAll,Act.put,List.setIfInBounds_toArray,List.set_cons_zero,List.set_cons_succ]) (hCont (.slice Ao67 y404.length co67) _ ⟨hHeld,(by (with_reducible repeat (first | apply Kd.V_alloc | apply Kd.V_drewN | apply Kd.V_drew));exact Kd.V_mono HL403_2.out (fun _ hk=>⟨hk.1.1.1,⟨hk.2,⟨hk.1.2,⟨hk.1.1.2.2.2,⟨hk.1.1.2.1,hk.1.1.2.2.1⟩⟩⟩⟩⟩)),(by (with_reducible repeat (first | apply Kd.N_alloc | apply Kd.N_drewN | apply Kd.N_drew));exact Kd.N_mono HO406.out (fun _ hk=>⟨hk.1,⟨hk.2.1,⟨hk.2.2.2.2,⟨hk.2.2.1,hk.2.2.2.1⟩⟩⟩⟩)),(by (with_reducible repeat (first | apply Kd.V_alloc | apply Kd.V_drewN | apply Kd.V_drew));exact Kd.V_mono HO_389002.out (fun _ hk=>⟨hk.1.1,⟨hk.2,⟨hk.1.2.1,⟨hk.1.2.2.2.2,⟨hk.1.2.2.1,hk.1.2.2.2.1⟩⟩⟩⟩⟩)),(by (with_reducible repeat (first | apply Kd.N_alloc | apply Kd.N_drewN | apply Kd.N_drew));exact Kd.N_mono HO_4.out (fun _ hk=>⟨hk.1.1,⟨hk.2,⟨hk.1.2.2.2,⟨hk.1.2.1,hk.1.2.2.1⟩⟩⟩⟩)),(by (with_reducible repeat (first | refine blk_drewN ?_ _ | refine blk_drew ?_ | refine blk_alloc ?_ _));exact BK375.out),(by (with_reducible repeat (first | refine blk_drewN ?_ _ | refine blk_drew ?_ | refine blk_alloc ?_ _));exact BK388.out),(by repeat (first | (with_reducible first | exact HI0.out | apply IsS73.alloc | apply IsS73.drewN | apply IsS73.drew | apply IsS73.set_1 | refine IsS73.far ?_ NB0_375.out _ | refine IsS73.far ?_ NB0_388.out _) | exact HI0.out)),(by repeat (first | (with_reducible first | exact HK.out | apply KeepBut.set_ | apply keep_drewN | apply keep_drew | apply keep_alloc | refine keep_far ?_ GW375.out _ | refine keep_far ?_ GW388.out _) | exact HK.out)),(by repeat (first | (with_reducible first | exact HB.out | apply below_alloc | apply pw_below_drewN | apply below_drew1 | refine below_set ?_ (IsS73.ge HI0.out) | refine below_set ?_ GE375.out | refine below_set ?_ GE388.out) | exact HB.out))⟩)
        rintro v405 w68 ⟨hS_,h0_,h1_,h2_,h3_,h4_,h5_,h6_,h7_,h8_⟩
        have n0_:Aside0 (Kd.V k25 25 w68 w.heap.size (fun k_=>(w.heap.size ≤ k_)∧some k_ ≠ (v405:Value).ownBlock∧some k_ ≠ (.slice (some ad403) t376.length co60:Value).ownBlock∧k_ ≠ g∧k_ ≠ gb375∧k_ ≠ gb388) (.slice A403_2 ((rd_T25 t376 0).f2).length c403_2) ((rd_T25 t376 0).f2)):=⟨h0_⟩
        have n1_:Aside0 (Kd.N k25 25 w68 w.heap.size (fun k_=>(w.heap.size ≤ k_)∧some k_ ≠ (.slice (some ad403) t376.length co60:Value).ownBlock∧k_ ≠ g∧k_ ≠ gb375∧k_ ≠ gb388) v405 y404):=⟨h1_⟩
        have n2_:Aside0 (Kd.V k25 25 w68 w.heap.size (fun k_=>(w.heap.size ≤ k_)∧some k_ ≠ (v405:Value).ownBlock∧some k_ ≠ (.slice (some ad403) t376.length co60:Value).ownBlock∧k_ ≠ g∧k_ ≠ gb375∧k_ ≠ gb388) (.slice Ao64 x389002_19.length co64) x389002_19):=⟨h2_⟩
        have n3_:Aside0 (Kd.N k25 25 w68 w.heap.size (fun k_=>(w.heap.size ≤ k_)∧some k_ ≠ (v405:Value).ownBlock∧k_ ≠ g∧k_ ≠ gb375∧k_ ≠ gb388) (.slice (some ad403) t376.length co60) t376):=⟨h3_⟩
        have n4_:Aside0 (w68.heap[gb375]? = some (.cells #[.int .i64 0,.int .i64 0,.slice none 0 0] 25 (0,0))):=⟨h4_⟩
        have n5_:Aside0 (w68.heap[gb388]? = some (.cells #[.int .i64 x389000_19,.int .i64 x389001_19,.slice Ao64 x389002_19.length co64] 25 (0,0))):=⟨h5_⟩
        have n6_:Aside0 (IsS73 w0 w68 g s0_0 t402):=⟨h6_⟩
        have n7_:Aside0 (KeepBut w w68 g none):=⟨h7_⟩
        have n8_:Aside0 (Below w0.heap.size w0 w68):=⟨h8_⟩
        clear HO_4
        clear HO_389002
        clear BK375
        clear BK388
        clear HI0
        clear HK
        clear HB
        clear h0_ h1_ h2_ h3_ h4_ h5_ h6_ h7_ h8_
        have HL403_2:=n0_
        have HO406:=n1_
        have HO_389002:=n2_
        have HO_4:=n3_
        have BK375:=n4_
        have BK388:=n5_
        have HI0:=n6_
        have HK:=n7_
        have HB:=n8_
        clear n0_ n1_ n2_ n3_ n4_ n5_ n6_ n7_ n8_
        have hHeld:w68.cell? ⟨gb388,0,none⟩ = some (.int .i64 x389000_19)∧w68.cell? ⟨gb388,1,none⟩ = some (.int .i64 x389001_19)∧w68.cell? ⟨gb388,2,none⟩ = some (.slice Ao64 x389002_19.length co64)∧w68.cell? ad403 = some (.int .i64 ((rd_T25 t376 0).f0))∧w68.cell? ⟨ad403.block,ad403.off + 1,none⟩ = some (.int .i64 ((rd_T25 t376 0).f1))∧w68.cell? ⟨ad403.block,ad403.off + 2,none⟩ = some (.slice A403_2 ((rd_T25 t376 0).f2).length c403_2):=hS_
        obtain ⟨Ao69,co69,eo69⟩:=Kd.N_slice HO406.out
        (first | subst eo69 | (injection eo69 with f1_ f2_ f3_;have f4_:=f1_.symm;have f5_:=f3_.symm;clear f1_ f2_ f3_;subst f4_;subst f5_))
        refine norm_ (a':=?_) ?_ ?_
        rotate_left;·simp only [putAll,Act.put,List.setIfInBounds_toArray,List.set_cons_zero,List.set_cons_succ];rfl
        refine pure_ (i:=8) (N:=some 61) (v:=?_) (a':=?_) #[true,true,true,true,true,true,true,true,true,false] rfl rfl (any_of HT_.out (by kernel_rfl)) (fun _ _ _ h=>h) (Or.inl ⟨by rfl,?_⟩) ?_ ?_
        rotate_left;·intro w';go_simp;with_reducible rfl
        rotate_left;·simp only [Act.put,List.setIfInBounds_toArray,List.set_cons_zero,List.set_cons_succ,i64_w,i32_w];rfl
        refine last_ (i:=9) (N:=none) #[true,true,true,true,true,true,true,true,true,true] rfl rfl (one_of HT_.out (by kernel_rfl)) (by decide) (fun K hK=>?_)
        have hs70:w68.cell? ⟨gb388,0,none⟩ = some (.int .i64 x389000_19):=(blk_cell BK388.out 0).trans rfl
        have hfs70:=blk_frozen BK388.out 0
        have hns70_0:=NB375_388.out
        have hms70_0:=NB388_375.out
        have hs71:w68.cell? ⟨gb388,1,none⟩ = some (.int .i64 x389001_19):=(blk_cell BK388.out 1).trans rfl
        have hfs71:=blk_frozen BK388.out 1
        have hns71_0:=NB375_388.out
        have hms71_0:=NB388_375.out
        have hs72:w68.cell? ⟨gb388,2,none⟩ = some (.slice Ao64 x389002_19.length co64):=(blk_cell BK388.out 2).trans rfl
        have hfs72:=blk_frozen BK388.out 2
        have hns72_0:=NB375_388.out
        have hms72_0:=NB388_375.out
        refine skip_ (w1:=?_) (by rfl) rfl ?_ ?_
        rotate_left
        ·go_simp
         rfl
        refine hK.out _ _ ?_
        clear hK K
        refine done_ (done_of HT_.out (by kernel_rfl)) ?_
        try go_wp2
        have n0_:Aside0 (Kd.N k25 25 (((w68.setCell ⟨gb388,0,none⟩ (.int .i64 (wrap64 (1 + t401)))).setCell ⟨gb388,1,none⟩ (.int .i64 0)).setCell ⟨gb388,2,none⟩ (.slice Ao69 y404.length co69)) w.heap.size (fun k_=>(w.heap.size ≤ k_)∧some k_ ≠ (.slice Ao69 y404.length co69:Value).ownBlock∧k_ ≠ g∧k_ ≠ gb375∧k_ ≠ gb388) (.slice (some ad403) t376.length co60) t376):=⟨by (with_reducible repeat (first | apply Kd.N_alloc | apply Kd.N_drewN | apply Kd.N_drew));exact Kd.N_mono (Kd.N_far (p:=⟨gb388,2,none⟩) (Kd.N_far (p:=⟨gb388,1,none⟩) (Kd.N_far (p:=⟨gb388,0,none⟩) (Kd.N_mono HO_4.out (fun k_ hk=>(⟨hk,hk.2.2.2.2⟩:_∧k_ ≠ gb388))) (fun _ hk=>hk.2) (.int .i64 (wrap64 (1 + t401)))) (fun _ hk=>hk.2) (.int .i64 0)) (fun _ hk=>hk.2) (.slice Ao69 y404.length co69)) (fun _ hk=>⟨hk.1.1,⟨hk.1.2.1,⟨hk.1.2.2.1,⟨hk.1.2.2.2.1,hk.1.2.2.2.2⟩⟩⟩⟩)⟩
        have n1_:Aside0 (Kd.V k25 25 (((w68.setCell ⟨gb388,0,none⟩ (.int .i64 (wrap64 (1 + t401)))).setCell ⟨gb388,1,none⟩ (.int .i64 0)).setCell ⟨gb388,2,none⟩ (.slice Ao69 y404.length co69)) w.heap.size (fun k_=>(w.heap.size ≤ k_)∧some k_ ≠ (.slice (some ad403) t376.length co60:Value).ownBlock∧some k_ ≠ (.slice Ao69 y404.length co69:Value).ownBlock∧k_ ≠ g∧k_ ≠ gb375∧k_ ≠ gb388) (.slice Ao64 x389002_19.length co64) x389002_19):=⟨by (with_reducible repeat (first | apply Kd.V_alloc | apply Kd.V_drewN | apply Kd.V_drew));exact Kd.V_mono (Kd.V_far (p:=⟨gb388,2,none⟩) (Kd.V_far (p:=⟨gb388,1,none⟩) (Kd.V_far (p:=⟨gb388,0,none⟩) (Kd.V_mono HO_389002.out (fun k_ hk=>(⟨hk,hk.2.2.2.2.2⟩:_∧k_ ≠ gb388))) (fun _ hk=>hk.2) (.int .i64 (wrap64 (1 + t401)))) (fun _ hk=>hk.2) (.int .i64 0)) (fun _ hk=>hk.2) (.slice Ao69 y404.length co69)) (fun _ hk=>⟨hk.1.1,⟨hk.1.2.2.1,⟨hk.1.2.1,⟨hk.1.2.2.2.1,⟨hk.1.2.2.2.2.1,hk.1.2.2.2.2.2⟩⟩⟩⟩⟩)⟩
        have n2_:Aside0 (Kd.V k25 25 (((w68.setCell ⟨gb388,0,none⟩ (.int .i64 (wrap64 (1 + t401)))).setCell ⟨gb388,1,none⟩ (.int .i64 0)).setCell ⟨gb388,2,none⟩ (.slice Ao69 y404.length co69)) w.heap.size (fun k_=>(w.heap.size ≤ k_)∧some k_ ≠ (.slice (some ad403) t376.length co60:Value).ownBlock∧some k_ ≠ (.slice Ao69 y404.length co69:Value).ownBlock∧k_ ≠ g∧k_ ≠ gb375∧k_ ≠ gb388) (.slice A403_2 ((rd_T25 t376 0).f2).length c403_2) ((rd_T25 t376 0).f2)):=⟨by (with_reducible repeat (first | apply Kd.V_alloc | apply Kd.V_drewN | apply Kd.V_drew));exact Kd.V_mono (Kd.V_far (p:=⟨gb388,2,none⟩) (Kd.V_far (p:=⟨gb388,1,none⟩) (Kd.V_far (p:=⟨gb388,0,none⟩) (Kd.V_mono HL403_2.out (fun k_ hk=>(⟨hk,hk.2.2.2.2.2⟩:_∧k_ ≠ gb388))) (fun _ hk=>hk.2) (.int .i64 (wrap64 (1 + t401)))) (fun _ hk=>hk.2) (.int .i64 0)) (fun _ hk=>hk.2) (.slice Ao69 y404.length co69)) (fun _ hk=>⟨hk.1.1,⟨hk.1.2.2.1,⟨hk.1.2.1,⟨hk.1.2.2.2.1,⟨hk.1.2.2.2.2.1,hk.1.2.2.2.2.2⟩⟩⟩⟩⟩)⟩
        have n3_:Aside0 (Kd.N k25 25 (((w68.setCell ⟨gb388,0,none⟩ (.int .i64 (wrap64 (1 + t401)))).setCell ⟨gb388,1,none⟩ (.int .i64 0)).setCell ⟨gb388,2,none⟩ (.slice Ao69 y404.length co69)) w.heap.size (fun k_=>(w.heap.size ≤ k_)∧some k_ ≠ (.slice (some ad403) t376.length co60:Value).ownBlock∧k_ ≠ g∧k_ ≠ gb375∧k_ ≠ gb388) (.slice Ao69 y404.length co69) y404):=⟨by (with_reducible repeat (first | apply Kd.N_alloc | apply Kd.N_drewN | apply Kd.N_drew));exact Kd.N_mono (Kd.N_far (p:=⟨gb388,2,none⟩) (Kd.N_far (p:=⟨gb388,1,none⟩) (Kd.N_far (p:=⟨gb388,0,none⟩) (Kd.N_mono HO406.out (fun k_ hk=>(⟨hk,hk.2.2.2.2⟩:_∧k_ ≠ gb388))) (fun _ hk=>hk.2) (.int .i64 (wrap64 (1 + t401)))) (fun _ hk=>hk.2) (.int .i64 0)) (fun _ hk=>hk.2) (.slice Ao69 y404.length co69)) (fun _ hk=>⟨hk.1.1,⟨hk.1.2.1,⟨hk.1.2.2.1,⟨hk.1.2.2.2.1,hk.1.2.2.2.2⟩⟩⟩⟩)⟩
        have n4_:Aside0 ((((w68.setCell ⟨gb388,0,none⟩ (.int .i64 (wrap64 (1 + t401)))).setCell ⟨gb388,1,none⟩ (.int .i64 0)).setCell ⟨gb388,2,none⟩ (.slice Ao69 y404.length co69)).heap[gb375]? = some (.cells #[.int .i64 0,.int .i64 0,.slice none 0 0] 25 (0,0))):=⟨by (with_reducible repeat (first | refine blk_drewN ?_ _ | refine blk_drew ?_ | refine blk_alloc ?_ _));refine blk_far ?_ NB375_388.out _;(with_reducible repeat (first | refine blk_drewN ?_ _ | refine blk_drew ?_ | refine blk_alloc ?_ _));refine blk_far ?_ NB375_388.out _;(with_reducible repeat (first | refine blk_drewN ?_ _ | refine blk_drew ?_ | refine blk_alloc ?_ _));refine blk_far ?_ NB375_388.out _;(with_reducible repeat (first | refine blk_drewN ?_ _ | refine blk_drew ?_ | refine blk_alloc ?_ _));exact BK375.out⟩
        have n5_:Aside0 ((((w68.setCell ⟨gb388,0,none⟩ (.int .i64 (wrap64 (1 + t401)))).setCell ⟨gb388,1,none⟩ (.int .i64 0)).setCell ⟨gb388,2,none⟩ (.slice Ao69 y404.length co69)).heap[gb388]? = some (.cells #[.int .i64 (wrap64 (1 + t401)),.int .i64 0,.slice Ao69 y404.length co69] 25 (0,0))):=⟨by (with_reducible repeat (first | refine blk_drewN ?_ _ | refine blk_drew ?_ | refine blk_alloc ?_ _));refine blk_put (cs:=#[.int .i64 (wrap64 (1 + t401)),.int .i64 0,.slice Ao64 x389002_19.length co64]) ?_ 2 _ rfl;(with_reducible repeat (first | refine blk_drewN ?_ _ | refine blk_drew ?_ | refine blk_alloc ?_ _));refine blk_put (cs:=#[.int .i64 (wrap64 (1 + t401)),.int .i64 x389001_19,.slice Ao64 x389002_19.length co64]) ?_ 1 _ rfl;(with_reducible repeat (first | refine blk_drewN ?_ _ | refine blk_drew ?_ | refine blk_alloc ?_ _));refine blk_put (cs:=#[.int .i64 x389000_19,.int .i64 x389001_19,.slice Ao64 x389002_19.length co64]) ?_ 0 _ rfl;(with_reducible repeat (first | refine blk_drewN ?_ _ | refine blk_drew ?_ | refine blk_alloc ?_ _));exact BK388.out⟩
        have n6_:Aside0 (IsS73 w0 (((w68.setCell ⟨gb388,0,none⟩ (.int .i64 (wrap64 (1 + t401)))).setCell ⟨gb388,1,none⟩ (.int .i64 0)).setCell ⟨gb388,2,none⟩ (.slice Ao69 y404.length co69)) g s0_0 t402):=⟨by repeat (first | (with_reducible first | exact HI0.out | apply IsS73.alloc | apply IsS73.drewN | apply IsS73.drew | apply IsS73.set_1 | refine IsS73.far ?_ NB0_375.out _ | refine IsS73.far ?_ NB0_388.out _) | exact HI0.out)⟩
        have n7_:Aside0 (KeepBut w (((w68.setCell ⟨gb388,0,none⟩ (.int .i64 (wrap64 (1 + t401)))).setCell ⟨gb388,1,none⟩ (.int .i64 0)).setCell ⟨gb388,2,none⟩ (.slice Ao69 y404.length co69)) g none):=⟨by repeat (first | (with_reducible first | exact HK.out | apply KeepBut.set_ | apply keep_drewN | apply keep_drew | apply keep_alloc | refine keep_far ?_ GW375.out _ | refine keep_far ?_ GW388.out _) | exact HK.out)⟩
        have n8_:Aside0 (Below w0.heap.size w0 (((w68.setCell ⟨gb388,0,none⟩ (.int .i64 (wrap64 (1 + t401)))).setCell ⟨gb388,1,none⟩ (.int .i64 0)).setCell ⟨gb388,2,none⟩ (.slice Ao69 y404.length co69))):=⟨by repeat (first | (with_reducible first | exact HB.out | apply below_alloc | apply pw_below_drewN | apply below_drew1 | refine below_set ?_ (IsS73.ge HI0.out) | refine below_set ?_ GE375.out | refine below_set ?_ GE388.out) | exact HB.out)⟩
        (try clear HO_4)
        (try clear HO_389002)
        (try clear HL403_2)
        (try clear HO406)
        (try clear BK375)
        (try clear BK388)
        (try clear HI0)
        (try clear HK)
        (try clear HB)
        generalize (((w68.setCell ⟨gb388,0,none⟩ (.int .i64 (wrap64 (1 + t401)))).setCell ⟨gb388,1,none⟩ (.int .i64 0)).setCell ⟨gb388,2,none⟩ (.slice Ao69 y404.length co69)) = w73 at n0_ n1_ n2_ n3_ n4_ n5_ n6_ n7_ n8_ ⊢
        have HO_4:=n0_
        have HO_389002:=n1_
        have HL403_2:=n2_
        have HO406:=n3_
        have BK375:=n4_
        have BK388:=n5_
        have HI0:=n6_
        have HK:=n7_
        have HB:=n8_
        clear n0_ n1_ n2_ n3_ n4_ n5_ n6_ n7_ n8_
        have n0_:=Aside0.mk (Kd.N_drew HO_4.out)
        have n1_:=Aside0.mk (Kd.V_drew HO_389002.out)
        have n2_:=Aside0.mk (Kd.V_drew HL403_2.out)
        have n3_:=Aside0.mk (Kd.N_drew HO406.out)
        have n4_:=Aside0.mk (blk_drew BK375.out)
        have n5_:=Aside0.mk (blk_drew BK388.out)
        have n6_:=Aside0.mk (IsS73.drew HI0.out)
        have n7_:=Aside0.mk (keep_drew HK.out)
        have n8_:=Aside0.mk (below_drew1 HB.out)
        clear HO_4
        clear HO_389002
        clear HL403_2
        clear HO406
        clear BK375
        clear BK388
        clear HI0
        clear HK
        clear HB
        have HO_4:=n0_
        have HO_389002:=n1_
        have HL403_2:=n2_
        have HO406:=n3_
        have BK375:=n4_
        have BK388:=n5_
        have HI0:=n6_
        have HK:=n7_
        have HB:=n8_
        clear n0_ n1_ n2_ n3_ n4_ n5_ n6_ n7_ n8_
        refine start_ (n:=4) (S:=fun w'=>w'.cell? ⟨gb388,0,none⟩ = some (.int .i64 (wrap64 (1 + t401)))∧w'.cell? ⟨gb388,1,none⟩ = some (.int .i64 0)∧w'.cell? ⟨gb388,2,none⟩ = some (.slice Ao69 y404.length co69)) (ds:=[]) #[false,false,false,false] (by kernel_rfl) rfl rfl ⟨(blk_cell BK388.out 0).trans rfl,(blk_cell BK388.out 1).trans rfl,(blk_cell BK388.out 2).trans rfl⟩ (fun hHeld=>?_)
        generalize w73.drew = w74 at HO_4 HO_389002 HL403_2 HO406 BK375 BK388 HI0 HK HB hHeld ⊢
        refine pure_ (i:=0) (N:=some 62) (v:=?_) (a':=?_) #[true,false,false,false] rfl rfl (by kernel_rfl) (fun _ _ _ h=>h) (Or.inl ⟨by rfl,?_⟩) ?_ ?_
        rotate_left;·intro w';go_simp;with_reducible rfl
        rotate_left;·simp only [Act.put,List.setIfInBounds_toArray,List.set_cons_zero,List.set_cons_succ,i64_w,i32_w];rfl
        refine pure_ (i:=2) (N:=some 2) (v:=?_) (a':=?_) #[true,false,true,false] rfl rfl (by kernel_rfl) (fun _ _ _ h=>h) (Or.inl ⟨by rfl,?_⟩) ?_ ?_
        rotate_left;·intro w';go_simp;with_reducible rfl
        rotate_left;·simp only [Act.put,List.setIfInBounds_toArray,List.set_cons_zero,List.set_cons_succ,i64_w,i32_w];rfl
        refine take_ (i:=1) (N:=some 63) (v:=?_) (a':=?_) #[true,true,true,false] rfl rfl (by kernel_rfl) (fun _ _ _ h=>h) (Or.inl ⟨by rfl,?_⟩) hHeld ?_ ?_
        rotate_left;·rintro w' ⟨s0,s1,s2⟩;go_simp;with_reducible rfl
        rotate_left;·simp only [Act.put,List.setIfInBounds_toArray,List.set_cons_zero,List.set_cons_succ,i64_w,i32_w];rfl
        refine one_ (i:=3) (N:=none) #[true,true,true,true] rfl rfl (by kernel_rfl) (by decide) (fun K hK=>?_)
        have hs75:w74.cell? ⟨gb375,0,none⟩ = some (.int .i64 0):=(blk_cell BK375.out 0).trans rfl
        have hfs75:=blk_frozen BK375.out 0
        have hns75_1:=NB388_375.out
        have hms75_1:=NB375_388.out
        have hs76:w74.cell? ⟨gb375,1,none⟩ = some (.int .i64 0):=(blk_cell BK375.out 1).trans rfl
        have hfs76:=blk_frozen BK375.out 1
        have hns76_1:=NB388_375.out
        have hms76_1:=NB375_388.out
        have hs77:w74.cell? ⟨gb375,2,none⟩ = some (.slice none 0 0):=(blk_cell BK375.out 2).trans rfl
        have hfs77:=blk_frozen BK375.out 2
        have hns77_1:=NB388_375.out
        have hms77_1:=NB375_388.out
        refine skip_ (w1:=?_) (by rfl) rfl ?_ ?_
        rotate_left
        ·go_simp
         rfl
        refine hK.out _ _ ⟨((cell_far (p:=⟨gb375,_,none⟩) NB388_375.out _).trans (((cell_far (p:=⟨gb375,_,none⟩) NB388_375.out _).trans (((cell_far (p:=⟨gb375,_,none⟩) NB388_375.out _).trans (hHeld.1)))))),((cell_far (p:=⟨gb375,_,none⟩) NB388_375.out _).trans (((cell_far (p:=⟨gb375,_,none⟩) NB388_375.out _).trans (((cell_far (p:=⟨gb375,_,none⟩) NB388_375.out _).trans (hHeld.2.1)))))),((cell_far (p:=⟨gb375,_,none⟩) NB388_375.out _).trans (((cell_far (p:=⟨gb375,_,none⟩) NB388_375.out _).trans (((cell_far (p:=⟨gb375,_,none⟩) NB388_375.out _).trans (hHeld.2.2))))))⟩ (fun hHeld=>?_)
        clear hK K
        refine done_ (by kernel_rfl) ?_
        try go_wp2
        refine bodyPost_ret (results_tc rfl _ _ gb375 25 #[.int .i64 (wrap64 (1 + t401)),.int .i64 0,.slice Ao69 y404.length co69] (0,0) _ rfl (by (with_reducible repeat (first | refine blk_drewN ?_ _ | refine blk_drew ?_ | refine blk_alloc ?_ _));refine blk_put (cs:=#[.int .i64 (wrap64 (1 + t401)),.int .i64 0,.slice none 0 0]) ?_ 2 _ rfl;(with_reducible repeat (first | refine blk_drewN ?_ _ | refine blk_drew ?_ | refine blk_alloc ?_ _));refine blk_put (cs:=#[.int .i64 (wrap64 (1 + t401)),.int .i64 0,.slice none 0 0]) ?_ 1 _ rfl;(with_reducible repeat (first | refine blk_drewN ?_ _ | refine blk_drew ?_ | refine blk_alloc ?_ _));refine blk_put (cs:=#[.int .i64 0,.int .i64 0,.slice none 0 0]) ?_ 0 _ rfl;(with_reducible repeat (first | refine blk_drewN ?_ _ | refine blk_drew ?_ | refine blk_alloc ?_ _));exact BK375.out) Tryd.underlying25 rfl (by kernel_rfl)) rfl ?_
        exact ⟨_,_,by first | rfl | (simp [errW_none,errW_some] <;> rfl) | (simp [*,errW_none,errW_some] <;> rfl),by (with_reducible repeat (first | apply Kd.N_alloc | apply Kd.N_drewN | apply Kd.N_drew));exact Kd.N_mono (Kd.N_far (p:=⟨gb375,2,none⟩) (Kd.N_far (p:=⟨gb375,1,none⟩) (Kd.N_far (p:=⟨gb375,0,none⟩) (Kd.N_mono HO_4.out (fun k_ hk=>(⟨hk,hk.2.2.2.1⟩:_∧k_ ≠ gb375))) (fun _ hk=>hk.2) (.int .i64 (wrap64 (1 + t401)))) (fun _ hk=>hk.2) (.int .i64 0)) (fun _ hk=>hk.2) (.slice Ao69 y404.length co69)) (fun _ hk=>hk.1.1),Kd.N_V (by (with_reducible repeat (first | apply Kd.N_alloc | apply Kd.N_drewN | apply Kd.N_drew));exact Kd.N_mono (Kd.N_far (p:=⟨gb375,2,none⟩) (Kd.N_far (p:=⟨gb375,1,none⟩) (Kd.N_far (p:=⟨gb375,0,none⟩) (Kd.N_mono HO406.out (fun k_ hk=>(⟨hk,hk.2.2.2.1⟩:_∧k_ ≠ gb375))) (fun _ hk=>hk.2) (.int .i64 (wrap64 (1 + t401)))) (fun _ hk=>hk.2) (.int .i64 0)) (fun _ hk=>hk.2) (.slice Ao69 y404.length co69)) (fun _ hk=>⟨hk.1.1,hk.1.2.1⟩)),by repeat (first | (with_reducible first | exact HI0.out | apply IsS73.alloc | apply IsS73.drewN | apply IsS73.drew | apply IsS73.set_1 | refine IsS73.far ?_ NB0_375.out _ | refine IsS73.far ?_ NB0_388.out _) | exact HI0.out),by repeat (first | (with_reducible first | exact HB.out | apply below_alloc | apply pw_below_drewN | apply below_drew1 | refine below_set ?_ (IsS73.ge HI0.out) | refine below_set ?_ GE375.out | refine below_set ?_ GE388.out) | exact HB.out),by repeat (first | (with_reducible first | exact HK.out | apply KeepBut.set_ | apply keep_drewN | apply keep_drew | apply keep_alloc | refine keep_far ?_ GW375.out _ | refine keep_far ?_ GW388.out _) | exact HK.out)⟩
       ·rw [if_neg c59] at H
        exact absurd H (by simp)
      ·rw [if_neg c57] at H
       have c57b0:(t399 == 0) = false:=beq_eq_false_iff_ne.mpr c57
       have c57b1:(t399 != 0) = true:=bne_iff_ne.mpr c57
       simp only [Option.some.injEq,Prod.mk.injEq] at H
       obtain ⟨rfl,rfl,rfl,rfl,rfl⟩:=H
       obtain ⟨Ao78,co78,eo78⟩:=Kd.N_slice HO_4.out
       subst eo78
       try go_wp2_with (first | (go_at_call 41;(with_reducible refine (spec_l6Rd_pick.calls kj19 g s0_0 x1001_19 3 t399 t400 w0 _ ?side1 ?side2 A56.out).mono ?_);(case side1=>repeat (first | (with_reducible first | exact HI0.out | apply IsS73.alloc | apply IsS73.drewN | apply IsS73.drew | apply IsS73.set_1 | refine IsS73.far ?_ NB0_375.out _ | refine IsS73.far ?_ NB0_388.out _) | exact HI0.out));(case side2=>repeat (first | (with_reducible first | exact HB.out | apply below_alloc | apply pw_below_drewN | apply below_drew1 | refine below_set ?_ (IsS73.ge HI0.out) | refine below_set ?_ GE375.out | refine below_set ?_ GE388.out) | exact HB.out));rintro e w79 ⟨rfl,hi,hb,hk⟩;have n0_:=Aside0.mk (Kd.N_mono (Kd.N_keep (Kd.N_mono (ok:=fun k_=>(((w.heap.size ≤ k_))∧(k_ ≠ gb375∧(k_ ≠ gb388∧k_ ≠ g)))) (by (with_reducible repeat (first | apply Kd.N_alloc | apply Kd.N_drewN | apply Kd.N_drew));exact HO_4.out) (fun k_ hk_=>(⟨hk_,hk_.2.2.2⟩:_∧k_ ≠ g))) hk (fun _ h=>h.2)) (fun _ h=>h.1));have n1_:=Aside0.mk (Kd.V_mono (Kd.V_keep (Kd.V_mono (ok:=fun k_=>(((w.heap.size ≤ k_))∧(some k_ ≠ (.slice Ao78 t376.length co78:Value).ownBlock∧(k_ ≠ gb375∧(k_ ≠ gb388∧k_ ≠ g))))) (by (with_reducible repeat (first | apply Kd.V_alloc | apply Kd.V_drewN | apply Kd.V_drew));exact HO_389002.out) (fun k_ hk_=>(⟨hk_,hk_.2.2.2.2⟩:_∧k_ ≠ g))) hk (fun _ h=>h.2)) (fun _ h=>h.1));have n2_:=Aside0.mk (KeepBut.blk hk (g':=gb375) (o:=.cells #[.int .i64 0,.int .i64 0,.slice none 0 0] 25 (0,0)) (by (with_reducible repeat (first | refine blk_drewN ?_ _ | refine blk_drew ?_ | refine blk_alloc ?_ _));exact BK375.out) NB375_0.out (by simp));have n3_:=Aside0.mk (KeepBut.blk hk (g':=gb388) (o:=.cells #[.int .i64 x389000_19,.int .i64 x389001_19,u389002] 25 (0,0)) (by (with_reducible repeat (first | refine blk_drewN ?_ _ | refine blk_drew ?_ | refine blk_alloc ?_ _));exact BK388.out) NB388_0.out (by simp));have n4_:=Aside0.mk (KeepBut.trans (by repeat (first | (with_reducible first | exact HK.out | apply KeepBut.set_ | apply keep_drewN | apply keep_drew | apply keep_alloc | refine keep_far ?_ GW375.out _ | refine keep_far ?_ GW388.out _) | exact HK.out)) hk (.inl rfl));have n5_:=Aside0.mk (hb);have n6_:=Aside0.mk (hi);clear HO_4;clear HO_389002;clear BK375;clear BK388;clear HK;clear HB;clear HI0;have HO_4:=n0_;have HO_389002:=n1_;have BK375:=n2_;have BK388:=n3_;have HK:=n4_;have HB:=n5_;have HI0:=n6_;clear n0_ n1_ n2_ n3_ n4_ n5_ n6_;(try clear hb);(try clear hb2);(try clear hk);(try clear hi)))
       have n0_:=Aside0.mk (Kd.N_drew HO_4.out)
       have n1_:=Aside0.mk (Kd.V_drew HO_389002.out)
       have n2_:=Aside0.mk (blk_drew BK375.out)
       have n3_:=Aside0.mk (blk_drew BK388.out)
       have n4_:=Aside0.mk (IsS73.drew HI0.out)
       have n5_:=Aside0.mk (keep_drew HK.out)
       have n6_:=Aside0.mk (below_drew1 HB.out)
       clear HO_4
       clear HO_389002
       clear BK375
       clear BK388
       clear HI0
       clear HK
       clear HB
       have HO_4:=n0_
       have HO_389002:=n1_
       have BK375:=n2_
       have BK388:=n3_
       have HI0:=n4_
       have HK:=n5_
       have HB:=n6_
       clear n0_ n1_ n2_ n3_ n4_ n5_ n6_
       obtain ⟨Ao83,co83,eo83⟩:=Kd.V_slice HO_389002.out
       (first | subst eo83 | (injection eo83 with f1_ f2_ f3_;have f4_:=f1_.symm;have f5_:=f3_.symm;clear f1_ f2_ f3_;subst f4_;subst f5_))
       refine start_ (n:=4) (S:=fun w'=>w'.cell? ⟨gb388,0,none⟩ = some (.int .i64 x389000_19)∧w'.cell? ⟨gb388,1,none⟩ = some (.int .i64 x389001_19)∧w'.cell? ⟨gb388,2,none⟩ = some (.slice Ao83 x389002_19.length co83)) (ds:=[]) #[false,false,false,false] (by kernel_rfl) rfl rfl ⟨(blk_cell BK388.out 0).trans rfl,(blk_cell BK388.out 1).trans rfl,(blk_cell BK388.out 2).trans rfl⟩ (fun hHeld=>?_)
       generalize w79.drew = w80 at HO_4 HO_389002 BK375 BK388 HI0 HK HB hHeld ⊢
       refine pure_ (i:=0) (N:=some 62) (v:=?_) (a':=?_) #[true,false,false,false] rfl rfl (by kernel_rfl) (fun _ _ _ h=>h) (Or.inl ⟨by rfl,?_⟩) ?_ ?_
       rotate_left;·intro w';go_simp;with_reducible rfl
       rotate_left;·simp only [Act.put,List.setIfInBounds_toArray,List.set_cons_zero,List.set_cons_succ,i64_w,i32_w];rfl
       refine pure_ (i:=2) (N:=some 2) (v:=?_) (a':=?_) #[true,false,true,false] rfl rfl (by kernel_rfl) (fun _ _ _ h=>h) (Or.inl ⟨by rfl,?_⟩) ?_ ?_
       rotate_left;·intro w';go_simp;with_reducible rfl
       rotate_left;·simp only [Act.put,List.setIfInBounds_toArray,List.set_cons_zero,List.set_cons_succ,i64_w,i32_w];rfl
       refine take_ (i:=1) (N:=some 63) (v:=?_) (a':=?_) #[true,true,true,false] rfl rfl (by kernel_rfl) (fun _ _ _ h=>h) (Or.inl ⟨by rfl,?_⟩) hHeld ?_ ?_
       rotate_left;·rintro w' ⟨s0,s1,s2⟩;go_simp;with_reducible rfl
       rotate_left;·simp only [Act.put,List.setIfInBounds_toArray,List.set_cons_zero,List.set_cons_succ,i64_w,i32_w];rfl
       refine one_ (i:=3) (N:=none) #[true,true,true,true] rfl rfl (by kernel_rfl) (by decide) (fun K hK=>?_)
       have hs81:w80.cell? ⟨gb375,0,none⟩ = some (.int .i64 0):=(blk_cell BK375.out 0).trans rfl
       have hfs81:=blk_frozen BK375.out 0
       have hns81_1:=NB388_375.out
       have hms81_1:=NB375_388.out
       have hs82:w80.cell? ⟨gb375,1,none⟩ = some (.int .i64 0):=(blk_cell BK375.out 1).trans rfl
       have hfs82:=blk_frozen BK375.out 1
       have hns82_1:=NB388_375.out
       have hms82_1:=NB375_388.out
       have hs84:w80.cell? ⟨gb375,2,none⟩ = some (.slice none 0 0):=(blk_cell BK375.out 2).trans rfl
       have hfs84:=blk_frozen BK375.out 2
       have hns84_1:=NB388_375.out
       have hms84_1:=NB375_388.out
       refine skip_ (w1:=?_) (by rfl) rfl ?_ ?_
       rotate_left
       ·go_simp
        rfl
       refine hK.out _ _ ⟨((cell_far (p:=⟨gb375,_,none⟩) NB388_375.out _).trans (((cell_far (p:=⟨gb375,_,none⟩) NB388_375.out _).trans (((cell_far (p:=⟨gb375,_,none⟩) NB388_375.out _).trans (hHeld.1)))))),((cell_far (p:=⟨gb375,_,none⟩) NB388_375.out _).trans (((cell_far (p:=⟨gb375,_,none⟩) NB388_375.out _).trans (((cell_far (p:=⟨gb375,_,none⟩) NB388_375.out _).trans (hHeld.2.1)))))),((cell_far (p:=⟨gb375,_,none⟩) NB388_375.out _).trans (((cell_far (p:=⟨gb375,_,none⟩) NB388_375.out _).trans (((cell_far (p:=⟨gb375,_,none⟩) NB388_375.out _).trans (hHeld.2.2))))))⟩ (fun hHeld=>?_)
       clear hK K
       refine done_ (by kernel_rfl) ?_
       try go_wp2
       refine bodyPost_ret (results_tc rfl _ _ gb375 25 #[.int .i64 x389000_19,.int .i64 x389001_19,.slice Ao83 x389002_19.length co83] (0,0) _ rfl (by (with_reducible repeat (first | refine blk_drewN ?_ _ | refine blk_drew ?_ | refine blk_alloc ?_ _));refine blk_put (cs:=#[.int .i64 x389000_19,.int .i64 x389001_19,.slice none 0 0]) ?_ 2 _ rfl;(with_reducible repeat (first | refine blk_drewN ?_ _ | refine blk_drew ?_ | refine blk_alloc ?_ _));refine blk_put (cs:=#[.int .i64 x389000_19,.int .i64 0,.slice none 0 0]) ?_ 1 _ rfl;(with_reducible repeat (first | refine blk_drewN ?_ _ | refine blk_drew ?_ | refine blk_alloc ?_ _));refine blk_put (cs:=#[.int .i64 0,.int .i64 0,.slice none 0 0]) ?_ 0 _ rfl;(with_reducible repeat (first | refine blk_drewN ?_ _ | refine blk_drew ?_ | refine blk_alloc ?_ _));exact BK375.out) Tryd.underlying25 rfl (by kernel_rfl)) rfl ?_
       exact ⟨_,_,by first | rfl | (simp [errW_none,errW_some] <;> rfl) | (simp [*,errW_none,errW_some] <;> rfl),by (with_reducible repeat (first | apply Kd.N_alloc | apply Kd.N_drewN | apply Kd.N_drew));exact Kd.N_mono (Kd.N_far (p:=⟨gb375,2,none⟩) (Kd.N_far (p:=⟨gb375,1,none⟩) (Kd.N_far (p:=⟨gb375,0,none⟩) (Kd.N_mono HO_4.out (fun k_ hk=>(⟨hk,hk.2.1⟩:_∧k_ ≠ gb375))) (fun _ hk=>hk.2) (.int .i64 x389000_19)) (fun _ hk=>hk.2) (.int .i64 x389001_19)) (fun _ hk=>hk.2) (.slice Ao83 x389002_19.length co83)) (fun _ hk=>hk.1.1),by (with_reducible repeat (first | apply Kd.V_alloc | apply Kd.V_drewN | apply Kd.V_drew));exact Kd.V_mono (Kd.V_far (p:=⟨gb375,2,none⟩) (Kd.V_far (p:=⟨gb375,1,none⟩) (Kd.V_far (p:=⟨gb375,0,none⟩) (Kd.V_mono HO_389002.out (fun k_ hk=>(⟨hk,hk.2.2.1⟩:_∧k_ ≠ gb375))) (fun _ hk=>hk.2) (.int .i64 x389000_19)) (fun _ hk=>hk.2) (.int .i64 x389001_19)) (fun _ hk=>hk.2) (.slice Ao83 x389002_19.length co83)) (fun _ hk=>⟨hk.1.1,hk.1.2.1⟩),by repeat (first | (with_reducible first | exact HI0.out | apply IsS73.alloc | apply IsS73.drewN | apply IsS73.drew | apply IsS73.set_1 | refine IsS73.far ?_ NB0_375.out _ | refine IsS73.far ?_ NB0_388.out _) | exact HI0.out),by repeat (first | (with_reducible first | exact HB.out | apply below_alloc | apply pw_below_drewN | apply below_drew1 | refine below_set ?_ (IsS73.ge HI0.out) | refine below_set ?_ GE375.out | refine below_set ?_ GE388.out) | exact HB.out),by repeat (first | (with_reducible first | exact HK.out | apply KeepBut.set_ | apply keep_drewN | apply keep_drew | apply keep_alloc | refine keep_far ?_ GW375.out _ | refine keep_far ?_ GW388.out _) | exact HK.out)⟩
     ·rw [if_neg c55] at H
      have c55b0:decide (1 < (t376.length:Int)) = false:=decide_eq_false c55
      have c55b1:decide (1 < t376.length) = false:=decide_eq_false (by omega)
      clear c55
      simp only [Option.some.injEq,Prod.mk.injEq] at H
      obtain ⟨rfl,rfl,rfl,rfl,rfl⟩:=H
      obtain ⟨Ao85,co85,eo85⟩:=Kd.N_slice HO_4.out
      subst eo85
      try go_wp2
      have n0_:=Aside0.mk (Kd.N_drew HO_4.out)
      have n1_:=Aside0.mk (Kd.V_drew HO_389002.out)
      have n2_:=Aside0.mk (blk_drew BK375.out)
      have n3_:=Aside0.mk (blk_drew BK388.out)
      have n4_:=Aside0.mk (IsS73.drew HI0.out)
      have n5_:=Aside0.mk (keep_drew HK.out)
      have n6_:=Aside0.mk (below_drew1 HB.out)
      clear HO_4
      clear HO_389002
      clear BK375
      clear BK388
      clear HI0
      clear HK
      clear HB
      have HO_4:=n0_
      have HO_389002:=n1_
      have BK375:=n2_
      have BK388:=n3_
      have HI0:=n4_
      have HK:=n5_
      have HB:=n6_
      clear n0_ n1_ n2_ n3_ n4_ n5_ n6_
      obtain ⟨Ao89,co89,eo89⟩:=Kd.V_slice HO_389002.out
      (first | subst eo89 | (injection eo89 with f1_ f2_ f3_;have f4_:=f1_.symm;have f5_:=f3_.symm;clear f1_ f2_ f3_;subst f4_;subst f5_))
      refine start_ (n:=4) (S:=fun w'=>w'.cell? ⟨gb388,0,none⟩ = some (.int .i64 x389000_19)∧w'.cell? ⟨gb388,1,none⟩ = some (.int .i64 x389001_19)∧w'.cell? ⟨gb388,2,none⟩ = some (.slice Ao89 x389002_19.length co89)) (ds:=[]) #[false,false,false,false] (by kernel_rfl) rfl rfl ⟨(blk_cell BK388.out 0).trans rfl,(blk_cell BK388.out 1).trans rfl,(blk_cell BK388.out 2).trans rfl⟩ (fun hHeld=>?_)
      generalize wc.drew = w86 at HO_4 HO_389002 BK375 BK388 HI0 HK HB hHeld ⊢
      refine pure_ (i:=0) (N:=some 62) (v:=?_) (a':=?_) #[true,false,false,false] rfl rfl (by kernel_rfl) (fun _ _ _ h=>h) (Or.inl ⟨by rfl,?_⟩) ?_ ?_
      rotate_left;·intro w';go_simp;with_reducible rfl
      rotate_left;·simp only [Act.put,List.setIfInBounds_toArray,List.set_cons_zero,List.set_cons_succ,i64_w,i32_w];rfl
      refine pure_ (i:=2) (N:=some 2) (v:=?_) (a':=?_) #[true,false,true,false] rfl rfl (by kernel_rfl) (fun _ _ _ h=>h) (Or.inl ⟨by rfl,?_⟩) ?_ ?_
      rotate_left;·intro w';go_simp;with_reducible rfl
      rotate_left;·simp only [Act.put,List.setIfInBounds_toArray,List.set_cons_zero,List.set_cons_succ,i64_w,i32_w];rfl
      refine take_ (i:=1) (N:=some 63) (v:=?_) (a':=?_) #[true,true,true,false] rfl rfl (by kernel_rfl) (fun _ _ _ h=>h) (Or.inl ⟨by rfl,?_⟩) hHeld ?_ ?_
      rotate_left;·rintro w' ⟨s0,s1,s2⟩;go_simp;with_reducible rfl
      rotate_left;·simp only [Act.put,List.setIfInBounds_toArray,List.set_cons_zero,List.set_cons_succ,i64_w,i32_w];rfl
      refine one_ (i:=3) (N:=none) #[true,true,true,true] rfl rfl (by kernel_rfl) (by decide) (fun K hK=>?_)
      have hs87:w86.cell? ⟨gb375,0,none⟩ = some (.int .i64 0):=(blk_cell BK375.out 0).trans rfl
      have hfs87:=blk_frozen BK375.out 0
      have hns87_1:=NB388_375.out
      have hms87_1:=NB375_388.out
      have hs88:w86.cell? ⟨gb375,1,none⟩ = some (.int .i64 0):=(blk_cell BK375.out 1).trans rfl
      have hfs88:=blk_frozen BK375.out 1
      have hns88_1:=NB388_375.out
      have hms88_1:=NB375_388.out
      have hs90:w86.cell? ⟨gb375,2,none⟩ = some (.slice none 0 0):=(blk_cell BK375.out 2).trans rfl
      have hfs90:=blk_frozen BK375.out 2
      have hns90_1:=NB388_375.out
      have hms90_1:=NB375_388.out
      refine skip_ (w1:=?_) (by rfl) rfl ?_ ?_
      rotate_left
      ·go_simp
       rfl
      refine hK.out _ _ ⟨((cell_far (p:=⟨gb375,_,none⟩) NB388_375.out _).trans (((cell_far (p:=⟨gb375,_,none⟩) NB388_375.out _).trans (((cell_far (p:=⟨gb375,_,none⟩) NB388_375.out _).trans (hHeld.1)))))),((cell_far (p:=⟨gb375,_,none⟩) NB388_375.out _).trans (((cell_far (p:=⟨gb375,_,none⟩) NB388_375.out _).trans (((cell_far (p:=⟨gb375,_,none⟩) NB388_375.out _).trans (hHeld.2.1)))))),((cell_far (p:=⟨gb375,_,none⟩) NB388_375.out _).trans (((cell_far (p:=⟨gb375,_,none⟩) NB388_375.out _).trans (((cell_far (p:=⟨gb375,_,none⟩) NB388_375.out _).trans (hHeld.2.2))))))⟩ (fun hHeld=>?_)
      clear hK K
      refine done_ (by kernel_rfl) ?_
      try go_wp2
      refine bodyPost_ret (results_tc rfl _ _ gb375 25 #[.int .i64 x389000_19,.int .i64 x389001_19,.slice Ao89 x389002_19.length co89] (0,0) _ rfl (by (with_reducible repeat (first | refine blk_drewN ?_ _ | refine blk_drew ?_ | refine blk_alloc ?_ _));refine blk_put (cs:=#[.int .i64 x389000_19,.int .i64 x389001_19,.slice none 0 0]) ?_ 2 _ rfl;(with_reducible repeat (first | refine blk_drewN ?_ _ | refine blk_drew ?_ | refine blk_alloc ?_ _));refine blk_put (cs:=#[.int .i64 x389000_19,.int .i64 0,.slice none 0 0]) ?_ 1 _ rfl;(with_reducible repeat (first | refine blk_drewN ?_ _ | refine blk_drew ?_ | refine blk_alloc ?_ _));refine blk_put (cs:=#[.int .i64 0,.int .i64 0,.slice none 0 0]) ?_ 0 _ rfl;(with_reducible repeat (first | refine blk_drewN ?_ _ | refine blk_drew ?_ | refine blk_alloc ?_ _));exact BK375.out) Tryd.underlying25 rfl (by kernel_rfl)) rfl ?_
      exact ⟨_,_,by first | rfl | (simp [errW_none,errW_some] <;> rfl) | (simp [*,errW_none,errW_some] <;> rfl),by (with_reducible repeat (first | apply Kd.N_alloc | apply Kd.N_drewN | apply Kd.N_drew));exact Kd.N_mono (Kd.N_far (p:=⟨gb375,2,none⟩) (Kd.N_far (p:=⟨gb375,1,none⟩) (Kd.N_far (p:=⟨gb375,0,none⟩) (Kd.N_mono HO_4.out (fun k_ hk=>(⟨hk,hk.2.1⟩:_∧k_ ≠ gb375))) (fun _ hk=>hk.2) (.int .i64 x389000_19)) (fun _ hk=>hk.2) (.int .i64 x389001_19)) (fun _ hk=>hk.2) (.slice Ao89 x389002_19.length co89)) (fun _ hk=>hk.1.1),by (with_reducible repeat (first | apply Kd.V_alloc | apply Kd.V_drewN | apply Kd.V_drew));exact Kd.V_mono (Kd.V_far (p:=⟨gb375,2,none⟩) (Kd.V_far (p:=⟨gb375,1,none⟩) (Kd.V_far (p:=⟨gb375,0,none⟩) (Kd.V_mono HO_389002.out (fun k_ hk=>(⟨hk,hk.2.2.1⟩:_∧k_ ≠ gb375))) (fun _ hk=>hk.2) (.int .i64 x389000_19)) (fun _ hk=>hk.2) (.int .i64 x389001_19)) (fun _ hk=>hk.2) (.slice Ao89 x389002_19.length co89)) (fun _ hk=>⟨hk.1.1,hk.1.2.1⟩),by repeat (first | (with_reducible first | exact HI0.out | apply IsS73.alloc | apply IsS73.drewN | apply IsS73.drew | apply IsS73.set_1 | refine IsS73.far ?_ NB0_375.out _ | refine IsS73.far ?_ NB0_388.out _) | exact HI0.out),by repeat (first | (with_reducible first | exact HB.out | apply below_alloc | apply pw_below_drewN | apply below_drew1 | refine below_set ?_ (IsS73.ge HI0.out) | refine below_set ?_ GE375.out | refine below_set ?_ GE388.out) | exact HB.out),by repeat (first | (with_reducible first | exact HK.out | apply KeepBut.set_ | apply keep_drewN | apply keep_drew | apply keep_alloc | refine keep_far ?_ GW375.out _ | refine keep_far ?_ GW388.out _) | exact HK.out)⟩
def spec_SealMade.f (k:Nat) (l0:List (S25)) (a1_0:Int) (a1_1:Int) (l1_2:List (S25)):Option (Bool):=(spec_l20Known.f k l0).bind fun t492=>(if t492 = true then ((spec_SealOk.f k a1_0 a1_1 l1_2).bind fun t493=>(if t493 = true then ((spec_l20Apart.f k l0).bind fun t494=>((spec_l20Made.f k t494 a1_0 a1_1 l1_2).bind fun t497=>(some t497))) else (some false))) else (some false))
theorem spec_SealMade.mono:∀ a0 a1 a2 a3 k,LeO (spec_SealMade.f k a0 a1 a2 a3) (spec_SealMade.f (k + 1) a0 a1 a2 a3):=by
 intro a0 a1 a2 a3 k
 unfold spec_SealMade.f
 repeat' first
   | (with_reducible exact spec_SealOk.mono _ _ _ _)
   | (with_reducible exact spec_l20Apart.mono _ _)
   | (with_reducible exact spec_l20Known.mono _ _)
   | (with_reducible exact spec_l20Made.mono _ _ _ _ _)
   | (with_reducible exact LeO.refl _)
   | (with_reducible exact LeO.none _)
   | (with_reducible refine LeO.ite ?_ ?_)
   | (with_reducible refine LeO.bind ?_ (fun _=>?_))
   | exact spec_SealOk.mono _ _ _ _
   | exact spec_l20Apart.mono _ _
   | exact spec_l20Known.mono _ _
   | exact spec_l20Made.mono _ _ _ _ _
   | exact LeO.none _
   | refine LeO.ite ?_ ?_
   | refine LeO.bind ?_ (fun _=>?_)
def spec_SealMade.T1:Bool × List (List Nat × List Nat):=(true,[([],[]),([0],[0]),([1,1],[1]),([2],[2]),([3,2,2],[2,3]),([2,4],[2,4]),([5,4],[5]),([6],[6]),([7,6,6],[6,7]),([6],[6]),([8,9,8,6],[6,8,9]),([6,10],[6,10]),([11,10,0,1,2,3,4,5,6,7,8,9,10,11],[11])])
def spec_SealMade.B1:List Nat:=[0,1,3,7,15,31,63,127,255,127,1023,2047,4095]
theorem spec_SealMade.tab1:rtab .any (opsOf Tryd.f26 1) = spec_SealMade.T1:=by kernel_rfl
theorem spec_SealMade.bits1:waitsOk spec_SealMade.T1.2 spec_SealMade.B1 = true:=by kernel_rfl
set_option maxHeartbeats 8000000 in
set_option maxRecDepth 100000 in
theorem spec_SealMade.calls (k:Nat) (A0:Option Addr) (c0:Nat) (l0:List (S25)) (a1_0:Int) (a1_1:Int) (A1_2:Option Addr) (c1_2:Nat) (l1_2:List (S25)) (r:Bool) (w:World) (hr0:Kd.C k25 w A0 l0.length l0) (hc0:l0.length ≤ c0) (hr1_2:Kd.C k25 w A1_2 l1_2.length l1_2) (hc1_2:l1_2.length ≤ c1_2) (h:spec_SealMade.f k l0 a1_0 a1_1 l1_2 = some r) :
  Calls Tryd.prog 26 #[.slice A0 l0.length c0,.agg #[.int .i64 a1_0,.int .i64 a1_1,.slice A1_2 l1_2.length c1_2]] w fun e w'=>e = .returned (.bool r)∧Below w.heap.size w w':=by
 have hu25:=Tryd.underlying25
 have HR0:=Aside0.mk hr0
 have HC0:=Aside0.mk hc0
 clear hr0 hc0
 have HR1_2:=Aside0.mk hr1_2
 have HC1_2:=Aside0.mk hc1_2
 clear hr1_2 hc1_2
 have HB:=Aside0.mk (Below.refl w.heap.size w)
 have H:((spec_l20Known.f k l0).bind fun t492=>(if t492 = true then ((spec_SealOk.f k a1_0 a1_1 l1_2).bind fun t493=>(if t493 = true then ((spec_l20Apart.f k l0).bind fun t494=>((spec_l20Made.f k t494 a1_0 a1_1 l1_2).bind fun t497=>(some t497))) else (some false))) else (some false))) = some r:=h
 clear h
 replace H:=Option.bind_eq_some_iff.mp H
 obtain ⟨t492,A30,H⟩:=H
 replace H:(if t492 = true then ((spec_SealOk.f k a1_0 a1_1 l1_2).bind fun t493=>(if t493 = true then ((spec_l20Apart.f k l0).bind fun t494=>((spec_l20Made.f k t494 a1_0 a1_1 l1_2).bind fun t497=>(some t497))) else (some false))) else (some false)) = some r:=H
 have A3:=Aside0.mk A30
 clear A30
 by_cases c4:t492 = true
 ·subst c4
  have H1:((spec_SealOk.f k a1_0 a1_1 l1_2).bind fun t493=>(if t493 = true then ((spec_l20Apart.f k l0).bind fun t494=>((spec_l20Made.f k t494 a1_0 a1_1 l1_2).bind fun t497=>(some t497))) else (some false))) = some r:=by rw [if_pos rfl] at H;exact H
  clear H
  have H:=H1
  clear H1
  replace H:=Option.bind_eq_some_iff.mp H
  obtain ⟨t493,A50,H⟩:=H
  replace H:(if t493 = true then ((spec_l20Apart.f k l0).bind fun t494=>((spec_l20Made.f k t494 a1_0 a1_1 l1_2).bind fun t497=>(some t497))) else (some false)) = some r:=H
  have A5:=Aside0.mk A50
  clear A50
  by_cases c6:t493 = true
  ·subst c6
   have H1:((spec_l20Apart.f k l0).bind fun t494=>((spec_l20Made.f k t494 a1_0 a1_1 l1_2).bind fun t497=>(some t497))) = some r:=by rw [if_pos rfl] at H;exact H
   clear H
   have H:=H1
   clear H1
   replace H:=Option.bind_eq_some_iff.mp H
   obtain ⟨t494,A70,H⟩:=H
   replace H:((spec_l20Made.f k t494 a1_0 a1_1 l1_2).bind fun t497=>(some t497)) = some r:=H
   have A7:=Aside0.mk A70
   clear A70
   replace H:=Option.bind_eq_some_iff.mp H
   obtain ⟨t497,A80,H⟩:=H
   replace H:(some t497) = some r:=H
   have A8:=Aside0.mk A80
   clear A80
   obtain rfl:=Option.some.inj H
   go_enter Tryd.func26,Tryd.ntmps26
   try go_wp2_with (first | ((with_reducible refine gate_dst (N:=3) rfl ?_);refine box_event ?hg (N:=3) ?hd (cs:=#[.int .i64 a1_0,.int .i64 a1_1,.slice A1_2 l1_2.length c1_2]) (t:=25) ?hr ?_;(case hd=>rfl);(case hg=>rfl);(case hr=>first | (go_simp;done) | (go_simp;rfl));intro gb491 hg w9 hbox hb;have n0_:=Aside0.mk (below_step (by repeat (first | (with_reducible first | exact HB.out | apply below_alloc | apply pw_below_drewN | apply below_drew1) | exact HB.out)) hb);have n1_:=Aside0.mk (hbox);have n2_:=Aside0.mk ((by rw [hg];exact (below_size (by repeat (first | (with_reducible first | exact HB.out | apply below_alloc | apply pw_below_drewN | apply below_drew1) | exact HB.out))):w.heap.size ≤ gb491));have n3_:=Aside0.mk ((by rw [hg];exact (below_size (by repeat (first | (with_reducible first | exact HB.out | apply below_alloc | apply pw_below_drewN | apply below_drew1) | exact HB.out))):w.heap.size ≤ gb491));clear HB;have HB:=n0_;have BK491:=n1_;have GW491:=n2_;have GE491:=n3_;clear n0_ n1_ n2_ n3_;clear hb hbox hg))
   have n0_:=Aside0.mk (blk_drew BK491.out)
   have n1_:=Aside0.mk (below_drew1 HB.out)
   clear BK491
   clear HB
   have BK491:=n0_
   have HB:=n1_
   clear n0_ n1_
   refine start_ (n:=13) (S:=fun w'=>w'.cell? ⟨gb491,0,none⟩ = some (.int .i64 a1_0)∧w'.cell? ⟨gb491,1,none⟩ = some (.int .i64 a1_1)∧w'.cell? ⟨gb491,2,none⟩ = some (.slice A1_2 l1_2.length c1_2)) (ds:=[]) #[false,false,false,false,false,false,false,false,false,false,false,false,false] (by kernel_rfl) rfl rfl ⟨(blk_cell BK491.out 0).trans rfl,(blk_cell BK491.out 1).trans rfl,(blk_cell BK491.out 2).trans rfl⟩ (fun hHeld=>?_);refine with_tabW spec_SealMade.tab1 spec_SealMade.bits1 (fun HT_ HW_=>?_)
   generalize w9.drew = w10 at BK491 HB hHeld ⊢
   refine pure_ (i:=0) (N:=some 5) (v:=?_) (a':=?_) #[true,false,false,false,false,false,false,false,false,false,false,false,false] rfl rfl (any_of HT_.out (by kernel_rfl)) (fun _ _ _ h=>h) (Or.inl ⟨by rfl,?_⟩) ?_ ?_
   rotate_left;·intro w';go_simp;with_reducible rfl
   rotate_left;·simp only [Act.put,List.setIfInBounds_toArray,List.set_cons_zero,List.set_cons_succ,i64_w,i32_w];rfl
   refine one_ (i:=1) (N:=some 6) #[true,true,false,false,false,false,false,false,false,false,false,false,false] rfl rfl (one_of HT_.out (by kernel_rfl)) (by decide) (fun K hK=>?_)
   refine goes_ Tryd.func51 (by kernel_rfl) rfl #[.slice A0 l0.length c0] (by rfl) rfl rfl (by (try simp only [List.map_toArray,List.map_cons,List.map_nil]);first | done | rfl | (simp only [List.length_drop,List.length_take];rfl)) ?_
   with_reducible refine (spec_l20Known.calls k _ _ l0 true _ ?side1 ?side2 A3.out).mono ?_
   (case side1=>repeat (first | exact (Kd.C_below HR0.out HB.out) | (with_reducible refine Kd.C_alloc ?_ _) | (with_reducible refine Kd.C_drewN ?_ _) | (with_reducible refine Kd.C_drew ?_)))
   (case side2=>exact HC0.out)
   rintro e w11 ⟨rfl,hb⟩
   refine ⟨_,rfl,?_⟩
   have n0_:=Aside0.mk (blk_below (g:=gb491) (o:=.cells #[.int .i64 a1_0,.int .i64 a1_1,.slice A1_2 l1_2.length c1_2] 25 (0,0)) (by (with_reducible repeat (first | refine blk_drewN ?_ _ | refine blk_drew ?_ | refine blk_alloc ?_ _));exact BK491.out) hb)
   have n1_:=Aside0.mk (below_step (by repeat (first | (with_reducible first | exact HB.out | apply below_alloc | apply pw_below_drewN | apply below_drew1 | refine below_set ?_ GE491.out) | exact HB.out)) hb)
   clear BK491
   clear HB
   have BK491:=n0_
   have HB:=n1_
   clear n0_ n1_
   (try clear hb)
   (try clear hb2)
   (try clear hk)
   (try clear hi)
   refine hK.out _ _ ⟨(blk_cell BK491.out 0).trans rfl,(blk_cell BK491.out 1).trans rfl,(blk_cell BK491.out 2).trans rfl⟩ (fun hHeld=>?_)
   clear hK K
   refine norm_ (a':=?_) ?_ ?_
   rotate_left
   ·show Act.put _ (some 6) _ = _
    simp only [Act.put,List.setIfInBounds_toArray,List.set_cons_zero,List.set_cons_succ,i64_w,i32_w]
    rfl
   refine pure_ (i:=2) (N:=some 7) (v:=?_) (a':=?_) #[true,true,true,false,false,false,false,false,false,false,false,false,false] rfl rfl (any_of HT_.out (by kernel_rfl)) (fun _ _ _ h=>h) (Or.inl ⟨by rfl,?_⟩) ?_ ?_
   rotate_left;·intro w';go_simp;with_reducible rfl
   rotate_left;·simp only [Act.put,List.setIfInBounds_toArray,List.set_cons_zero,List.set_cons_succ,i64_w,i32_w];rfl
   refine take_ (i:=3) (N:=some 8) (v:=?_) (a':=?_) #[true,true,true,true,false,false,false,false,false,false,false,false,false] rfl rfl (take_ofW HT_.out HW_.out (by kernel_rfl)) (fun _ _ _ h=>h) (Or.inl ⟨by rfl,?_⟩) hHeld ?_ ?_
   rotate_left;·rintro w' ⟨s0,s1,s2⟩;go_simp;with_reducible rfl
   rotate_left;·simp only [Act.put,List.setIfInBounds_toArray,List.set_cons_zero,List.set_cons_succ,i64_w,i32_w];rfl
   refine one_ (i:=4) (N:=some 9) #[true,true,true,true,true,false,false,false,false,false,false,false,false] rfl rfl (one_of HT_.out (by kernel_rfl)) (by decide) (fun K hK=>?_)
   refine goes_ Tryd.func15 (by kernel_rfl) rfl #[.agg #[.int .i64 a1_0,.int .i64 a1_1,.slice A1_2 l1_2.length c1_2]] (by rfl) rfl rfl (by (try simp only [List.map_toArray,List.map_cons,List.map_nil]);first | done | rfl | (simp only [List.length_drop,List.length_take];rfl)) ?_
   with_reducible refine (spec_SealOk.calls k a1_0 a1_1 _ _ l1_2 true _ ?side1 ?side2 A5.out).mono ?_
   (case side1=>repeat (first | exact (Kd.C_below HR1_2.out HB.out) | (with_reducible refine Kd.C_alloc ?_ _) | (with_reducible refine Kd.C_drewN ?_ _) | (with_reducible refine Kd.C_drew ?_)))
   (case side2=>exact HC1_2.out)
   rintro e w12 ⟨rfl,hb⟩
   refine ⟨_,rfl,?_⟩
   have n0_:=Aside0.mk (blk_below (g:=gb491) (o:=.cells #[.int .i64 a1_0,.int .i64 a1_1,.slice A1_2 l1_2.length c1_2] 25 (0,0)) (by (with_reducible repeat (first | refine blk_drewN ?_ _ | refine blk_drew ?_ | refine blk_alloc ?_ _));exact BK491.out) hb)
   have n1_:=Aside0.mk (below_step (by repeat (first | (with_reducible first | exact HB.out | apply below_alloc | apply pw_below_drewN | apply below_drew1 | refine below_set ?_ GE491.out) | exact HB.out)) hb)
   clear BK491
   clear HB
   have BK491:=n0_
   have HB:=n1_
   clear n0_ n1_
   (try clear hb)
   (try clear hb2)
   (try clear hk)
   (try clear hi)
   refine hK.out _ _ ⟨(blk_cell BK491.out 0).trans rfl,(blk_cell BK491.out 1).trans rfl,(blk_cell BK491.out 2).trans rfl⟩ (fun hHeld=>?_)
   clear hK K
   refine norm_ (a':=?_) ?_ ?_
   rotate_left
   ·show Act.put _ (some 9) _ = _
    simp only [Act.put,List.setIfInBounds_toArray,List.set_cons_zero,List.set_cons_succ,i64_w,i32_w]
    rfl
   refine pure_ (i:=5) (N:=some 10) (v:=?_) (a':=?_) #[true,true,true,true,true,true,false,false,false,false,false,false,false] rfl rfl (any_of HT_.out (by kernel_rfl)) (fun _ _ _ h=>h) (Or.inl ⟨by rfl,?_⟩) ?_ ?_
   rotate_left;·intro w';go_simp;with_reducible rfl
   rotate_left;·simp only [Act.put,List.setIfInBounds_toArray,List.set_cons_zero,List.set_cons_succ,i64_w,i32_w];rfl
   refine pure_ (i:=6) (N:=some 11) (v:=?_) (a':=?_) #[true,true,true,true,true,true,true,false,false,false,false,false,false] rfl rfl (any_of HT_.out (by kernel_rfl)) (fun _ _ _ h=>h) (Or.inl ⟨by rfl,?_⟩) ?_ ?_
   rotate_left;·intro w';go_simp;with_reducible rfl
   rotate_left;·simp only [Act.put,List.setIfInBounds_toArray,List.set_cons_zero,List.set_cons_succ,i64_w,i32_w];rfl
   refine pure_ (i:=7) (N:=some 12) (v:=?_) (a':=?_) #[true,true,true,true,true,true,true,true,false,false,false,false,false] rfl rfl (any_of HT_.out (by kernel_rfl)) (fun _ _ _ h=>h) (Or.inl ⟨by rfl,?_⟩) ?_ ?_
   rotate_left;·intro w';go_simp;with_reducible rfl
   rotate_left;·simp only [Act.put,List.setIfInBounds_toArray,List.set_cons_zero,List.set_cons_succ,i64_w,i32_w];rfl
   refine take_ (i:=9) (N:=some 14) (v:=?_) (a':=?_) #[true,true,true,true,true,true,true,true,false,true,false,false,false] rfl rfl (take_ofW HT_.out HW_.out (by kernel_rfl)) (fun _ _ _ h=>h) (Or.inl ⟨by rfl,?_⟩) hHeld ?_ ?_
   rotate_left;·rintro w' ⟨s0,s1,s2⟩;go_simp;with_reducible rfl
   rotate_left;·simp only [Act.put,List.setIfInBounds_toArray,List.set_cons_zero,List.set_cons_succ,i64_w,i32_w];rfl
   refine one_ (i:=8) (N:=some 13) #[true,true,true,true,true,true,true,true,true,true,false,false,false] rfl rfl (one_of HT_.out (by kernel_rfl)) (by decide) (fun K hK=>?_)
   refine goes_ Tryd.func53 (by kernel_rfl) rfl #[.slice A0 l0.length c0] (by rfl) rfl rfl (by (try simp only [List.map_toArray,List.map_cons,List.map_nil]);first | done | rfl | (simp only [List.length_drop,List.length_take];rfl)) ?_
   with_reducible refine (spec_l20Apart.calls k (fun k_=>k_ < w.heap.size) _ _ l0 t494 _ ?side1 A7.out).mono ?_
   (case side1=>exact Kd.V_mk HC0.out (Kd.F_below (Kd.C_F k25_heap HR0.out) (by repeat (first | (with_reducible first | exact HB.out | apply below_alloc | apply pw_below_drewN | apply below_drew1 | refine below_set ?_ GE491.out) | exact HB.out))))
   rintro e w13 ⟨v495,rfl,ho0,hb⟩
   refine ⟨_,rfl,?_⟩
   have n0_:=Aside0.mk (Kd.N_lower (Kd.N_mono (ok':=fun k_=>k_ ≠ gb491) ho0 (fun k_ hk_=>Or.elim hk_ (fun hs_=>fun e_=>Nat.not_le.2 hs_ (by rw [e_];exact GW491.out)) (fun hn_=>(Kd.freshB (g:=gb491) (o:=.cells #[.int .i64 a1_0,.int .i64 a1_1,.slice A1_2 l1_2.length c1_2] 25 (0,0)) (by (with_reducible repeat (first | refine blk_drewN ?_ _ | refine blk_drew ?_ | refine blk_alloc ?_ _));exact BK491.out) k_ hn_)))) (below_size (by repeat (first | (with_reducible first | exact HB.out | apply below_alloc | apply pw_below_drewN | apply below_drew1 | refine below_set ?_ GE491.out) | exact HB.out))))
   have n1_:=Aside0.mk (blk_below (g:=gb491) (o:=.cells #[.int .i64 a1_0,.int .i64 a1_1,.slice A1_2 l1_2.length c1_2] 25 (0,0)) (by (with_reducible repeat (first | refine blk_drewN ?_ _ | refine blk_drew ?_ | refine blk_alloc ?_ _));exact BK491.out) hb)
   have n2_:=Aside0.mk (below_step (by repeat (first | (with_reducible first | exact HB.out | apply below_alloc | apply pw_below_drewN | apply below_drew1 | refine below_set ?_ GE491.out) | exact HB.out)) hb)
   clear BK491
   clear HB
   have HO496:=n0_
   have BK491:=n1_
   have HB:=n2_
   clear n0_ n1_ n2_
   (try clear hb)
   (try clear hb2)
   (try clear hk)
   (try clear hi)
   (try clear ho0)
   obtain ⟨Ao14,co14,eo14⟩:=Kd.N_slice HO496.out
   (first | subst eo14 | (injection eo14 with f1_ f2_ f3_;have f4_:=f1_.symm;have f5_:=f3_.symm;clear f1_ f2_ f3_;subst f4_;subst f5_))
   refine hK.out _ _ ⟨(blk_cell BK491.out 0).trans rfl,(blk_cell BK491.out 1).trans rfl,(blk_cell BK491.out 2).trans rfl⟩ (fun hHeld=>?_)
   clear hK K
   refine norm_ (a':=?_) ?_ ?_
   rotate_left
   ·show Act.put _ (some 13) _ = _
    simp only [Act.put,List.setIfInBounds_toArray,List.set_cons_zero,List.set_cons_succ,i64_w,i32_w]
    rfl
   refine one_ (i:=10) (N:=some 15) #[true,true,true,true,true,true,true,true,true,true,true,false,false] rfl rfl (one_of HT_.out (by kernel_rfl)) (by decide) (fun K hK=>?_)
   refine goes_ Tryd.func52 (by kernel_rfl) rfl #[.slice Ao14 t494.length co14,.agg #[.int .i64 a1_0,.int .i64 a1_1,.slice A1_2 l1_2.length c1_2]] (by rfl) rfl rfl (by (try simp only [List.map_toArray,List.map_cons,List.map_nil]);first | done | rfl | (simp only [List.length_drop,List.length_take];rfl)) ?_
   with_reducible refine (spec_l20Made.calls k _ _ t494 a1_0 a1_1 _ _ l1_2 t497 _ ?side1 ?side2 ?side3 ?side4 A8.out).mono ?_
   (case side1=>repeat (first | exact (Kd.N_reads' HO496.out).2.2 | (with_reducible refine Kd.C_alloc ?_ _) | (with_reducible refine Kd.C_drewN ?_ _) | (with_reducible refine Kd.C_drew ?_)))
   (case side2=>exact (Kd.N_reads' HO496.out).2.1)
   (case side3=>repeat (first | exact (Kd.C_below HR1_2.out HB.out) | (with_reducible refine Kd.C_alloc ?_ _) | (with_reducible refine Kd.C_drewN ?_ _) | (with_reducible refine Kd.C_drew ?_)))
   (case side4=>exact HC1_2.out)
   rintro e w15 ⟨rfl,hb⟩
   refine ⟨_,rfl,?_⟩
   have n0_:=Aside0.mk (Kd.N_below (by (with_reducible repeat (first | apply Kd.N_alloc | apply Kd.N_drewN | apply Kd.N_drew));exact HO496.out) hb)
   have n1_:=Aside0.mk (blk_below (g:=gb491) (o:=.cells #[.int .i64 a1_0,.int .i64 a1_1,.slice A1_2 l1_2.length c1_2] 25 (0,0)) (by (with_reducible repeat (first | refine blk_drewN ?_ _ | refine blk_drew ?_ | refine blk_alloc ?_ _));exact BK491.out) hb)
   have n2_:=Aside0.mk (below_step (by repeat (first | (with_reducible first | exact HB.out | apply below_alloc | apply pw_below_drewN | apply below_drew1 | refine below_set ?_ GE491.out) | exact HB.out)) hb)
   clear HO496
   clear BK491
   clear HB
   have HO496:=n0_
   have BK491:=n1_
   have HB:=n2_
   clear n0_ n1_ n2_
   (try clear hb)
   (try clear hb2)
   (try clear hk)
   (try clear hi)
   refine hK.out _ _ ⟨(blk_cell BK491.out 0).trans rfl,(blk_cell BK491.out 1).trans rfl,(blk_cell BK491.out 2).trans rfl⟩ (fun hHeld=>?_)
   clear hK K
   refine norm_ (a':=?_) ?_ ?_
   rotate_left
   ·show Act.put _ (some 15) _ = _
    simp only [Act.put,List.setIfInBounds_toArray,List.set_cons_zero,List.set_cons_succ,i64_w,i32_w]
    rfl
   refine pure_ (i:=11) (N:=some 16) (v:=?_) (a':=?_) #[true,true,true,true,true,true,true,true,true,true,true,true,false] rfl rfl (any_of HT_.out (by kernel_rfl)) (fun _ _ _ h=>h) (Or.inl ⟨by rfl,?_⟩) ?_ ?_
   rotate_left;·intro w';go_simp;with_reducible rfl
   rotate_left;·simp only [Act.put,List.setIfInBounds_toArray,List.set_cons_zero,List.set_cons_succ,i64_w,i32_w];rfl
   refine pure_ (i:=12) (N:=some 4) (v:=?_) (a':=?_) #[true,true,true,true,true,true,true,true,true,true,true,true,true] rfl rfl (any_of HT_.out (by kernel_rfl)) (fun _ _ _ h=>h) (Or.inl ⟨by rfl,?_⟩) ?_ ?_
   rotate_left;·intro w';go_simp;with_reducible rfl
   rotate_left;·simp only [Act.put,List.setIfInBounds_toArray,List.set_cons_zero,List.set_cons_succ,i64_w,i32_w];rfl
   refine done_ (done_of HT_.out (by kernel_rfl)) ?_
   try go_wp2
   go_ret
   exact ⟨by first | rfl | (simp [errW_none,errW_some] <;> rfl) | (simp [*,errW_none,errW_some] <;> rfl),by repeat (first | (with_reducible first | exact HB.out | apply below_alloc | apply pw_below_drewN | apply below_drew1 | refine below_set ?_ GE491.out) | exact HB.out)⟩
  ·replace c6:=Bool.eq_false_iff.mpr c6
   subst c6
   have H1:(some false) = some r:=by rw [if_neg (show ¬ (false = true) by decide)] at H;exact H
   clear H
   have H:=H1
   clear H1
   obtain rfl:=Option.some.inj H
   go_enter Tryd.func26,Tryd.ntmps26
   try go_wp2_with (first | ((with_reducible refine gate_dst (N:=3) rfl ?_);refine box_event ?hg (N:=3) ?hd (cs:=#[.int .i64 a1_0,.int .i64 a1_1,.slice A1_2 l1_2.length c1_2]) (t:=25) ?hr ?_;(case hd=>rfl);(case hg=>rfl);(case hr=>first | (go_simp;done) | (go_simp;rfl));intro gb491 hg w16 hbox hb;have n0_:=Aside0.mk (below_step (by repeat (first | (with_reducible first | exact HB.out | apply below_alloc | apply pw_below_drewN | apply below_drew1) | exact HB.out)) hb);have n1_:=Aside0.mk (hbox);have n2_:=Aside0.mk ((by rw [hg];exact (below_size (by repeat (first | (with_reducible first | exact HB.out | apply below_alloc | apply pw_below_drewN | apply below_drew1) | exact HB.out))):w.heap.size ≤ gb491));have n3_:=Aside0.mk ((by rw [hg];exact (below_size (by repeat (first | (with_reducible first | exact HB.out | apply below_alloc | apply pw_below_drewN | apply below_drew1) | exact HB.out))):w.heap.size ≤ gb491));clear HB;have HB:=n0_;have BK491:=n1_;have GW491:=n2_;have GE491:=n3_;clear n0_ n1_ n2_ n3_;clear hb hbox hg))
   have n0_:=Aside0.mk (blk_drew BK491.out)
   have n1_:=Aside0.mk (below_drew1 HB.out)
   clear BK491
   clear HB
   have BK491:=n0_
   have HB:=n1_
   clear n0_ n1_
   refine start_ (n:=13) (S:=fun w'=>w'.cell? ⟨gb491,0,none⟩ = some (.int .i64 a1_0)∧w'.cell? ⟨gb491,1,none⟩ = some (.int .i64 a1_1)∧w'.cell? ⟨gb491,2,none⟩ = some (.slice A1_2 l1_2.length c1_2)) (ds:=[]) #[false,false,false,false,false,false,false,false,false,false,false,false,false] (by kernel_rfl) rfl rfl ⟨(blk_cell BK491.out 0).trans rfl,(blk_cell BK491.out 1).trans rfl,(blk_cell BK491.out 2).trans rfl⟩ (fun hHeld=>?_);refine with_tabW spec_SealMade.tab1 spec_SealMade.bits1 (fun HT_ HW_=>?_)
   generalize w16.drew = w17 at BK491 HB hHeld ⊢
   refine pure_ (i:=0) (N:=some 5) (v:=?_) (a':=?_) #[true,false,false,false,false,false,false,false,false,false,false,false,false] rfl rfl (any_of HT_.out (by kernel_rfl)) (fun _ _ _ h=>h) (Or.inl ⟨by rfl,?_⟩) ?_ ?_
   rotate_left;·intro w';go_simp;with_reducible rfl
   rotate_left;·simp only [Act.put,List.setIfInBounds_toArray,List.set_cons_zero,List.set_cons_succ,i64_w,i32_w];rfl
   refine one_ (i:=1) (N:=some 6) #[true,true,false,false,false,false,false,false,false,false,false,false,false] rfl rfl (one_of HT_.out (by kernel_rfl)) (by decide) (fun K hK=>?_)
   refine goes_ Tryd.func51 (by kernel_rfl) rfl #[.slice A0 l0.length c0] (by rfl) rfl rfl (by (try simp only [List.map_toArray,List.map_cons,List.map_nil]);first | done | rfl | (simp only [List.length_drop,List.length_take];rfl)) ?_
   with_reducible refine (spec_l20Known.calls k _ _ l0 true _ ?side1 ?side2 A3.out).mono ?_
   (case side1=>repeat (first | exact (Kd.C_below HR0.out HB.out) | (with_reducible refine Kd.C_alloc ?_ _) | (with_reducible refine Kd.C_drewN ?_ _) | (with_reducible refine Kd.C_drew ?_)))
   (case side2=>exact HC0.out)
   rintro e w18 ⟨rfl,hb⟩
   refine ⟨_,rfl,?_⟩
   have n0_:=Aside0.mk (blk_below (g:=gb491) (o:=.cells #[.int .i64 a1_0,.int .i64 a1_1,.slice A1_2 l1_2.length c1_2] 25 (0,0)) (by (with_reducible repeat (first | refine blk_drewN ?_ _ | refine blk_drew ?_ | refine blk_alloc ?_ _));exact BK491.out) hb)
   have n1_:=Aside0.mk (below_step (by repeat (first | (with_reducible first | exact HB.out | apply below_alloc | apply pw_below_drewN | apply below_drew1 | refine below_set ?_ GE491.out) | exact HB.out)) hb)
   clear BK491
   clear HB
   have BK491:=n0_
   have HB:=n1_
   clear n0_ n1_
   (try clear hb)
   (try clear hb2)
   (try clear hk)
   (try clear hi)
   refine hK.out _ _ ⟨(blk_cell BK491.out 0).trans rfl,(blk_cell BK491.out 1).trans rfl,(blk_cell BK491.out 2).trans rfl⟩ (fun hHeld=>?_)
   clear hK K
   refine norm_ (a':=?_) ?_ ?_
   rotate_left
   ·show Act.put _ (some 6) _ = _
    simp only [Act.put,List.setIfInBounds_toArray,List.set_cons_zero,List.set_cons_succ,i64_w,i32_w]
    rfl
   refine pure_ (i:=2) (N:=some 7) (v:=?_) (a':=?_) #[true,true,true,false,false,false,false,false,false,false,false,false,false] rfl rfl (any_of HT_.out (by kernel_rfl)) (fun _ _ _ h=>h) (Or.inl ⟨by rfl,?_⟩) ?_ ?_
   rotate_left;·intro w';go_simp;with_reducible rfl
   rotate_left;·simp only [Act.put,List.setIfInBounds_toArray,List.set_cons_zero,List.set_cons_succ,i64_w,i32_w];rfl
   refine take_ (i:=3) (N:=some 8) (v:=?_) (a':=?_) #[true,true,true,true,false,false,false,false,false,false,false,false,false] rfl rfl (take_ofW HT_.out HW_.out (by kernel_rfl)) (fun _ _ _ h=>h) (Or.inl ⟨by rfl,?_⟩) hHeld ?_ ?_
   rotate_left;·rintro w' ⟨s0,s1,s2⟩;go_simp;with_reducible rfl
   rotate_left;·simp only [Act.put,List.setIfInBounds_toArray,List.set_cons_zero,List.set_cons_succ,i64_w,i32_w];rfl
   refine one_ (i:=4) (N:=some 9) #[true,true,true,true,true,false,false,false,false,false,false,false,false] rfl rfl (one_of HT_.out (by kernel_rfl)) (by decide) (fun K hK=>?_)
   refine goes_ Tryd.func15 (by kernel_rfl) rfl #[.agg #[.int .i64 a1_0,.int .i64 a1_1,.slice A1_2 l1_2.length c1_2]] (by rfl) rfl rfl (by (try simp only [List.map_toArray,List.map_cons,List.map_nil]);first | done | rfl | (simp only [List.length_drop,List.length_take];rfl)) ?_
   with_reducible refine (spec_SealOk.calls k a1_0 a1_1 _ _ l1_2 false _ ?side1 ?side2 A5.out).mono ?_
   (case side1=>repeat (first | exact (Kd.C_below HR1_2.out HB.out) | (with_reducible refine Kd.C_alloc ?_ _) | (with_reducible refine Kd.C_drewN ?_ _) | (with_reducible refine Kd.C_drew ?_)))
   (case side2=>exact HC1_2.out)
   rintro e w19 ⟨rfl,hb⟩
   refine ⟨_,rfl,?_⟩
   have n0_:=Aside0.mk (blk_below (g:=gb491) (o:=.cells #[.int .i64 a1_0,.int .i64 a1_1,.slice A1_2 l1_2.length c1_2] 25 (0,0)) (by (with_reducible repeat (first | refine blk_drewN ?_ _ | refine blk_drew ?_ | refine blk_alloc ?_ _));exact BK491.out) hb)
   have n1_:=Aside0.mk (below_step (by repeat (first | (with_reducible first | exact HB.out | apply below_alloc | apply pw_below_drewN | apply below_drew1 | refine below_set ?_ GE491.out) | exact HB.out)) hb)
   clear BK491
   clear HB
   have BK491:=n0_
   have HB:=n1_
   clear n0_ n1_
   (try clear hb)
   (try clear hb2)
   (try clear hk)
   (try clear hi)
   refine hK.out _ _ ⟨(blk_cell BK491.out 0).trans rfl,(blk_cell BK491.out 1).trans rfl,(blk_cell BK491.out 2).trans rfl⟩ (fun hHeld=>?_)
   clear hK K
   refine norm_ (a':=?_) ?_ ?_
   rotate_left
   ·show Act.put _ (some 9) _ = _
    simp only [Act.put,List.setIfInBounds_toArray,List.set_cons_zero,List.set_cons_succ,i64_w,i32_w]
    rfl
   refine pure_ (i:=5) (N:=some 10) (v:=?_) (a':=?_) #[true,true,true,true,true,true,false,false,false,false,false,false,false] rfl rfl (any_of HT_.out (by kernel_rfl)) (fun _ _ _ h=>h) (Or.inl ⟨by rfl,?_⟩) ?_ ?_
   rotate_left;·intro w';go_simp;with_reducible rfl
   rotate_left;·simp only [Act.put,List.setIfInBounds_toArray,List.set_cons_zero,List.set_cons_succ,i64_w,i32_w];rfl
   refine pure_ (i:=6) (N:=some 11) (v:=?_) (a':=?_) #[true,true,true,true,true,true,true,false,false,false,false,false,false] rfl rfl (any_of HT_.out (by kernel_rfl)) (fun _ _ _ h=>h) (Or.inl ⟨by rfl,?_⟩) ?_ ?_
   rotate_left;·intro w';go_simp;with_reducible rfl
   rotate_left;·simp only [Act.put,List.setIfInBounds_toArray,List.set_cons_zero,List.set_cons_succ,i64_w,i32_w];rfl
   refine pure_ (i:=7) (N:=some 12) (v:=undef) (a':=?_) #[true,true,true,true,true,true,true,true,false,false,false,false,false] rfl rfl (any_of HT_.out (by kernel_rfl)) (fun _ _ _ h=>h) (Or.inr ⟨by rfl,rfl⟩) ?_ ?_
   rotate_left;·simp only [Act.put,List.setIfInBounds_toArray,List.set_cons_zero,List.set_cons_succ,i64_w,i32_w];rfl
   refine pure_ (i:=8) (N:=some 13) (v:=undef) (a':=?_) #[true,true,true,true,true,true,true,true,true,false,false,false,false] rfl rfl (any_of HT_.out (by kernel_rfl)) (fun _ _ _ h=>h) (Or.inr ⟨by rfl,rfl⟩) ?_ ?_
   rotate_left;·simp only [Act.put,List.setIfInBounds_toArray,List.set_cons_zero,List.set_cons_succ,i64_w,i32_w];rfl
   refine pure_ (i:=9) (N:=some 14) (v:=undef) (a':=?_) #[true,true,true,true,true,true,true,true,true,true,false,false,false] rfl rfl (any_of HT_.out (by kernel_rfl)) (fun _ _ _ h=>h) (Or.inr ⟨by rfl,rfl⟩) ?_ ?_
   rotate_left;·simp only [Act.put,List.setIfInBounds_toArray,List.set_cons_zero,List.set_cons_succ,i64_w,i32_w];rfl
   refine pure_ (i:=10) (N:=some 15) (v:=undef) (a':=?_) #[true,true,true,true,true,true,true,true,true,true,true,false,false] rfl rfl (any_of HT_.out (by kernel_rfl)) (fun _ _ _ h=>h) (Or.inr ⟨by rfl,rfl⟩) ?_ ?_
   rotate_left;·simp only [Act.put,List.setIfInBounds_toArray,List.set_cons_zero,List.set_cons_succ,i64_w,i32_w];rfl
   refine pure_ (i:=11) (N:=some 16) (v:=?_) (a':=?_) #[true,true,true,true,true,true,true,true,true,true,true,true,false] rfl rfl (any_of HT_.out (by kernel_rfl)) (fun _ _ _ h=>h) (Or.inl ⟨by rfl,?_⟩) ?_ ?_
   rotate_left;·intro w';go_simp;with_reducible rfl
   rotate_left;·simp only [Act.put,List.setIfInBounds_toArray,List.set_cons_zero,List.set_cons_succ,i64_w,i32_w];rfl
   refine pure_ (i:=12) (N:=some 4) (v:=?_) (a':=?_) #[true,true,true,true,true,true,true,true,true,true,true,true,true] rfl rfl (any_of HT_.out (by kernel_rfl)) (fun _ _ _ h=>h) (Or.inl ⟨by rfl,?_⟩) ?_ ?_
   rotate_left;·intro w';go_simp;with_reducible rfl
   rotate_left;·simp only [Act.put,List.setIfInBounds_toArray,List.set_cons_zero,List.set_cons_succ,i64_w,i32_w];rfl
   refine done_ (done_of HT_.out (by kernel_rfl)) ?_
   try go_wp2
   go_ret
   exact ⟨by first | rfl | (simp [errW_none,errW_some] <;> rfl) | (simp [*,errW_none,errW_some] <;> rfl),by repeat (first | (with_reducible first | exact HB.out | apply below_alloc | apply pw_below_drewN | apply below_drew1 | refine below_set ?_ GE491.out) | exact HB.out)⟩
 ·replace c4:=Bool.eq_false_iff.mpr c4
  subst c4
  have H1:(some false) = some r:=by rw [if_neg (show ¬ (false = true) by decide)] at H;exact H
  clear H
  have H:=H1
  clear H1
  obtain rfl:=Option.some.inj H
  go_enter Tryd.func26,Tryd.ntmps26
  try go_wp2_with (first | ((with_reducible refine gate_dst (N:=3) rfl ?_);refine box_event ?hg (N:=3) ?hd (cs:=#[.int .i64 a1_0,.int .i64 a1_1,.slice A1_2 l1_2.length c1_2]) (t:=25) ?hr ?_;(case hd=>rfl);(case hg=>rfl);(case hr=>first | (go_simp;done) | (go_simp;rfl));intro gb491 hg w20 hbox hb;have n0_:=Aside0.mk (below_step (by repeat (first | (with_reducible first | exact HB.out | apply below_alloc | apply pw_below_drewN | apply below_drew1) | exact HB.out)) hb);have n1_:=Aside0.mk (hbox);have n2_:=Aside0.mk ((by rw [hg];exact (below_size (by repeat (first | (with_reducible first | exact HB.out | apply below_alloc | apply pw_below_drewN | apply below_drew1) | exact HB.out))):w.heap.size ≤ gb491));have n3_:=Aside0.mk ((by rw [hg];exact (below_size (by repeat (first | (with_reducible first | exact HB.out | apply below_alloc | apply pw_below_drewN | apply below_drew1) | exact HB.out))):w.heap.size ≤ gb491));clear HB;have HB:=n0_;have BK491:=n1_;have GW491:=n2_;have GE491:=n3_;clear n0_ n1_ n2_ n3_;clear hb hbox hg))
  have n0_:=Aside0.mk (blk_drew BK491.out)
  have n1_:=Aside0.mk (below_drew1 HB.out)
  clear BK491
  clear HB
  have BK491:=n0_
  have HB:=n1_
  clear n0_ n1_
  refine start_ (n:=13) (S:=fun w'=>True) (ds:=[]) #[false,false,false,false,false,false,false,false,false,false,false,false,false] (by kernel_rfl) rfl rfl trivial (fun hHeld=>?_);refine with_tabW spec_SealMade.tab1 spec_SealMade.bits1 (fun HT_ HW_=>?_)
  generalize w20.drew = w21 at BK491 HB hHeld ⊢
  refine pure_ (i:=0) (N:=some 5) (v:=?_) (a':=?_) #[true,false,false,false,false,false,false,false,false,false,false,false,false] rfl rfl (any_of HT_.out (by kernel_rfl)) (fun _ _ _ h=>h) (Or.inl ⟨by rfl,?_⟩) ?_ ?_
  rotate_left;·intro w';go_simp;with_reducible rfl
  rotate_left;·simp only [Act.put,List.setIfInBounds_toArray,List.set_cons_zero,List.set_cons_succ,i64_w,i32_w];rfl
  refine one_ (i:=1) (N:=some 6) #[true,true,false,false,false,false,false,false,false,false,false,false,false] rfl rfl (one_of HT_.out (by kernel_rfl)) (by decide) (fun K hK=>?_)
  refine goes_ Tryd.func51 (by kernel_rfl) rfl #[.slice A0 l0.length c0] (by rfl) rfl rfl (by (try simp only [List.map_toArray,List.map_cons,List.map_nil]);first | done | rfl | (simp only [List.length_drop,List.length_take];rfl)) ?_
  with_reducible refine (spec_l20Known.calls k _ _ l0 false _ ?side1 ?side2 A3.out).mono ?_
  (case side1=>repeat (first | exact (Kd.C_below HR0.out HB.out) | (with_reducible refine Kd.C_alloc ?_ _) | (with_reducible refine Kd.C_drewN ?_ _) | (with_reducible refine Kd.C_drew ?_)))
  (case side2=>exact HC0.out)
  rintro e w22 ⟨rfl,hb⟩
  refine ⟨_,rfl,?_⟩
  have n0_:=Aside0.mk (blk_below (g:=gb491) (o:=.cells #[.int .i64 a1_0,.int .i64 a1_1,.slice A1_2 l1_2.length c1_2] 25 (0,0)) (by (with_reducible repeat (first | refine blk_drewN ?_ _ | refine blk_drew ?_ | refine blk_alloc ?_ _));exact BK491.out) hb)
  have n1_:=Aside0.mk (below_step (by repeat (first | (with_reducible first | exact HB.out | apply below_alloc | apply pw_below_drewN | apply below_drew1 | refine below_set ?_ GE491.out) | exact HB.out)) hb)
  clear BK491
  clear HB
  have BK491:=n0_
  have HB:=n1_
  clear n0_ n1_
  (try clear hb)
  (try clear hb2)
  (try clear hk)
  (try clear hi)
  refine hK.out _ _ trivial (fun hHeld=>?_)
  clear hK K
  refine norm_ (a':=?_) ?_ ?_
  rotate_left
  ·show Act.put _ (some 6) _ = _
   simp only [Act.put,List.setIfInBounds_toArray,List.set_cons_zero,List.set_cons_succ,i64_w,i32_w]
   rfl
  refine pure_ (i:=2) (N:=some 7) (v:=?_) (a':=?_) #[true,true,true,false,false,false,false,false,false,false,false,false,false] rfl rfl (any_of HT_.out (by kernel_rfl)) (fun _ _ _ h=>h) (Or.inl ⟨by rfl,?_⟩) ?_ ?_
  rotate_left;·intro w';go_simp;with_reducible rfl
  rotate_left;·simp only [Act.put,List.setIfInBounds_toArray,List.set_cons_zero,List.set_cons_succ,i64_w,i32_w];rfl
  refine pure_ (i:=3) (N:=some 8) (v:=undef) (a':=?_) #[true,true,true,true,false,false,false,false,false,false,false,false,false] rfl rfl (any_of HT_.out (by kernel_rfl)) (fun _ _ _ h=>h) (Or.inr ⟨by rfl,rfl⟩) ?_ ?_
  rotate_left;·simp only [Act.put,List.setIfInBounds_toArray,List.set_cons_zero,List.set_cons_succ,i64_w,i32_w];rfl
  refine pure_ (i:=4) (N:=some 9) (v:=undef) (a':=?_) #[true,true,true,true,true,false,false,false,false,false,false,false,false] rfl rfl (any_of HT_.out (by kernel_rfl)) (fun _ _ _ h=>h) (Or.inr ⟨by rfl,rfl⟩) ?_ ?_
  rotate_left;·simp only [Act.put,List.setIfInBounds_toArray,List.set_cons_zero,List.set_cons_succ,i64_w,i32_w];rfl
  refine pure_ (i:=5) (N:=some 10) (v:=?_) (a':=?_) #[true,true,true,true,true,true,false,false,false,false,false,false,false] rfl rfl (any_of HT_.out (by kernel_rfl)) (fun _ _ _ h=>h) (Or.inl ⟨by rfl,?_⟩) ?_ ?_
  rotate_left;·intro w';go_simp;with_reducible rfl
  rotate_left;·simp only [Act.put,List.setIfInBounds_toArray,List.set_cons_zero,List.set_cons_succ,i64_w,i32_w];rfl
  refine pure_ (i:=6) (N:=some 11) (v:=?_) (a':=?_) #[true,true,true,true,true,true,true,false,false,false,false,false,false] rfl rfl (any_of HT_.out (by kernel_rfl)) (fun _ _ _ h=>h) (Or.inl ⟨by rfl,?_⟩) ?_ ?_
  rotate_left;·intro w';go_simp;with_reducible rfl
  rotate_left;·simp only [Act.put,List.setIfInBounds_toArray,List.set_cons_zero,List.set_cons_succ,i64_w,i32_w];rfl
  refine pure_ (i:=7) (N:=some 12) (v:=undef) (a':=?_) #[true,true,true,true,true,true,true,true,false,false,false,false,false] rfl rfl (any_of HT_.out (by kernel_rfl)) (fun _ _ _ h=>h) (Or.inr ⟨by rfl,rfl⟩) ?_ ?_
  rotate_left;·simp only [Act.put,List.setIfInBounds_toArray,List.set_cons_zero,List.set_cons_succ,i64_w,i32_w];rfl
  refine pure_ (i:=8) (N:=some 13) (v:=undef) (a':=?_) #[true,true,true,true,true,true,true,true,true,false,false,false,false] rfl rfl (any_of HT_.out (by kernel_rfl)) (fun _ _ _ h=>h) (Or.inr ⟨by rfl,rfl⟩) ?_ ?_
  rotate_left;·simp only [Act.put,List.setIfInBounds_toArray,List.set_cons_zero,List.set_cons_succ,i64_w,i32_w];rfl
  refine pure_ (i:=9) (N:=some 14) (v:=undef) (a':=?_) #[true,true,true,true,true,true,true,true,true,true,false,false,false] rfl rfl (any_of HT_.out (by kernel_rfl)) (fun _ _ _ h=>h) (Or.inr ⟨by rfl,rfl⟩) ?_ ?_
  rotate_left;·simp only [Act.put,List.setIfInBounds_toArray,List.set_cons_zero,List.set_cons_succ,i64_w,i32_w];rfl
  refine pure_ (i:=10) (N:=some 15) (v:=undef) (a':=?_) #[true,true,true,true,true,true,true,true,true,true,true,false,false] rfl rfl (any_of HT_.out (by kernel_rfl)) (fun _ _ _ h=>h) (Or.inr ⟨by rfl,rfl⟩) ?_ ?_
  rotate_left;·simp only [Act.put,List.setIfInBounds_toArray,List.set_cons_zero,List.set_cons_succ,i64_w,i32_w];rfl
  refine pure_ (i:=11) (N:=some 16) (v:=?_) (a':=?_) #[true,true,true,true,true,true,true,true,true,true,true,true,false] rfl rfl (any_of HT_.out (by kernel_rfl)) (fun _ _ _ h=>h) (Or.inl ⟨by rfl,?_⟩) ?_ ?_
  rotate_left;·intro w';go_simp;with_reducible rfl
  rotate_left;·simp only [Act.put,List.setIfInBounds_toArray,List.set_cons_zero,List.set_cons_succ,i64_w,i32_w];rfl
  refine pure_ (i:=12) (N:=some 4) (v:=?_) (a':=?_) #[true,true,true,true,true,true,true,true,true,true,true,true,true] rfl rfl (any_of HT_.out (by kernel_rfl)) (fun _ _ _ h=>h) (Or.inl ⟨by rfl,?_⟩) ?_ ?_
  rotate_left;·intro w';go_simp;with_reducible rfl
  rotate_left;·simp only [Act.put,List.setIfInBounds_toArray,List.set_cons_zero,List.set_cons_succ,i64_w,i32_w];rfl
  refine done_ (done_of HT_.out (by kernel_rfl)) ?_
  try go_wp2
  go_ret
  exact ⟨by first | rfl | (simp [errW_none,errW_some] <;> rfl) | (simp [*,errW_none,errW_some] <;> rfl),by repeat (first | (with_reducible first | exact HB.out | apply below_alloc | apply pw_below_drewN | apply below_drew1 | refine below_set ?_ GE491.out) | exact HB.out)⟩
def spec_DrawSealMade.f (k:Nat) (l0:List Int):Option ((List (S25)) × Int × Int × (List (S25))):=(spec_l6Open.f l0).bind fun bt531=>((spec_l92Asked.f k bt531.1 bt531.2).bind fun bt534=>(some (bt534.1,bt534.2.1,bt534.2.2.1,bt534.2.2.2.1)))
theorem spec_DrawSealMade.mono:∀ a0 k,LeO (spec_DrawSealMade.f k a0) (spec_DrawSealMade.f (k + 1) a0):=by
 intro a0 k
 unfold spec_DrawSealMade.f
 repeat' first
   | (with_reducible exact spec_l92Asked.mono _ _ _)
   | (with_reducible exact LeO.refl _)
   | (with_reducible exact LeO.none _)
   | (with_reducible refine LeO.ite ?_ ?_)
   | (with_reducible refine LeO.bind ?_ (fun _=>?_))
   | exact spec_l92Asked.mono _ _ _
   | exact LeO.none _
   | refine LeO.ite ?_ ?_
   | refine LeO.bind ?_ (fun _=>?_)
set_option maxHeartbeats 8000000 in
set_option maxRecDepth 100000 in
theorem spec_DrawSealMade.calls (k:Nat) (A0:Option Addr) (c0:Nat) (l0:List Int) (r1:List (S25)) (r2:Int) (r3:Int) (r4:List (S25)) (w:World) (hr0:Kd.C (Kd.int .u8) w A0 l0.length l0) (hc0:l0.length ≤ c0) (h:spec_DrawSealMade.f k l0 = some (r1,r2,r3,r4)) :
  Calls Tryd.prog 30 #[.slice A0 l0.length c0] w fun e w'=>∃ v0_ v3_:Value,e = .returned (.tuple #[v0_,.agg #[.int .i64 r2,.int .i64 r3,v3_]])∧Kd.N k25 25 w' w.heap.size (fun k_=>(w.heap.size ≤ k_)) v0_ r1∧Kd.V k25 25 w' w.heap.size (fun k_=>(w.heap.size ≤ k_)∧some k_ ≠ (v0_:Value).ownBlock) v3_ r4∧Below w.heap.size w w':=by
 have hu25:=Tryd.underlying25
 have HR0:=Aside0.mk hr0
 have HC0:=Aside0.mk hc0
 clear hr0 hc0
 have HB:=Aside0.mk (Below.refl w.heap.size w)
 have H:((spec_l6Open.f l0).bind fun bt531=>((spec_l92Asked.f k bt531.1 bt531.2).bind fun bt534=>(some (bt534.1,bt534.2.1,bt534.2.2.1,bt534.2.2.2.1)))) = some (r1,r2,r3,r4):=h
 clear h
 replace H:=Option.bind_eq_some_iff.mp H
 obtain ⟨⟨t531,t532⟩,A20,H⟩:=H
 replace H:((spec_l92Asked.f k t531 t532).bind fun bt534=>(some (bt534.1,bt534.2.1,bt534.2.2.1,bt534.2.2.2.1))) = some (r1,r2,r3,r4):=H
 have A2:=Aside0.mk A20
 clear A20
 replace H:=Option.bind_eq_some_iff.mp H
 obtain ⟨⟨t534,t537,t538,t539,t542⟩,A30,H⟩:=H
 replace H:(some (t534,t537,t538,t539)) = some (r1,r2,r3,r4):=H
 have A3:=Aside0.mk A30
 clear A30
 simp only [Option.some.injEq,Prod.mk.injEq] at H
 obtain ⟨rfl,rfl,rfl,rfl⟩:=H
 go_enter Tryd.func30,Tryd.ntmps30
 try go_wp2_with (first | ((with_reducible refine gate_dst (N:=3) rfl ?_);refine box_event ?hg (N:=3) ?hd (cs:=#[.int .i64 0,.int .i64 0,.slice none 0 0]) (t:=25) ?hr ?_;(case hd=>rfl);(case hg=>rfl);(case hr=>first | (go_simp;done) | (go_simp;rfl));intro gb530 hg w4 hbox hb;have n0_:=Aside0.mk (below_step (by repeat (first | (with_reducible first | exact HB.out | apply below_alloc | apply pw_below_drewN | apply below_drew1) | exact HB.out)) hb);have n1_:=Aside0.mk (hbox);have n2_:=Aside0.mk ((by rw [hg];exact (below_size (by repeat (first | (with_reducible first | exact HB.out | apply below_alloc | apply pw_below_drewN | apply below_drew1) | exact HB.out))):w.heap.size ≤ gb530));have n3_:=Aside0.mk ((by rw [hg];exact (below_size (by repeat (first | (with_reducible first | exact HB.out | apply below_alloc | apply pw_below_drewN | apply below_drew1) | exact HB.out))):w.heap.size ≤ gb530));clear HB;have HB:=n0_;have BK530:=n1_;have GW530:=n2_;have GE530:=n3_;clear n0_ n1_ n2_ n3_;clear hb hbox hg) | ((with_reducible refine gate_callee (f:=39) rfl ?_);refine goesL_ (some 8) rfl rfl Tryd.func39 (by kernel_rfl) rfl #[.slice A0 l0.length c0] rfl (by (try simp only [List.map_toArray,List.map_cons,List.map_nil]);first | done | rfl | (simp only [List.length_drop,List.length_take];rfl)) ?_;(with_reducible refine (spec_l6Open.calls _ _ l0 t531 t532 w _ ?side1 ?side2 ?side3 A2.out).mono ?_);(case side1=>repeat (first | (with_reducible first | exact HB.out | apply below_alloc | apply pw_below_drewN | apply below_drew1 | refine below_set ?_ GE530.out) | exact HB.out));(case side2=>exact HR0.out);(case side3=>exact HC0.out);rintro e w5 ⟨g533,rfl,hi,hb,hb2⟩;refine ⟨_,rfl,?_⟩;have n0_:=Aside0.mk (blk_below (g:=gb530) (o:=.cells #[.int .i64 0,.int .i64 0,.slice none 0 0] 25 (0,0)) (by (with_reducible repeat (first | refine blk_drewN ?_ _ | refine blk_drew ?_ | refine blk_alloc ?_ _));exact BK530.out) hb2);have n1_:=Aside0.mk (hb);have n2_:=Aside0.mk (hi);have n3_:=Aside0.mk (IsS73.ne_blk hi (blk_below (g:=gb530) (o:=.cells #[.int .i64 0,.int .i64 0,.slice none 0 0] 25 (0,0)) (by (with_reducible repeat (first | refine blk_drewN ?_ _ | refine blk_drew ?_ | refine blk_alloc ?_ _));exact BK530.out) hb2) (by decide));have n4_:=Aside0.mk (Ne.symm (IsS73.ne_blk hi (blk_below (g:=gb530) (o:=.cells #[.int .i64 0,.int .i64 0,.slice none 0 0] 25 (0,0)) (by (with_reducible repeat (first | refine blk_drewN ?_ _ | refine blk_drew ?_ | refine blk_alloc ?_ _));exact BK530.out) hb2) (by decide)));clear BK530;clear HB;have BK530:=n0_;have HB:=n1_;have HI533:=n2_;have NB533_530:=n3_;have NB530_533:=n4_;clear n0_ n1_ n2_ n3_ n4_;(try clear hb);(try clear hb2);(try clear hk);(try clear hi)) | ((with_reducible refine gate_callee (f:=50) rfl ?_);refine goesL_ (some 11) rfl rfl Tryd.func50 (by kernel_rfl) rfl #[.pointer (some ⟨g533,0,none⟩)] rfl (by (try simp only [List.map_toArray,List.map_cons,List.map_nil]);first | done | rfl | (simp only [List.length_drop,List.length_take];rfl)) ?_;(with_reducible refine (spec_l92Asked.calls k g533 t531 t532 t534 t537 t538 t539 t542 w _ ?side1 ?side2 A3.out).mono ?_);(case side1=>repeat (first | (with_reducible first | exact HI533.out | apply IsS73.alloc | apply IsS73.drewN | apply IsS73.drew | apply IsS73.set_1 | refine IsS73.far ?_ NB533_530.out _) | exact HI533.out));(case side2=>repeat (first | (with_reducible first | exact HB.out | apply below_alloc | apply pw_below_drewN | apply below_drew1 | refine below_set ?_ (IsS73.ge HI533.out) | refine below_set ?_ GE530.out) | exact HB.out));rintro e w6 ⟨v535,v540,rfl,ho0,ho1,hi,hb,hk⟩;refine ⟨_,rfl,?_⟩;have n0_:=Aside0.mk (KeepBut.blk hk (g':=gb530) (o:=.cells #[.int .i64 0,.int .i64 0,.slice none 0 0] 25 (0,0)) (by (with_reducible repeat (first | refine blk_drewN ?_ _ | refine blk_drew ?_ | refine blk_alloc ?_ _));exact BK530.out) NB530_533.out (by simp));have n1_:=Aside0.mk (Kd.N_lower (Kd.N_mono (ok':=fun k_=>(w.heap.size ≤ k_)∧k_ ≠ gb530∧k_ ≠ g533) ho0 (fun k_ hk_=>⟨(Nat.le_trans (below_size (by repeat (first | (with_reducible first | exact HB.out | apply below_alloc | apply pw_below_drewN | apply below_drew1 | refine below_set ?_ (IsS73.ge HI533.out) | refine below_set ?_ GE530.out) | exact HB.out))) hk_),(Kd.freshB (g:=gb530) (o:=.cells #[.int .i64 0,.int .i64 0,.slice none 0 0] 25 (0,0)) (by (with_reducible repeat (first | refine blk_drewN ?_ _ | refine blk_drew ?_ | refine blk_alloc ?_ _));exact BK530.out) k_ hk_),(IsS73.fresh (by repeat (first | (with_reducible first | exact HI533.out | apply IsS73.alloc | apply IsS73.drewN | apply IsS73.drew | apply IsS73.set_1 | refine IsS73.far ?_ NB533_530.out _) | exact HI533.out)) k_ hk_)⟩)) (below_size (by repeat (first | (with_reducible first | exact HB.out | apply below_alloc | apply pw_below_drewN | apply below_drew1 | refine below_set ?_ (IsS73.ge HI533.out) | refine below_set ?_ GE530.out) | exact HB.out))));have n2_:=Aside0.mk (Kd.V_lower (Kd.V_mono (ok':=fun k_=>(w.heap.size ≤ k_)∧some k_ ≠ (v535:Value).ownBlock∧k_ ≠ gb530∧k_ ≠ g533) ho1 (fun k_ hk_=>⟨(Nat.le_trans (below_size (by repeat (first | (with_reducible first | exact HB.out | apply below_alloc | apply pw_below_drewN | apply below_drew1 | refine below_set ?_ (IsS73.ge HI533.out) | refine below_set ?_ GE530.out) | exact HB.out))) hk_.1),hk_.2,(Kd.freshB (g:=gb530) (o:=.cells #[.int .i64 0,.int .i64 0,.slice none 0 0] 25 (0,0)) (by (with_reducible repeat (first | refine blk_drewN ?_ _ | refine blk_drew ?_ | refine blk_alloc ?_ _));exact BK530.out) k_ hk_.1),(IsS73.fresh (by repeat (first | (with_reducible first | exact HI533.out | apply IsS73.alloc | apply IsS73.drewN | apply IsS73.drew | apply IsS73.set_1 | refine IsS73.far ?_ NB533_530.out _) | exact HI533.out)) k_ hk_.1)⟩)) (below_size (by repeat (first | (with_reducible first | exact HB.out | apply below_alloc | apply pw_below_drewN | apply below_drew1 | refine below_set ?_ (IsS73.ge HI533.out) | refine below_set ?_ GE530.out) | exact HB.out))));have n3_:=Aside0.mk (hb);have n4_:=Aside0.mk (hi);clear BK530;clear HB;clear HI533;have BK530:=n0_;have HO536:=n1_;have HO541:=n2_;have HB:=n3_;have HI533:=n4_;clear n0_ n1_ n2_ n3_ n4_;(try clear hb);(try clear hb2);(try clear hk);(try clear hi);(try clear ho0);(try clear ho1)) | ((with_reducible refine gate_dst (N:=6) rfl ?_);refine box_event ?hg (N:=6) ?hd (cs:=#[.int .i64 0,.int .i64 0,.slice none 0 0]) (t:=25) ?hr ?_;(case hd=>rfl);(case hg=>rfl);(case hr=>first | (go_simp;done) | (go_simp;rfl));intro gb543 hg w7 hbox hb;have n0_:=Aside0.mk (Kd.N_below (Kd.N_elderB (by (with_reducible repeat (first | apply Kd.N_alloc | apply Kd.N_drewN | apply Kd.N_drew));exact HO536.out) gb543 (Nat.le_of_eq hg.symm)) hb);have n1_:=Aside0.mk (Kd.V_below (Kd.V_elderB (by (with_reducible repeat (first | apply Kd.V_alloc | apply Kd.V_drewN | apply Kd.V_drew));exact HO541.out) gb543 (Nat.le_of_eq hg.symm)) hb);have n2_:=Aside0.mk (blk_below (g:=gb530) (o:=.cells #[.int .i64 0,.int .i64 0,.slice none 0 0] 25 (0,0)) (by (with_reducible repeat (first | refine blk_drewN ?_ _ | refine blk_drew ?_ | refine blk_alloc ?_ _));exact BK530.out) hb);have n3_:=Aside0.mk (IsS73.below (by repeat (first | (with_reducible first | exact HI533.out | apply IsS73.alloc | apply IsS73.drewN | apply IsS73.drew | apply IsS73.set_1 | refine IsS73.far ?_ NB533_530.out _) | exact HI533.out)) hb);have n4_:=Aside0.mk (below_step (by repeat (first | (with_reducible first | exact HB.out | apply below_alloc | apply pw_below_drewN | apply below_drew1 | refine below_set ?_ (IsS73.ge HI533.out) | refine below_set ?_ GE530.out) | exact HB.out)) hb);have n5_:=Aside0.mk (hbox);have n6_:=Aside0.mk ((by rw [hg];exact (below_size (by repeat (first | (with_reducible first | exact HB.out | apply below_alloc | apply pw_below_drewN | apply below_drew1 | refine below_set ?_ (IsS73.ge HI533.out) | refine below_set ?_ GE530.out) | exact HB.out))):w.heap.size ≤ gb543));have n7_:=Aside0.mk ((by rw [hg];exact (below_size (by repeat (first | (with_reducible first | exact HB.out | apply below_alloc | apply pw_below_drewN | apply below_drew1 | refine below_set ?_ (IsS73.ge HI533.out) | refine below_set ?_ GE530.out) | exact HB.out))):w.heap.size ≤ gb543));have n8_:=Aside0.mk ((by rw [hg];exact Nat.ne_of_lt (blk_lt (g:=gb530) (o:=.cells #[.int .i64 0,.int .i64 0,.slice none 0 0] 25 (0,0)) (by (with_reducible repeat (first | refine blk_drewN ?_ _ | refine blk_drew ?_ | refine blk_alloc ?_ _));exact BK530.out)):gb530 ≠ gb543));have n9_:=Aside0.mk ((by rw [hg];exact Nat.ne_of_gt (blk_lt (g:=gb530) (o:=.cells #[.int .i64 0,.int .i64 0,.slice none 0 0] 25 (0,0)) (by (with_reducible repeat (first | refine blk_drewN ?_ _ | refine blk_drew ?_ | refine blk_alloc ?_ _));exact BK530.out)):gb543 ≠ gb530));have n10_:=Aside0.mk ((by rw [hg];exact Nat.ne_of_lt (IsS73.lt (show IsS73 w _ g533 t531 t542 from by repeat (first | (with_reducible first | exact HI533.out | apply IsS73.alloc | apply IsS73.drewN | apply IsS73.drew | apply IsS73.set_1 | refine IsS73.far ?_ NB533_530.out _) | exact HI533.out))):g533 ≠ gb543));have n11_:=Aside0.mk ((by rw [hg];exact Nat.ne_of_gt (IsS73.lt (show IsS73 w _ g533 t531 t542 from by repeat (first | (with_reducible first | exact HI533.out | apply IsS73.alloc | apply IsS73.drewN | apply IsS73.drew | apply IsS73.set_1 | refine IsS73.far ?_ NB533_530.out _) | exact HI533.out))):gb543 ≠ g533));clear HO536;clear HO541;clear BK530;clear HI533;clear HB;have HO536:=n0_;have HO541:=n1_;have BK530:=n2_;have HI533:=n3_;have HB:=n4_;have BK543:=n5_;have GW543:=n6_;have GE543:=n7_;have NB530_543:=n8_;have NB543_530:=n9_;have NB533_543:=n10_;have NB543_533:=n11_;clear n0_ n1_ n2_ n3_ n4_ n5_ n6_ n7_ n8_ n9_ n10_ n11_;clear hb hbox hg;have hnb8:=NB543_530.out;have hnc8:=NB530_543.out;have hnb9:=NB543_533.out;have hnc9:=NB533_543.out;have hcz10_0:w7.cell? ⟨gb543,0,none⟩ = some (.int .i64 0):=(blk_cell BK543.out 0).trans rfl;have hcz10_1:w7.cell? ⟨gb543,1,none⟩ = some (.int .i64 0):=(blk_cell BK543.out 1).trans rfl;have hcz10_2:w7.cell? ⟨gb543,2,none⟩ = some (.slice none 0 0):=(blk_cell BK543.out 2).trans rfl;have hfz10_0:=blk_frozen BK543.out 0;have hfz10_1:=blk_frozen BK543.out 1;have hfz10_2:=blk_frozen BK543.out 2;obtain ⟨Ao11,co11,eo11⟩:=Kd.V_slice HO541.out;subst eo11))
 have n0_:Aside0 (Kd.N k25 25 (((w7.setCell ⟨gb543,0,none⟩ (.int .i64 t537)).setCell ⟨gb543,1,none⟩ (.int .i64 t538)).setCell ⟨gb543,2,none⟩ (.slice Ao11 t539.length co11)) w.heap.size (fun k_=>(w.heap.size ≤ k_)∧k_ ≠ gb530∧k_ ≠ g533∧k_ ≠ gb543) v535 t534):=⟨by (with_reducible repeat (first | apply Kd.N_alloc | apply Kd.N_drewN | apply Kd.N_drew));exact Kd.N_mono (Kd.N_far (p:=⟨gb543,2,none⟩) (Kd.N_far (p:=⟨gb543,1,none⟩) (Kd.N_far (p:=⟨gb543,0,none⟩) (Kd.N_mono HO536.out (fun k_ hk=>(⟨hk,hk.2⟩:_∧k_ ≠ gb543))) (fun _ hk=>hk.2) (.int .i64 t537)) (fun _ hk=>hk.2) (.int .i64 t538)) (fun _ hk=>hk.2) (.slice Ao11 t539.length co11)) (fun _ hk=>⟨hk.1.1.1,⟨hk.1.1.2.1,⟨hk.1.1.2.2,hk.1.2⟩⟩⟩)⟩
 have n1_:Aside0 (Kd.V k25 25 (((w7.setCell ⟨gb543,0,none⟩ (.int .i64 t537)).setCell ⟨gb543,1,none⟩ (.int .i64 t538)).setCell ⟨gb543,2,none⟩ (.slice Ao11 t539.length co11)) w.heap.size (fun k_=>(w.heap.size ≤ k_)∧some k_ ≠ (v535:Value).ownBlock∧k_ ≠ gb530∧k_ ≠ g533∧k_ ≠ gb543) (.slice Ao11 t539.length co11) t539):=⟨by (with_reducible repeat (first | apply Kd.V_alloc | apply Kd.V_drewN | apply Kd.V_drew));exact Kd.V_mono (Kd.V_far (p:=⟨gb543,2,none⟩) (Kd.V_far (p:=⟨gb543,1,none⟩) (Kd.V_far (p:=⟨gb543,0,none⟩) (Kd.V_mono HO541.out (fun k_ hk=>(⟨hk,hk.2⟩:_∧k_ ≠ gb543))) (fun _ hk=>hk.2) (.int .i64 t537)) (fun _ hk=>hk.2) (.int .i64 t538)) (fun _ hk=>hk.2) (.slice Ao11 t539.length co11)) (fun _ hk=>⟨hk.1.1.1,⟨hk.1.1.2.1,⟨hk.1.1.2.2.1,⟨hk.1.1.2.2.2,hk.1.2⟩⟩⟩⟩)⟩
 have n2_:Aside0 ((((w7.setCell ⟨gb543,0,none⟩ (.int .i64 t537)).setCell ⟨gb543,1,none⟩ (.int .i64 t538)).setCell ⟨gb543,2,none⟩ (.slice Ao11 t539.length co11)).heap[gb530]? = some (.cells #[.int .i64 0,.int .i64 0,.slice none 0 0] 25 (0,0))):=⟨by (with_reducible repeat (first | refine blk_drewN ?_ _ | refine blk_drew ?_ | refine blk_alloc ?_ _));refine blk_far ?_ NB530_543.out _;(with_reducible repeat (first | refine blk_drewN ?_ _ | refine blk_drew ?_ | refine blk_alloc ?_ _));refine blk_far ?_ NB530_543.out _;(with_reducible repeat (first | refine blk_drewN ?_ _ | refine blk_drew ?_ | refine blk_alloc ?_ _));refine blk_far ?_ NB530_543.out _;(with_reducible repeat (first | refine blk_drewN ?_ _ | refine blk_drew ?_ | refine blk_alloc ?_ _));exact BK530.out⟩
 have n3_:Aside0 ((((w7.setCell ⟨gb543,0,none⟩ (.int .i64 t537)).setCell ⟨gb543,1,none⟩ (.int .i64 t538)).setCell ⟨gb543,2,none⟩ (.slice Ao11 t539.length co11)).heap[gb543]? = some (.cells #[.int .i64 t537,.int .i64 t538,.slice Ao11 t539.length co11] 25 (0,0))):=⟨by (with_reducible repeat (first | refine blk_drewN ?_ _ | refine blk_drew ?_ | refine blk_alloc ?_ _));refine blk_put (cs:=#[.int .i64 t537,.int .i64 t538,.slice none 0 0]) ?_ 2 _ rfl;(with_reducible repeat (first | refine blk_drewN ?_ _ | refine blk_drew ?_ | refine blk_alloc ?_ _));refine blk_put (cs:=#[.int .i64 t537,.int .i64 0,.slice none 0 0]) ?_ 1 _ rfl;(with_reducible repeat (first | refine blk_drewN ?_ _ | refine blk_drew ?_ | refine blk_alloc ?_ _));refine blk_put (cs:=#[.int .i64 0,.int .i64 0,.slice none 0 0]) ?_ 0 _ rfl;(with_reducible repeat (first | refine blk_drewN ?_ _ | refine blk_drew ?_ | refine blk_alloc ?_ _));exact BK543.out⟩
 have n4_:Aside0 (IsS73 w (((w7.setCell ⟨gb543,0,none⟩ (.int .i64 t537)).setCell ⟨gb543,1,none⟩ (.int .i64 t538)).setCell ⟨gb543,2,none⟩ (.slice Ao11 t539.length co11)) g533 t531 t542):=⟨by repeat (first | (with_reducible first | exact HI533.out | apply IsS73.alloc | apply IsS73.drewN | apply IsS73.drew | apply IsS73.set_1 | refine IsS73.far ?_ NB533_530.out _ | refine IsS73.far ?_ NB533_543.out _) | exact HI533.out)⟩
 have n5_:Aside0 (Below w.heap.size w (((w7.setCell ⟨gb543,0,none⟩ (.int .i64 t537)).setCell ⟨gb543,1,none⟩ (.int .i64 t538)).setCell ⟨gb543,2,none⟩ (.slice Ao11 t539.length co11))):=⟨by repeat (first | (with_reducible first | exact HB.out | apply below_alloc | apply pw_below_drewN | apply below_drew1 | refine below_set ?_ (IsS73.ge HI533.out) | refine below_set ?_ GE530.out | refine below_set ?_ GE543.out) | exact HB.out)⟩
 (try clear HO536)
 (try clear HO541)
 (try clear BK530)
 (try clear BK543)
 (try clear HI533)
 (try clear HB)
 generalize (((w7.setCell ⟨gb543,0,none⟩ (.int .i64 t537)).setCell ⟨gb543,1,none⟩ (.int .i64 t538)).setCell ⟨gb543,2,none⟩ (.slice Ao11 t539.length co11)) = w12 at n0_ n1_ n2_ n3_ n4_ n5_ ⊢
 have HO536:=n0_
 have HO541:=n1_
 have BK530:=n2_
 have BK543:=n3_
 have HI533:=n4_
 have HB:=n5_
 clear n0_ n1_ n2_ n3_ n4_ n5_
 have n0_:=Aside0.mk (Kd.N_drew HO536.out)
 have n1_:=Aside0.mk (Kd.V_drew HO541.out)
 have n2_:=Aside0.mk (blk_drew BK530.out)
 have n3_:=Aside0.mk (blk_drew BK543.out)
 have n4_:=Aside0.mk (IsS73.drew HI533.out)
 have n5_:=Aside0.mk (below_drew1 HB.out)
 clear HO536
 clear HO541
 clear BK530
 clear BK543
 clear HI533
 clear HB
 have HO536:=n0_
 have HO541:=n1_
 have BK530:=n2_
 have BK543:=n3_
 have HI533:=n4_
 have HB:=n5_
 clear n0_ n1_ n2_ n3_ n4_ n5_
 refine start_ (n:=4) (S:=fun w'=>w'.cell? ⟨gb543,0,none⟩ = some (.int .i64 t537)∧w'.cell? ⟨gb543,1,none⟩ = some (.int .i64 t538)∧w'.cell? ⟨gb543,2,none⟩ = some (.slice Ao11 t539.length co11)) (ds:=[]) #[false,false,false,false] (by kernel_rfl) rfl rfl ⟨(blk_cell BK543.out 0).trans rfl,(blk_cell BK543.out 1).trans rfl,(blk_cell BK543.out 2).trans rfl⟩ (fun hHeld=>?_)
 generalize w12.drew = w13 at HO536 HO541 BK530 BK543 HI533 HB hHeld ⊢
 refine pure_ (i:=0) (N:=some 14) (v:=?_) (a':=?_) #[true,false,false,false] rfl rfl (by kernel_rfl) (fun _ _ _ h=>h) (Or.inl ⟨by rfl,?_⟩) ?_ ?_
 rotate_left;·intro w';go_simp;with_reducible rfl
 rotate_left;·simp only [Act.put,List.setIfInBounds_toArray,List.set_cons_zero,List.set_cons_succ,i64_w,i32_w];rfl
 refine pure_ (i:=2) (N:=some 2) (v:=?_) (a':=?_) #[true,false,true,false] rfl rfl (by kernel_rfl) (fun _ _ _ h=>h) (Or.inl ⟨by rfl,?_⟩) ?_ ?_
 rotate_left;·intro w';go_simp;with_reducible rfl
 rotate_left;·simp only [Act.put,List.setIfInBounds_toArray,List.set_cons_zero,List.set_cons_succ,i64_w,i32_w];rfl
 refine take_ (i:=1) (N:=some 15) (v:=?_) (a':=?_) #[true,true,true,false] rfl rfl (by kernel_rfl) (fun _ _ _ h=>h) (Or.inl ⟨by rfl,?_⟩) hHeld ?_ ?_
 rotate_left;·rintro w' ⟨s0,s1,s2⟩;go_simp;with_reducible rfl
 rotate_left;·simp only [Act.put,List.setIfInBounds_toArray,List.set_cons_zero,List.set_cons_succ,i64_w,i32_w];rfl
 refine one_ (i:=3) (N:=none) #[true,true,true,true] rfl rfl (by kernel_rfl) (by decide) (fun K hK=>?_)
 have hs14:w13.cell? ⟨gb530,0,none⟩ = some (.int .i64 0):=(blk_cell BK530.out 0).trans rfl
 have hfs14:=blk_frozen BK530.out 0
 have hns14_1:=NB543_530.out
 have hms14_1:=NB530_543.out
 have hs15:w13.cell? ⟨gb530,1,none⟩ = some (.int .i64 0):=(blk_cell BK530.out 1).trans rfl
 have hfs15:=blk_frozen BK530.out 1
 have hns15_1:=NB543_530.out
 have hms15_1:=NB530_543.out
 have hs16:w13.cell? ⟨gb530,2,none⟩ = some (.slice none 0 0):=(blk_cell BK530.out 2).trans rfl
 have hfs16:=blk_frozen BK530.out 2
 have hns16_1:=NB543_530.out
 have hms16_1:=NB530_543.out
 refine skip_ (w1:=?_) (by rfl) rfl ?_ ?_
 rotate_left
 ·go_simp
  rfl
 refine hK.out _ _ ⟨((cell_far (p:=⟨gb530,_,none⟩) NB543_530.out _).trans (((cell_far (p:=⟨gb530,_,none⟩) NB543_530.out _).trans (((cell_far (p:=⟨gb530,_,none⟩) NB543_530.out _).trans (hHeld.1)))))),((cell_far (p:=⟨gb530,_,none⟩) NB543_530.out _).trans (((cell_far (p:=⟨gb530,_,none⟩) NB543_530.out _).trans (((cell_far (p:=⟨gb530,_,none⟩) NB543_530.out _).trans (hHeld.2.1)))))),((cell_far (p:=⟨gb530,_,none⟩) NB543_530.out _).trans (((cell_far (p:=⟨gb530,_,none⟩) NB543_530.out _).trans (((cell_far (p:=⟨gb530,_,none⟩) NB543_530.out _).trans (hHeld.2.2))))))⟩ (fun hHeld=>?_)
 clear hK K
 refine done_ (by kernel_rfl) ?_
 try go_wp2
 refine bodyPost_ret (results_tc rfl _ _ gb530 25 #[.int .i64 t537,.int .i64 t538,.slice Ao11 t539.length co11] (0,0) _ rfl (by (with_reducible repeat (first | refine blk_drewN ?_ _ | refine blk_drew ?_ | refine blk_alloc ?_ _));refine blk_put (cs:=#[.int .i64 t537,.int .i64 t538,.slice none 0 0]) ?_ 2 _ rfl;(with_reducible repeat (first | refine blk_drewN ?_ _ | refine blk_drew ?_ | refine blk_alloc ?_ _));refine blk_put (cs:=#[.int .i64 t537,.int .i64 0,.slice none 0 0]) ?_ 1 _ rfl;(with_reducible repeat (first | refine blk_drewN ?_ _ | refine blk_drew ?_ | refine blk_alloc ?_ _));refine blk_put (cs:=#[.int .i64 0,.int .i64 0,.slice none 0 0]) ?_ 0 _ rfl;(with_reducible repeat (first | refine blk_drewN ?_ _ | refine blk_drew ?_ | refine blk_alloc ?_ _));exact BK530.out) Tryd.underlying25 rfl (by kernel_rfl)) rfl ?_
 exact ⟨_,_,by first | rfl | (simp [errW_none,errW_some] <;> rfl) | (simp [*,errW_none,errW_some] <;> rfl),by (with_reducible repeat (first | apply Kd.N_alloc | apply Kd.N_drewN | apply Kd.N_drew));exact Kd.N_mono (Kd.N_far (p:=⟨gb530,2,none⟩) (Kd.N_far (p:=⟨gb530,1,none⟩) (Kd.N_far (p:=⟨gb530,0,none⟩) (Kd.N_mono HO536.out (fun k_ hk=>(⟨hk,hk.2.1⟩:_∧k_ ≠ gb530))) (fun _ hk=>hk.2) (.int .i64 t537)) (fun _ hk=>hk.2) (.int .i64 t538)) (fun _ hk=>hk.2) (.slice Ao11 t539.length co11)) (fun _ hk=>hk.1.1),by (with_reducible repeat (first | apply Kd.V_alloc | apply Kd.V_drewN | apply Kd.V_drew));exact Kd.V_mono (Kd.V_far (p:=⟨gb530,2,none⟩) (Kd.V_far (p:=⟨gb530,1,none⟩) (Kd.V_far (p:=⟨gb530,0,none⟩) (Kd.V_mono HO541.out (fun k_ hk=>(⟨hk,hk.2.2.1⟩:_∧k_ ≠ gb530))) (fun _ hk=>hk.2) (.int .i64 t537)) (fun _ hk=>hk.2) (.int .i64 t538)) (fun _ hk=>hk.2) (.slice Ao11 t539.length co11)) (fun _ hk=>⟨hk.1.1,hk.1.2.1⟩),by repeat (first | (with_reducible first | exact HB.out | apply below_alloc | apply pw_below_drewN | apply below_drew1 | refine below_set ?_ (IsS73.ge HI533.out) | refine below_set ?_ GE530.out | refine below_set ?_ GE543.out) | exact HB.out)⟩
end Go.Proofs.YtbcjpdahdecehaaDoor.P
