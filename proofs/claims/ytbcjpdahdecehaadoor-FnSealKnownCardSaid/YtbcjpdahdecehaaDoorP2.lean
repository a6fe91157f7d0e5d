/- What the Go functions that the laws reach compute, and that their calls come to just that: told by a program of this session (aprint.py). No condition. -/
import Derived.Test.YtbcjpdahdecehaaDoorP0
import Derived.Test.YtbcjpdahdecehaaDoorP1
namespace Go.Proofs.YtbcjpdahdecehaaDoor.P
open Go.RowKit Go.Proofs.YtbcjpdahdecehaaDoorW.PrintWords Go.Proofs.YtbcjpdahdecehaaDoorW.PrintLast Go.Proofs.YtbcjpdahdecehaaDoorW.PrintMore
attribute [local go_sem] max2_int min2_int max_two min_two max_three min_three max_four min_four
set_option linter.unusedVariables false
set_option linter.unusedSimpArgs false
mutual
def spec_l92Seal.j0:Nat → Int → Bool → List Int → Int → Option (Int × Int × (List (S25)) × Int)
 | 0,_,_,_,_=>none
 | k + 1,x1,x12,x1000,x1001=>if x12 = true then ((spec_l6Rd_pick.f k x1000 x1001 40).bind fun bt110=>(if bt110.1 = 0 then (some (0,10,([]:List (S25)),bt110.2)) else ((spec_l6Rd_pick.f k x1000 bt110.2 4).bind fun bt112=>(some (0,bt112.1,([]:List (S25)),bt112.2))))) else ((spec_l92Seal.f k x1000 x1001 (wrap64 (x1 - 1))).bind fun bt114=>((spec_l6Rd_pick.f k x1000 bt114.2.2.2 2).bind fun bt121=>((spec_l92Seal.f k x1000 bt121.2 (wrap64 (x1 - 1))).bind fun bt123=>(some (wrap64 (1 + bt121.1),0,(([(⟨bt114.1,bt114.2.1,bt114.2.2.1⟩:S25),(⟨bt123.1,bt123.2.1,bt123.2.2.1⟩:S25)]:List (S25))),bt123.2.2.2)))))
def spec_l92Seal.f:Nat → List Int → Int → Int → Option (Int × Int × (List (S25)) × Int)
 | 0,_,_,_=>none
 | k + 1,s0_0,s0_1,a1=>if a1 = 0 then (spec_l92Seal.j0 k a1 true s0_0 s0_1) else ((spec_l6Rd_pick.f k s0_0 s0_1 3).bind fun bt108=>(spec_l92Seal.j0 k a1 (bt108.1 == 0) s0_0 bt108.2))
end
theorem spec_l92Seal.mono_l:∀ k,(∀ y0 y1 y2,LeO (spec_l92Seal.f k y0 y1 y2) (spec_l92Seal.f (k + 1) y0 y1 y2))∧(∀ y0 y1 y2 y3,LeO (spec_l92Seal.j0 k y0 y1 y2 y3) (spec_l92Seal.j0 (k + 1) y0 y1 y2 y3))
 | 0=>⟨fun _ _ _ r h=>by simp [spec_l92Seal.f] at h,fun _ _ _ _ r h=>by simp [spec_l92Seal.j0] at h⟩
 | k + 1=>by
  obtain ⟨ih0,ih1⟩:=spec_l92Seal.mono_l k
  refine ⟨?_,?_⟩
  ·intro y0 y1 y2
   unfold spec_l92Seal.f
   repeat' first
   | (with_reducible exact ih0 _ _ _)
   | (with_reducible exact ih1 _ _ _ _)
   | (with_reducible exact spec_l6Rd_pick.mono _ _ _ _)
   | (with_reducible exact LeO.refl _)
   | (with_reducible exact LeO.none _)
   | (with_reducible refine LeO.ite ?_ ?_)
   | (with_reducible refine LeO.bind ?_ (fun _=>?_))
   | exact ih0 _ _ _
   | exact ih1 _ _ _ _
   | exact spec_l6Rd_pick.mono _ _ _ _
   | exact LeO.none _
   | refine LeO.ite ?_ ?_
   | refine LeO.bind ?_ (fun _=>?_)
  ·intro y0 y1 y2 y3
   unfold spec_l92Seal.j0
   repeat' first
   | (with_reducible exact ih0 _ _ _)
   | (with_reducible exact ih1 _ _ _ _)
   | (with_reducible exact spec_l6Rd_pick.mono _ _ _ _)
   | (with_reducible exact LeO.refl _)
   | (with_reducible exact LeO.none _)
   | (with_reducible refine LeO.ite ?_ ?_)
   | (with_reducible refine LeO.bind ?_ (fun _=>?_))
   | exact ih0 _ _ _
   | exact ih1 _ _ _ _
   | exact spec_l6Rd_pick.mono _ _ _ _
   | exact LeO.none _
   | refine LeO.ite ?_ ?_
   | refine LeO.bind ?_ (fun _=>?_)
theorem spec_l92Seal.mono:∀ a0 a1 a2 k,LeO (spec_l92Seal.f k a0 a1 a2) (spec_l92Seal.f (k + 1) a0 a1 a2):=by
 intro a0 a1 a2 k
 obtain ⟨ih0,ih1⟩:=spec_l92Seal.mono_l k
 exact ih0 a0 a1 a2
def spec_l92Seal.T6:Bool × List (List Nat × List Nat):=(true,[([],[]),([0],[0]),([1],[1]),([],[]),([],[]),([],[]),([5],[5]),([4,6,1],[4,6]),([3,7],[3,7]),([2,8],[2,8]),([9,7,0,1,2,3,4,5,6,7,8,9],[9])])
def spec_l92Seal.B6:List Nat:=[0,1,3,0,0,0,32,115,251,511,1023]
theorem spec_l92Seal.tab6:rtab .any (opsOf Tryd.f40 6) = spec_l92Seal.T6:=by kernel_rfl
theorem spec_l92Seal.bits6:waitsOk spec_l92Seal.T6.2 spec_l92Seal.B6 = true:=by kernel_rfl
set_option maxHeartbeats 8000000 in
set_option maxRecDepth 100000 in
theorem spec_l92Seal.calls (k:Nat):∀ (g:Nat) (s0_0:List Int) (s0_1:Int) (a1:Int) (r1:Int) (r2:Int) (r3:List (S25)) (r4:Int) (w0 w:World) (hI:IsS73 w0 w g s0_0 s0_1) (hB:Below w0.heap.size w0 w) (h:spec_l92Seal.f k s0_0 s0_1 a1 = some (r1,r2,r3,r4)),
  Calls Tryd.prog 40 #[.pointer (some ⟨g,0,none⟩),.int .i64 a1] w fun e w'=>∃ v2_:Value,e = .returned (.agg #[.int .i64 r1,.int .i64 r2,v2_])∧Kd.N k25 25 w' w.heap.size (fun k_=>(w.heap.size ≤ k_)) v2_ r3∧IsS73 w0 w' g s0_0 r4∧Below w0.heap.size w0 w'∧KeepBut w w' g none:=by
 induction k using Nat.strongRecOn with
 | _ k ih =>
 intro g s0_0 s0_1 a1 r1 r2 r3 r4 w0 w hI hB h
 cases k with
 | zero=>exact absurd h (by simp [spec_l92Seal.f])
 | succ k =>
 simp only [spec_l92Seal.f] at h
 have hu25:=Tryd.underlying25
 have HI0:=Aside0.mk hI
 have HK:=Aside0.mk (KeepBut.refl w g none)
 have HL:=Aside0.mk hB.size
 clear hI
 have HW0:=Aside0.mk hB.size
 have HB:=Aside0.mk hB
 clear hB
 have H:(if a1 = 0 then (spec_l92Seal.j0 k a1 true s0_0 s0_1) else ((spec_l6Rd_pick.f k s0_0 s0_1 3).bind fun bt108=>(spec_l92Seal.j0 k a1 (bt108.1 == 0) s0_0 bt108.2))) = some (r1,r2,r3,r4):=h
 clear h
 have HC3:=Aside0.mk H
 clear H
 go_enter Tryd.func40,Tryd.ntmps40
 go_upto_region 1 with (first | ((with_reducible refine gate_dst (N:=4) rfl ?_);refine box_event ?hg (N:=4) ?hd (cs:=#[.int .i64 0,.int .i64 0,.slice none 0 0]) (t:=25) ?hr ?_;(case hd=>rfl);(case hg=>rfl);(case hr=>first | (go_simp;done) | (go_simp;rfl));intro gb107 hg w4 hbox hb;have n0_:=Aside0.mk (IsS73.below (by repeat (first | (with_reducible first | exact HI0.out | apply IsS73.alloc | apply IsS73.drewN | apply IsS73.drew | apply IsS73.set_1) | exact HI0.out)) hb);have n1_:=Aside0.mk (KeepBut.trans (by repeat (first | (with_reducible first | exact HK.out | apply KeepBut.set_ | apply keep_drewN | apply keep_drew | apply keep_alloc) | exact HK.out)) (KeepBut.of_below hb g none) (.inl rfl));have n2_:=Aside0.mk (below_step (by repeat (first | (with_reducible first | exact HB.out | apply below_alloc | apply pw_below_drewN | apply below_drew1 | refine below_set ?_ (IsS73.ge HI0.out)) | exact HB.out)) hb);have n3_:=Aside0.mk (hbox);have n4_:=Aside0.mk ((by rw [hg];exact (keep_size (w:=w) (g:=g) (row:=none) (by repeat (first | (with_reducible first | exact HK.out | apply KeepBut.set_ | apply keep_drewN | apply keep_drew | apply keep_alloc) | exact HK.out))):w.heap.size ≤ gb107));have n5_:=Aside0.mk ((Nat.le_trans HW0.out (by rw [hg];exact (keep_size (w:=w) (g:=g) (row:=none) (by repeat (first | (with_reducible first | exact HK.out | apply KeepBut.set_ | apply keep_drewN | apply keep_drew | apply keep_alloc) | exact HK.out))):w.heap.size ≤ gb107):w0.heap.size ≤ gb107));have n6_:=Aside0.mk ((by rw [hg];exact Nat.ne_of_lt (IsS73.lt (show IsS73 w0 _ g s0_0 s0_1 from by repeat (first | (with_reducible first | exact HI0.out | apply IsS73.alloc | apply IsS73.drewN | apply IsS73.drew | apply IsS73.set_1) | exact HI0.out))):g ≠ gb107));have n7_:=Aside0.mk ((by rw [hg];exact Nat.ne_of_gt (IsS73.lt (show IsS73 w0 _ g s0_0 s0_1 from by repeat (first | (with_reducible first | exact HI0.out | apply IsS73.alloc | apply IsS73.drewN | apply IsS73.drew | apply IsS73.set_1) | exact HI0.out))):gb107 ≠ g));clear HI0;clear HK;clear HB;have HI0:=n0_;have HK:=n1_;have HB:=n2_;have BK107:=n3_;have GW107:=n4_;have GE107:=n5_;have NB0_107:=n6_;have NB107_0:=n7_;clear n0_ n1_ n2_ n3_ n4_ n5_ n6_ n7_;clear hb hbox hg))
 (try simp only [Act.put,List.setIfInBounds_toArray,List.set_cons_zero,List.set_cons_succ])
 go_cut [12] (fun v12 wc=>∃ (kq:Nat) (x12_2:Bool) (x1001_2:Int),v12 = .bool x12_2∧Aside0 (spec_l92Seal.j0 kq a1 x12_2 s0_0 x1001_2 = some (r1,r2,r3,r4))∧Aside0 (kq ≤ k)∧Aside0 (wc.heap[gb107]? = some (.cells #[.int .i64 0,.int .i64 0,(.slice none 0 0)] 25 (0,0)))∧Aside0 (IsS73 w0 wc g s0_0 x1001_2)∧Aside0 (KeepBut w wc g none)∧Aside0 (Below w0.heap.size w0 wc))
 case first =>
  have H:=HC3.out
  clear HC3
  by_cases c5:a1 = 0
  ·rw [if_pos c5] at H
   have c5b0:(a1 == 0) = true:=beq_iff_eq.mpr c5
   have c5b1:(a1 != 0) = false:=bne_eq_false_iff_eq.mpr c5
   clear c5
   (first | rw [c5b0] | (simp only [i64_w,i32_w];rw [c5b0]) | skip)
   have H':=Aside0.mk H
   clear H
   go_wp2
   go_meet
   case rel=>exact ⟨_,(true),(s0_1),(by first | rfl | (simp;done) | (simp [*];done)),H',⟨by first | omega | exact Nat.le_refl _⟩,⟨by (with_reducible repeat (first | refine blk_drewN ?_ _ | refine blk_drew ?_ | refine blk_alloc ?_ _));exact BK107.out⟩,⟨by repeat (first | (with_reducible first | exact HI0.out | apply IsS73.alloc | apply IsS73.drewN | apply IsS73.drew | apply IsS73.set_1 | refine IsS73.far ?_ NB0_107.out _) | exact HI0.out)⟩,⟨by repeat (first | (with_reducible first | exact HK.out | apply KeepBut.set_ | apply keep_drewN | apply keep_drew | apply keep_alloc | refine keep_far ?_ GW107.out _) | exact HK.out)⟩,⟨by repeat (first | (with_reducible first | exact HB.out | apply below_alloc | apply pw_below_drewN | apply below_drew1 | refine below_set ?_ (IsS73.ge HI0.out) | refine below_set ?_ GE107.out) | exact HB.out)⟩⟩
  ·rw [if_neg c5] at H
   have c5b0:(a1 == 0) = false:=beq_eq_false_iff_ne.mpr c5
   have c5b1:(a1 != 0) = true:=bne_iff_ne.mpr c5
   (first | rw [c5b0] | (simp only [i64_w,i32_w];rw [c5b0]) | skip)
   replace H:=Option.bind_eq_some_iff.mp H
   obtain ⟨⟨t108,t109⟩,A60,H⟩:=H
   replace H:(spec_l92Seal.j0 k a1 (t108 == 0) s0_0 t109) = some (r1,r2,r3,r4):=H
   have A6:=Aside0.mk A60
   clear A60
   have H':=Aside0.mk H
   clear H
   go_wp2_with (first | (go_at_call 41;(with_reducible refine (spec_l6Rd_pick.calls k g s0_0 s0_1 3 t108 t109 w0 _ ?side1 ?side2 A6.out).mono ?_);(case side1=>repeat (first | (with_reducible first | exact HI0.out | apply IsS73.alloc | apply IsS73.drewN | apply IsS73.drew | apply IsS73.set_1 | refine IsS73.far ?_ NB0_107.out _) | exact HI0.out));(case side2=>repeat (first | (with_reducible first | exact HB.out | apply below_alloc | apply pw_below_drewN | apply below_drew1 | refine below_set ?_ (IsS73.ge HI0.out) | refine below_set ?_ GE107.out) | exact HB.out));rintro e w7 ⟨rfl,hi,hb,hk⟩;have n0_:=Aside0.mk (KeepBut.blk hk (g':=gb107) (o:=.cells #[.int .i64 0,.int .i64 0,.slice none 0 0] 25 (0,0)) (by (with_reducible repeat (first | refine blk_drewN ?_ _ | refine blk_drew ?_ | refine blk_alloc ?_ _));exact BK107.out) NB107_0.out (by simp));have n1_:=Aside0.mk (KeepBut.trans (by repeat (first | (with_reducible first | exact HK.out | apply KeepBut.set_ | apply keep_drewN | apply keep_drew | apply keep_alloc | refine keep_far ?_ GW107.out _) | exact HK.out)) hk (.inl rfl));have n2_:=Aside0.mk (hb);have n3_:=Aside0.mk (hi);clear BK107;clear HK;clear HB;clear HI0;have BK107:=n0_;have HK:=n1_;have HB:=n2_;have HI0:=n3_;clear n0_ n1_ n2_ n3_;(try clear hb);(try clear hb2);(try clear hk);(try clear hi)))
   go_meet
   case rel=>exact ⟨_,((t108 == 0)),(t109),(by first | rfl | (simp;done) | (simp [*];done)),H',⟨by first | omega | exact Nat.le_refl _⟩,⟨by (with_reducible repeat (first | refine blk_drewN ?_ _ | refine blk_drew ?_ | refine blk_alloc ?_ _));exact BK107.out⟩,⟨by repeat (first | (with_reducible first | exact HI0.out | apply IsS73.alloc | apply IsS73.drewN | apply IsS73.drew | apply IsS73.set_1 | refine IsS73.far ?_ NB0_107.out _) | exact HI0.out)⟩,⟨by repeat (first | (with_reducible first | exact HK.out | apply KeepBut.set_ | apply keep_drewN | apply keep_drew | apply keep_alloc | refine keep_far ?_ GW107.out _) | exact HK.out)⟩,⟨by repeat (first | (with_reducible first | exact HB.out | apply below_alloc | apply pw_below_drewN | apply below_drew1 | refine below_set ?_ (IsS73.ge HI0.out) | refine below_set ?_ GE107.out) | exact HB.out)⟩⟩
 case rest =>
  clear HC3
  try clear p2
  try clear c4
  try clear c5
  try clear c5b0
  try clear c5b1
  obtain ⟨kq,x12_2,x1001_2,rfl,HA,HJ2,BK107,HI0,HK,HB⟩:=hcut
  cases kq with
  | zero=>exact absurd HA.out (by simp [spec_l92Seal.j0])
  | succ kj2 =>
   have H:=HA.out
   clear HA
   simp only [spec_l92Seal.j0] at H
   by_cases c8:x12_2 = true
   ·subst c8
    have H1:((spec_l6Rd_pick.f kj2 s0_0 x1001_2 40).bind fun bt110=>(if bt110.1 = 0 then (some (0,10,([]:List (S25)),bt110.2)) else ((spec_l6Rd_pick.f kj2 s0_0 bt110.2 4).bind fun bt112=>(some (0,bt112.1,([]:List (S25)),bt112.2))))) = some (r1,r2,r3,r4):=by rw [if_pos rfl] at H;exact H
    clear H
    have H:=H1
    clear H1
    replace H:=Option.bind_eq_some_iff.mp H
    obtain ⟨⟨t110,t111⟩,A90,H⟩:=H
    replace H:(if t110 = 0 then (some (0,10,([]:List (S25)),t111)) else ((spec_l6Rd_pick.f kj2 s0_0 t111 4).bind fun bt112=>(some (0,bt112.1,([]:List (S25)),bt112.2)))) = some (r1,r2,r3,r4):=H
    have A9:=Aside0.mk A90
    clear A90
    by_cases c10:t110 = 0
    ·rw [if_pos c10] at H
     have c10b0:(t110 == 0) = true:=beq_iff_eq.mpr c10
     have c10b1:(t110 != 0) = false:=bne_eq_false_iff_eq.mpr c10
     clear c10
     simp only [Option.some.injEq,Prod.mk.injEq] at H
     obtain ⟨rfl,rfl,rfl,rfl⟩:=H
     go_wp2_with (first | ((with_reducible refine gate_callee (f:=41) rfl ?_);refine goesL_ (some 14) rfl rfl Tryd.func41 (by kernel_rfl) rfl #[.pointer (some ⟨g,0,none⟩),.int .i64 40] rfl (by (try simp only [List.map_toArray,List.map_cons,List.map_nil]);first | done | rfl | (simp only [List.length_drop,List.length_take];rfl)) ?_;(with_reducible refine (spec_l6Rd_pick.calls kj2 g s0_0 x1001_2 40 t110 t111 w0 _ ?side1 ?side2 A9.out).mono ?_);(case side1=>repeat (first | (with_reducible first | exact HI0.out | apply IsS73.alloc | apply IsS73.drewN | apply IsS73.drew | apply IsS73.set_1 | refine IsS73.far ?_ NB0_107.out _) | exact HI0.out));(case side2=>repeat (first | (with_reducible first | exact HB.out | apply below_alloc | apply pw_below_drewN | apply below_drew1 | refine below_set ?_ (IsS73.ge HI0.out) | refine below_set ?_ GE107.out) | exact HB.out));rintro e w11 ⟨rfl,hi,hb,hk⟩;refine ⟨_,rfl,?_⟩;have n0_:=Aside0.mk (KeepBut.blk hk (g':=gb107) (o:=.cells #[.int .i64 0,.int .i64 0,.slice none 0 0] 25 (0,0)) (by (with_reducible repeat (first | refine blk_drewN ?_ _ | refine blk_drew ?_ | refine blk_alloc ?_ _));exact BK107.out) NB107_0.out (by simp));have n1_:=Aside0.mk (KeepBut.trans (by repeat (first | (with_reducible first | exact HK.out | apply KeepBut.set_ | apply keep_drewN | apply keep_drew | apply keep_alloc | refine keep_far ?_ GW107.out _) | exact HK.out)) hk (.inl rfl));have n2_:=Aside0.mk (hb);have n3_:=Aside0.mk (hi);clear BK107;clear HK;clear HB;clear HI0;have BK107:=n0_;have HK:=n1_;have HB:=n2_;have HI0:=n3_;clear n0_ n1_ n2_ n3_;(try clear hb);(try clear hb2);(try clear hk);(try clear hi);have hnb12:=NB107_0.out;have hnc12:=NB0_107.out;have hcz13_0:w11.cell? ⟨gb107,0,none⟩ = some (.int .i64 0):=(blk_cell BK107.out 0).trans rfl;have hcz13_1:w11.cell? ⟨gb107,1,none⟩ = some (.int .i64 0):=(blk_cell BK107.out 1).trans rfl;have hcz13_2:w11.cell? ⟨gb107,2,none⟩ = some (.slice none 0 0):=(blk_cell BK107.out 2).trans rfl;have hfz13_0:=blk_frozen BK107.out 0;have hfz13_1:=blk_frozen BK107.out 1;have hfz13_2:=blk_frozen BK107.out 2))
     refine bodyPost_ret (results_cell_row rfl _ _ gb107 25 #[.int .i64 0,.int .i64 10,.slice none 0 0] (0,0) _ rfl (by (with_reducible repeat (first | refine blk_drewN ?_ _ | refine blk_drew ?_ | refine blk_alloc ?_ _));refine blk_put (cs:=#[.int .i64 0,.int .i64 10,.slice none 0 0]) ?_ 2 _ rfl;(with_reducible repeat (first | refine blk_drewN ?_ _ | refine blk_drew ?_ | refine blk_alloc ?_ _));refine blk_put (cs:=#[.int .i64 0,.int .i64 0,.slice none 0 0]) ?_ 1 _ rfl;(with_reducible repeat (first | refine blk_drewN ?_ _ | refine blk_drew ?_ | refine blk_alloc ?_ _));refine blk_put (cs:=#[.int .i64 0,.int .i64 0,.slice none 0 0]) ?_ 0 _ rfl;(with_reducible repeat (first | refine blk_drewN ?_ _ | refine blk_drew ?_ | refine blk_alloc ?_ _));exact BK107.out) Tryd.underlying25 rfl (by kernel_rfl)) rfl ?_
     exact ⟨_,by first | rfl | (simp [errW_none,errW_some] <;> rfl) | (simp [*,errW_none,errW_some] <;> rfl),by first | exact Kd.R_nil _ _ _ _ _ | exact Kd.N_nil _ _ _ _ _ | exact Kd.V_nil _ _ _ _ _ | exact Kd.Q_nil _ _ _ _ _ | exact Kd.S_nil _ _ _ _ _,by repeat (first | (with_reducible first | exact HI0.out | apply IsS73.alloc | apply IsS73.drewN | apply IsS73.drew | apply IsS73.set_1 | refine IsS73.far ?_ NB0_107.out _) | exact HI0.out),by repeat (first | (with_reducible first | exact HB.out | apply below_alloc | apply pw_below_drewN | apply below_drew1 | refine below_set ?_ (IsS73.ge HI0.out) | refine below_set ?_ GE107.out) | exact HB.out),by repeat (first | (with_reducible first | exact HK.out | apply KeepBut.set_ | apply keep_drewN | apply keep_drew | apply keep_alloc | refine keep_far ?_ GW107.out _) | exact HK.out)⟩
    ·rw [if_neg c10] at H
     have c10b0:(t110 == 0) = false:=beq_eq_false_iff_ne.mpr c10
     have c10b1:(t110 != 0) = true:=bne_iff_ne.mpr c10
     replace H:=Option.bind_eq_some_iff.mp H
     obtain ⟨⟨t112,t113⟩,A140,H⟩:=H
     replace H:(some (0,t112,([]:List (S25)),t113)) = some (r1,r2,r3,r4):=H
     have A14:=Aside0.mk A140
     clear A140
     simp only [Option.some.injEq,Prod.mk.injEq] at H
     obtain ⟨rfl,rfl,rfl,rfl⟩:=H
     go_wp2_with (first | ((with_reducible refine gate_callee (f:=41) rfl ?_);refine goesL_ (some 14) rfl rfl Tryd.func41 (by kernel_rfl) rfl #[.pointer (some ⟨g,0,none⟩),.int .i64 40] rfl (by (try simp only [List.map_toArray,List.map_cons,List.map_nil]);first | done | rfl | (simp only [List.length_drop,List.length_take];rfl)) ?_;(with_reducible refine (spec_l6Rd_pick.calls kj2 g s0_0 x1001_2 40 t110 t111 w0 _ ?side1 ?side2 A9.out).mono ?_);(case side1=>repeat (first | (with_reducible first | exact HI0.out | apply IsS73.alloc | apply IsS73.drewN | apply IsS73.drew | apply IsS73.set_1 | refine IsS73.far ?_ NB0_107.out _) | exact HI0.out));(case side2=>repeat (first | (with_reducible first | exact HB.out | apply below_alloc | apply pw_below_drewN | apply below_drew1 | refine below_set ?_ (IsS73.ge HI0.out) | refine below_set ?_ GE107.out) | exact HB.out));rintro e w15 ⟨rfl,hi,hb,hk⟩;refine ⟨_,rfl,?_⟩;have n0_:=Aside0.mk (KeepBut.blk hk (g':=gb107) (o:=.cells #[.int .i64 0,.int .i64 0,.slice none 0 0] 25 (0,0)) (by (with_reducible repeat (first | refine blk_drewN ?_ _ | refine blk_drew ?_ | refine blk_alloc ?_ _));exact BK107.out) NB107_0.out (by simp));have n1_:=Aside0.mk (KeepBut.trans (by repeat (first | (with_reducible first | exact HK.out | apply KeepBut.set_ | apply keep_drewN | apply keep_drew | apply keep_alloc | refine keep_far ?_ GW107.out _) | exact HK.out)) hk (.inl rfl));have n2_:=Aside0.mk (hb);have n3_:=Aside0.mk (hi);clear BK107;clear HK;clear HB;clear HI0;have BK107:=n0_;have HK:=n1_;have HB:=n2_;have HI0:=n3_;clear n0_ n1_ n2_ n3_;(try clear hb);(try clear hb2);(try clear hk);(try clear hi)) | ((with_reducible refine gate_callee (f:=41) rfl ?_);refine goesL_ (some 18) rfl rfl Tryd.func41 (by kernel_rfl) rfl #[.pointer (some ⟨g,0,none⟩),.int .i64 4] rfl (by (try simp only [List.map_toArray,List.map_cons,List.map_nil]);first | done | rfl | (simp only [List.length_drop,List.length_take];rfl)) ?_;(with_reducible refine (spec_l6Rd_pick.calls kj2 g s0_0 t111 4 t112 t113 w0 _ ?side1 ?side2 A14.out).mono ?_);(case side1=>repeat (first | (with_reducible first | exact HI0.out | apply IsS73.alloc | apply IsS73.drewN | apply IsS73.drew | apply IsS73.set_1 | refine IsS73.far ?_ NB0_107.out _) | exact HI0.out));(case side2=>repeat (first | (with_reducible first | exact HB.out | apply below_alloc | apply pw_below_drewN | apply below_drew1 | refine below_set ?_ (IsS73.ge HI0.out) | refine below_set ?_ GE107.out) | exact HB.out));rintro e w16 ⟨rfl,hi,hb,hk⟩;refine ⟨_,rfl,?_⟩;have n0_:=Aside0.mk (KeepBut.blk hk (g':=gb107) (o:=.cells #[.int .i64 0,.int .i64 0,.slice none 0 0] 25 (0,0)) (by (with_reducible repeat (first | refine blk_drewN ?_ _ | refine blk_drew ?_ | refine blk_alloc ?_ _));exact BK107.out) NB107_0.out (by simp));have n1_:=Aside0.mk (KeepBut.trans (by repeat (first | (with_reducible first | exact HK.out | apply KeepBut.set_ | apply keep_drewN | apply keep_drew | apply keep_alloc | refine keep_far ?_ GW107.out _) | exact HK.out)) hk (.inl rfl));have n2_:=Aside0.mk (hb);have n3_:=Aside0.mk (hi);clear BK107;clear HK;clear HB;clear HI0;have BK107:=n0_;have HK:=n1_;have HB:=n2_;have HI0:=n3_;clear n0_ n1_ n2_ n3_;(try clear hb);(try clear hb2);(try clear hk);(try clear hi);have hnb17:=NB107_0.out;have hnc17:=NB0_107.out;have hcz18_0:w16.cell? ⟨gb107,0,none⟩ = some (.int .i64 0):=(blk_cell BK107.out 0).trans rfl;have hcz18_1:w16.cell? ⟨gb107,1,none⟩ = some (.int .i64 0):=(blk_cell BK107.out 1).trans rfl;have hcz18_2:w16.cell? ⟨gb107,2,none⟩ = some (.slice none 0 0):=(blk_cell BK107.out 2).trans rfl;have hfz18_0:=blk_frozen BK107.out 0;have hfz18_1:=blk_frozen BK107.out 1;have hfz18_2:=blk_frozen BK107.out 2))
     refine bodyPost_ret (results_cell_row rfl _ _ gb107 25 #[.int .i64 0,.int .i64 t112,.slice none 0 0] (0,0) _ rfl (by (with_reducible repeat (first | refine blk_drewN ?_ _ | refine blk_drew ?_ | refine blk_alloc ?_ _));refine blk_put (cs:=#[.int .i64 0,.int .i64 t112,.slice none 0 0]) ?_ 2 _ rfl;(with_reducible repeat (first | refine blk_drewN ?_ _ | refine blk_drew ?_ | refine blk_alloc ?_ _));refine blk_put (cs:=#[.int .i64 0,.int .i64 0,.slice none 0 0]) ?_ 1 _ rfl;(with_reducible repeat (first | refine blk_drewN ?_ _ | refine blk_drew ?_ | refine blk_alloc ?_ _));refine blk_put (cs:=#[.int .i64 0,.int .i64 0,.slice none 0 0]) ?_ 0 _ rfl;(with_reducible repeat (first | refine blk_drewN ?_ _ | refine blk_drew ?_ | refine blk_alloc ?_ _));exact BK107.out) Tryd.underlying25 rfl (by kernel_rfl)) rfl ?_
     exact ⟨_,by first | rfl | (simp [errW_none,errW_some] <;> rfl) | (simp [*,errW_none,errW_some] <;> rfl),by first | exact Kd.R_nil _ _ _ _ _ | exact Kd.N_nil _ _ _ _ _ | exact Kd.V_nil _ _ _ _ _ | exact Kd.Q_nil _ _ _ _ _ | exact Kd.S_nil _ _ _ _ _,by repeat (first | (with_reducible first | exact HI0.out | apply IsS73.alloc | apply IsS73.drewN | apply IsS73.drew | apply IsS73.set_1 | refine IsS73.far ?_ NB0_107.out _) | exact HI0.out),by repeat (first | (with_reducible first | exact HB.out | apply below_alloc | apply pw_below_drewN | apply below_drew1 | refine below_set ?_ (IsS73.ge HI0.out) | refine below_set ?_ GE107.out) | exact HB.out),by repeat (first | (with_reducible first | exact HK.out | apply KeepBut.set_ | apply keep_drewN | apply keep_drew | apply keep_alloc | refine keep_far ?_ GW107.out _) | exact HK.out)⟩
   ·replace c8:=Bool.eq_false_iff.mpr c8
    subst c8
    have H1:((spec_l92Seal.f kj2 s0_0 x1001_2 (wrap64 (a1 - 1))).bind fun bt114=>((spec_l6Rd_pick.f kj2 s0_0 bt114.2.2.2 2).bind fun bt121=>((spec_l92Seal.f kj2 s0_0 bt121.2 (wrap64 (a1 - 1))).bind fun bt123=>(some (wrap64 (1 + bt121.1),0,(([(⟨bt114.1,bt114.2.1,bt114.2.2.1⟩:S25),(⟨bt123.1,bt123.2.1,bt123.2.2.1⟩:S25)]:List (S25))),bt123.2.2.2))))) = some (r1,r2,r3,r4):=by rw [if_neg (show ¬ (false = true) by decide)] at H;exact H
    clear H
    have H:=H1
    clear H1
    replace H:=Option.bind_eq_some_iff.mp H
    obtain ⟨⟨t114,t115,t116,t119⟩,A190,H⟩:=H
    replace H:((spec_l6Rd_pick.f kj2 s0_0 t119 2).bind fun bt121=>((spec_l92Seal.f kj2 s0_0 bt121.2 (wrap64 (a1 - 1))).bind fun bt123=>(some (wrap64 (1 + bt121.1),0,(([(⟨t114,t115,t116⟩:S25),(⟨bt123.1,bt123.2.1,bt123.2.2.1⟩:S25)]:List (S25))),bt123.2.2.2)))) = some (r1,r2,r3,r4):=H
    have A19:=Aside0.mk A190
    clear A190
    replace H:=Option.bind_eq_some_iff.mp H
    obtain ⟨⟨t121,t122⟩,A200,H⟩:=H
    replace H:((spec_l92Seal.f kj2 s0_0 t122 (wrap64 (a1 - 1))).bind fun bt123=>(some (wrap64 (1 + t121),0,(([(⟨t114,t115,t116⟩:S25),(⟨bt123.1,bt123.2.1,bt123.2.2.1⟩:S25)]:List (S25))),bt123.2.2.2))) = some (r1,r2,r3,r4):=H
    have A20:=Aside0.mk A200
    clear A200
    replace H:=Option.bind_eq_some_iff.mp H
    obtain ⟨⟨t123,t124,t125,t128⟩,A210,H⟩:=H
    replace H:(some (wrap64 (1 + t121),0,(([(⟨t114,t115,t116⟩:S25),(⟨t123,t124,t125⟩:S25)]:List (S25))),t128)) = some (r1,r2,r3,r4):=H
    have A21:=Aside0.mk A210
    clear A210
    obtain ⟨y129,hy129⟩:∃ y_:List (S25),y_ = (([(⟨t114,t115,t116⟩:S25),(⟨t123,t124,t125⟩:S25)]:List (S25))):=⟨_,rfl⟩
    replace H:(some (wrap64 (1 + t121),0,y129,t128)) = some (r1,r2,r3,r4):=by first | (rw [hy129];with_reducible exact H) | (have H2_:=(Option.bind_some _ _).symm.trans H;rw [hy129];with_reducible exact H2_) | (have H2_:=(Option.bind_some _ _).symm.trans H;with_reducible exact H2_) | with_reducible exact H | (rw [hy129];exact H) | exact H
    have Ny129:=Aside0.mk hy129
    clear hy129
    simp only [Option.some.injEq,Prod.mk.injEq] at H
    obtain ⟨rfl,rfl,rfl,rfl⟩:=H
    try go_wp2_with (first | ((with_reducible refine gate_callee (f:=40) rfl ?_);refine goesL_ (some 23) rfl rfl Tryd.func40 (by kernel_rfl) rfl #[.pointer (some ⟨g,0,none⟩),.int .i64 (wrap64 (a1 - 1))] rfl (by (try simp only [List.map_toArray,List.map_cons,List.map_nil]);first | done | rfl | (simp only [List.length_drop,List.length_take];rfl)) ?_;(with_reducible refine (ih kj2 (by have:=HJ2.out;omega) g s0_0 x1001_2 (wrap64 (a1 - 1)) t114 t115 t116 t119 w0 _ ?side1 ?side2 A19.out).mono ?_);(case side1=>repeat (first | (with_reducible first | exact HI0.out | apply IsS73.alloc | apply IsS73.drewN | apply IsS73.drew | apply IsS73.set_1 | refine IsS73.far ?_ NB0_107.out _) | exact HI0.out));(case side2=>repeat (first | (with_reducible first | exact HB.out | apply below_alloc | apply pw_below_drewN | apply below_drew1 | refine below_set ?_ (IsS73.ge HI0.out) | refine below_set ?_ GE107.out) | exact HB.out));rintro e w22 ⟨v117,rfl,ho0,hi,hb,hk⟩;refine ⟨_,rfl,?_⟩;have n0_:=Aside0.mk (KeepBut.blk hk (g':=gb107) (o:=.cells #[.int .i64 0,.int .i64 0,.slice none 0 0] 25 (0,0)) (by (with_reducible repeat (first | refine blk_drewN ?_ _ | refine blk_drew ?_ | refine blk_alloc ?_ _));exact BK107.out) NB107_0.out (by simp));have n1_:=Aside0.mk (Kd.N_lower (Kd.N_mono (ok':=fun k_=>(w.heap.size ≤ k_)∧k_ ≠ gb107∧k_ ≠ g) ho0 (fun k_ hk_=>⟨(Nat.le_trans (keep_size (w:=w) (g:=g) (row:=none) (by repeat (first | (with_reducible first | exact HK.out | apply KeepBut.set_ | apply keep_drewN | apply keep_drew | apply keep_alloc | refine keep_far ?_ GW107.out _) | exact HK.out))) hk_),(Kd.freshB (g:=gb107) (o:=.cells #[.int .i64 0,.int .i64 0,.slice none 0 0] 25 (0,0)) (by (with_reducible repeat (first | refine blk_drewN ?_ _ | refine blk_drew ?_ | refine blk_alloc ?_ _));exact BK107.out) k_ hk_),(IsS73.fresh (by repeat (first | (with_reducible first | exact HI0.out | apply IsS73.alloc | apply IsS73.drewN | apply IsS73.drew | apply IsS73.set_1 | refine IsS73.far ?_ NB0_107.out _) | exact HI0.out)) k_ hk_)⟩)) (keep_size (w:=w) (g:=g) (row:=none) (by repeat (first | (with_reducible first | exact HK.out | apply KeepBut.set_ | apply keep_drewN | apply keep_drew | apply keep_alloc | refine keep_far ?_ GW107.out _) | exact HK.out))));have n2_:=Aside0.mk (KeepBut.trans (by repeat (first | (with_reducible first | exact HK.out | apply KeepBut.set_ | apply keep_drewN | apply keep_drew | apply keep_alloc | refine keep_far ?_ GW107.out _) | exact HK.out)) hk (.inl rfl));have n3_:=Aside0.mk (hb);have n4_:=Aside0.mk (hi);clear BK107;clear HK;clear HB;clear HI0;have BK107:=n0_;have HO118:=n1_;have HK:=n2_;have HB:=n3_;have HI0:=n4_;clear n0_ n1_ n2_ n3_ n4_;(try clear hb);(try clear hb2);(try clear hk);(try clear hi);(try clear ho0)) | ((with_reducible refine gate_dst (N:=5) rfl ?_);refine box_event ?hg (N:=5) ?hd (cs:=#[.int .i64 0,.int .i64 0,.slice none 0 0]) (t:=25) ?hr ?_;(case hd=>rfl);(case hg=>rfl);(case hr=>first | (go_simp;done) | (go_simp;rfl));intro gb120 hg w23 hbox hb;have n0_:=Aside0.mk (Kd.N_below (Kd.N_elderB (by (with_reducible repeat (first | apply Kd.N_alloc | apply Kd.N_drewN | apply Kd.N_drew));exact HO118.out) gb120 (Nat.le_of_eq hg.symm)) hb);have n1_:=Aside0.mk (blk_below (g:=gb107) (o:=.cells #[.int .i64 0,.int .i64 0,.slice none 0 0] 25 (0,0)) (by (with_reducible repeat (first | refine blk_drewN ?_ _ | refine blk_drew ?_ | refine blk_alloc ?_ _));exact BK107.out) hb);have n2_:=Aside0.mk (IsS73.below (by repeat (first | (with_reducible first | exact HI0.out | apply IsS73.alloc | apply IsS73.drewN | apply IsS73.drew | apply IsS73.set_1 | refine IsS73.far ?_ NB0_107.out _) | exact HI0.out)) hb);have n3_:=Aside0.mk (KeepBut.trans (by repeat (first | (with_reducible first | exact HK.out | apply KeepBut.set_ | apply keep_drewN | apply keep_drew | apply keep_alloc | refine keep_far ?_ GW107.out _) | exact HK.out)) (KeepBut.of_below hb g none) (.inl rfl));have n4_:=Aside0.mk (below_step (by repeat (first | (with_reducible first | exact HB.out | apply below_alloc | apply pw_below_drewN | apply below_drew1 | refine below_set ?_ (IsS73.ge HI0.out) | refine below_set ?_ GE107.out) | exact HB.out)) hb);have n5_:=Aside0.mk (hbox);have n6_:=Aside0.mk ((by rw [hg];exact (keep_size (w:=w) (g:=g) (row:=none) (by repeat (first | (with_reducible first | exact HK.out | apply KeepBut.set_ | apply keep_drewN | apply keep_drew | apply keep_alloc | refine keep_far ?_ GW107.out _) | exact HK.out))):w.heap.size ≤ gb120));have n7_:=Aside0.mk ((Nat.le_trans HW0.out (by rw [hg];exact (keep_size (w:=w) (g:=g) (row:=none) (by repeat (first | (with_reducible first | exact HK.out | apply KeepBut.set_ | apply keep_drewN | apply keep_drew | apply keep_alloc | refine keep_far ?_ GW107.out _) | exact HK.out))):w.heap.size ≤ gb120):w0.heap.size ≤ gb120));have n8_:=Aside0.mk ((by rw [hg];exact Nat.ne_of_lt (blk_lt (g:=gb107) (o:=.cells #[.int .i64 0,.int .i64 0,.slice none 0 0] 25 (0,0)) (by (with_reducible repeat (first | refine blk_drewN ?_ _ | refine blk_drew ?_ | refine blk_alloc ?_ _));exact BK107.out)):gb107 ≠ gb120));have n9_:=Aside0.mk ((by rw [hg];exact Nat.ne_of_gt (blk_lt (g:=gb107) (o:=.cells #[.int .i64 0,.int .i64 0,.slice none 0 0] 25 (0,0)) (by (with_reducible repeat (first | refine blk_drewN ?_ _ | refine blk_drew ?_ | refine blk_alloc ?_ _));exact BK107.out)):gb120 ≠ gb107));have n10_:=Aside0.mk ((by rw [hg];exact Nat.ne_of_lt (IsS73.lt (show IsS73 w0 _ g s0_0 t119 from by repeat (first | (with_reducible first | exact HI0.out | apply IsS73.alloc | apply IsS73.drewN | apply IsS73.drew | apply IsS73.set_1 | refine IsS73.far ?_ NB0_107.out _) | exact HI0.out))):g ≠ gb120));have n11_:=Aside0.mk ((by rw [hg];exact Nat.ne_of_gt (IsS73.lt (show IsS73 w0 _ g s0_0 t119 from by repeat (first | (with_reducible first | exact HI0.out | apply IsS73.alloc | apply IsS73.drewN | apply IsS73.drew | apply IsS73.set_1 | refine IsS73.far ?_ NB0_107.out _) | exact HI0.out))):gb120 ≠ g));clear HO118;clear BK107;clear HI0;clear HK;clear HB;have HO118:=n0_;have BK107:=n1_;have HI0:=n2_;have HK:=n3_;have HB:=n4_;have BK120:=n5_;have GW120:=n6_;have GE120:=n7_;have NB107_120:=n8_;have NB120_107:=n9_;have NB0_120:=n10_;have NB120_0:=n11_;clear n0_ n1_ n2_ n3_ n4_ n5_ n6_ n7_ n8_ n9_ n10_ n11_;clear hb hbox hg;have hnb24:=NB120_107.out;have hnc24:=NB107_120.out;have hnb25:=NB120_0.out;have hnc25:=NB0_120.out;have hcz26_0:w23.cell? ⟨gb120,0,none⟩ = some (.int .i64 0):=(blk_cell BK120.out 0).trans rfl;have hcz26_1:w23.cell? ⟨gb120,1,none⟩ = some (.int .i64 0):=(blk_cell BK120.out 1).trans rfl;have hcz26_2:w23.cell? ⟨gb120,2,none⟩ = some (.slice none 0 0):=(blk_cell BK120.out 2).trans rfl;have hfz26_0:=blk_frozen BK120.out 0;have hfz26_1:=blk_frozen BK120.out 1;have hfz26_2:=blk_frozen BK120.out 2;obtain ⟨Ao27,co27,eo27⟩:=Kd.N_slice HO118.out;subst eo27))
    have n0_:Aside0 (Kd.N k25 25 (((w23.setCell ⟨gb120,0,none⟩ (.int .i64 t114)).setCell ⟨gb120,1,none⟩ (.int .i64 t115)).setCell ⟨gb120,2,none⟩ (.slice Ao27 t116.length co27)) w.heap.size (fun k_=>(w.heap.size ≤ k_)∧k_ ≠ gb107∧k_ ≠ g∧k_ ≠ gb120) (.slice Ao27 t116.length co27) t116):=⟨by (with_reducible repeat (first | apply Kd.N_alloc | apply Kd.N_drewN | apply Kd.N_drew));exact Kd.N_mono (Kd.N_far (p:=⟨gb120,2,none⟩) (Kd.N_far (p:=⟨gb120,1,none⟩) (Kd.N_far (p:=⟨gb120,0,none⟩) (Kd.N_mono HO118.out (fun k_ hk=>(⟨hk,hk.2⟩:_∧k_ ≠ gb120))) (fun _ hk=>hk.2) (.int .i64 t114)) (fun _ hk=>hk.2) (.int .i64 t115)) (fun _ hk=>hk.2) (.slice Ao27 t116.length co27)) (fun _ hk=>⟨hk.1.1.1,⟨hk.1.1.2.1,⟨hk.1.1.2.2,hk.1.2⟩⟩⟩)⟩
    have n1_:Aside0 ((((w23.setCell ⟨gb120,0,none⟩ (.int .i64 t114)).setCell ⟨gb120,1,none⟩ (.int .i64 t115)).setCell ⟨gb120,2,none⟩ (.slice Ao27 t116.length co27)).heap[gb107]? = some (.cells #[.int .i64 0,.int .i64 0,.slice none 0 0] 25 (0,0))):=⟨by (with_reducible repeat (first | refine blk_drewN ?_ _ | refine blk_drew ?_ | refine blk_alloc ?_ _));refine blk_far ?_ NB107_120.out _;(with_reducible repeat (first | refine blk_drewN ?_ _ | refine blk_drew ?_ | refine blk_alloc ?_ _));refine blk_far ?_ NB107_120.out _;(with_reducible repeat (first | refine blk_drewN ?_ _ | refine blk_drew ?_ | refine blk_alloc ?_ _));refine blk_far ?_ NB107_120.out _;(with_reducible repeat (first | refine blk_drewN ?_ _ | refine blk_drew ?_ | refine blk_alloc ?_ _));exact BK107.out⟩
    have n2_:Aside0 ((((w23.setCell ⟨gb120,0,none⟩ (.int .i64 t114)).setCell ⟨gb120,1,none⟩ (.int .i64 t115)).setCell ⟨gb120,2,none⟩ (.slice Ao27 t116.length co27)).heap[gb120]? = some (.cells #[.int .i64 t114,.int .i64 t115,.slice Ao27 t116.length co27] 25 (0,0))):=⟨by (with_reducible repeat (first | refine blk_drewN ?_ _ | refine blk_drew ?_ | refine blk_alloc ?_ _));refine blk_put (cs:=#[.int .i64 t114,.int .i64 t115,.slice none 0 0]) ?_ 2 _ rfl;(with_reducible repeat (first | refine blk_drewN ?_ _ | refine blk_drew ?_ | refine blk_alloc ?_ _));refine blk_put (cs:=#[.int .i64 t114,.int .i64 0,.slice none 0 0]) ?_ 1 _ rfl;(with_reducible repeat (first | refine blk_drewN ?_ _ | refine blk_drew ?_ | refine blk_alloc ?_ _));refine blk_put (cs:=#[.int .i64 0,.int .i64 0,.slice none 0 0]) ?_ 0 _ rfl;(with_reducible repeat (first | refine blk_drewN ?_ _ | refine blk_drew ?_ | refine blk_alloc ?_ _));exact BK120.out⟩
    have n3_:Aside0 (IsS73 w0 (((w23.setCell ⟨gb120,0,none⟩ (.int .i64 t114)).setCell ⟨gb120,1,none⟩ (.int .i64 t115)).setCell ⟨gb120,2,none⟩ (.slice Ao27 t116.length co27)) g s0_0 t119):=⟨by repeat (first | (with_reducible first | exact HI0.out | apply IsS73.alloc | apply IsS73.drewN | apply IsS73.drew | apply IsS73.set_1 | refine IsS73.far ?_ NB0_107.out _ | refine IsS73.far ?_ NB0_120.out _) | exact HI0.out)⟩
    have n4_:Aside0 (KeepBut w (((w23.setCell ⟨gb120,0,none⟩ (.int .i64 t114)).setCell ⟨gb120,1,none⟩ (.int .i64 t115)).setCell ⟨gb120,2,none⟩ (.slice Ao27 t116.length co27)) g none):=⟨by repeat (first | (with_reducible first | exact HK.out | apply KeepBut.set_ | apply keep_drewN | apply keep_drew | apply keep_alloc | refine keep_far ?_ GW107.out _ | refine keep_far ?_ GW120.out _) | exact HK.out)⟩
    have n5_:Aside0 (Below w0.heap.size w0 (((w23.setCell ⟨gb120,0,none⟩ (.int .i64 t114)).setCell ⟨gb120,1,none⟩ (.int .i64 t115)).setCell ⟨gb120,2,none⟩ (.slice Ao27 t116.length co27))):=⟨by repeat (first | (with_reducible first | exact HB.out | apply below_alloc | apply pw_below_drewN | apply below_drew1 | refine below_set ?_ (IsS73.ge HI0.out) | refine below_set ?_ GE107.out | refine below_set ?_ GE120.out) | exact HB.out)⟩
    (try clear HO118)
    (try clear BK107)
    (try clear BK120)
    (try clear HI0)
    (try clear HK)
    (try clear HB)
    generalize (((w23.setCell ⟨gb120,0,none⟩ (.int .i64 t114)).setCell ⟨gb120,1,none⟩ (.int .i64 t115)).setCell ⟨gb120,2,none⟩ (.slice Ao27 t116.length co27)) = w28 at n0_ n1_ n2_ n3_ n4_ n5_ ⊢
    have HO118:=n0_
    have BK107:=n1_
    have BK120:=n2_
    have HI0:=n3_
    have HK:=n4_
    have HB:=n5_
    clear n0_ n1_ n2_ n3_ n4_ n5_
    have n0_:=Aside0.mk (Kd.N_drew HO118.out)
    have n1_:=Aside0.mk (blk_drew BK107.out)
    have n2_:=Aside0.mk (blk_drew BK120.out)
    have n3_:=Aside0.mk (IsS73.drew HI0.out)
    have n4_:=Aside0.mk (keep_drew HK.out)
    have n5_:=Aside0.mk (below_drew1 HB.out)
    clear HO118
    clear BK107
    clear BK120
    clear HI0
    clear HK
    clear HB
    have HO118:=n0_
    have BK107:=n1_
    have BK120:=n2_
    have HI0:=n3_
    have HK:=n4_
    have HB:=n5_
    clear n0_ n1_ n2_ n3_ n4_ n5_
    refine start_ (n:=11) (S:=fun w'=>w'.cell? ⟨gb120,0,none⟩ = some (.int .i64 t114)∧w'.cell? ⟨gb120,1,none⟩ = some (.int .i64 t115)∧w'.cell? ⟨gb120,2,none⟩ = some (.slice Ao27 t116.length co27)) (ds:=[]) #[false,false,false,false,false,false,false,false,false,false,false] (by kernel_rfl) rfl rfl ⟨(blk_cell BK120.out 0).trans rfl,(blk_cell BK120.out 1).trans rfl,(blk_cell BK120.out 2).trans rfl⟩ (fun hHeld=>?_);refine with_tabW spec_l92Seal.tab6 spec_l92Seal.bits6 (fun HT_ HW_=>?_)
    generalize w28.drew = w29 at HO118 BK107 BK120 HI0 HK HB hHeld ⊢
    refine pure_ (i:=0) (N:=some 24) (v:=?_) (a':=?_) #[true,false,false,false,false,false,false,false,false,false,false] rfl rfl (any_of HT_.out (by kernel_rfl)) (fun _ _ _ h=>h) (Or.inl ⟨by rfl,?_⟩) ?_ ?_
    rotate_left;·intro w';go_simp;with_reducible rfl
    rotate_left;·simp only [Act.put,List.setIfInBounds_toArray,List.set_cons_zero,List.set_cons_succ,i64_w,i32_w];rfl
    refine pure_ (i:=4) (N:=some 28) (v:=?_) (a':=?_) #[true,false,false,false,true,false,false,false,false,false,false] rfl rfl (any_of HT_.out (by kernel_rfl)) (fun _ _ _ h=>h) (Or.inl ⟨by rfl,?_⟩) ?_ ?_
    rotate_left;·intro w';go_simp;with_reducible rfl
    rotate_left;·simp only [Act.put,List.setIfInBounds_toArray,List.set_cons_zero,List.set_cons_succ,i64_w,i32_w];rfl
    refine pure_ (i:=5) (N:=some 29) (v:=?_) (a':=?_) #[true,false,false,false,true,true,false,false,false,false,false] rfl rfl (any_of HT_.out (by kernel_rfl)) (fun _ _ _ h=>h) (Or.inl ⟨by rfl,?_⟩) ?_ ?_
    rotate_left;·intro w';go_simp;with_reducible rfl
    rotate_left;·simp only [Act.put,List.setIfInBounds_toArray,List.set_cons_zero,List.set_cons_succ,i64_w,i32_w];rfl
    refine pure_ (i:=6) (N:=some 30) (v:=?_) (a':=?_) #[true,false,false,false,true,true,true,false,false,false,false] rfl rfl (any_of HT_.out (by kernel_rfl)) (fun _ _ _ h=>h) (Or.inl ⟨by rfl,?_⟩) ?_ ?_
    rotate_left;·intro w';go_simp;with_reducible rfl
    rotate_left;·simp only [Act.put,List.setIfInBounds_toArray,List.set_cons_zero,List.set_cons_succ,i64_w,i32_w];rfl
    refine take_ (i:=3) (N:=some 27) (v:=?_) (a':=?_) #[true,false,false,true,true,true,true,false,false,false,false] rfl rfl (take_ofW HT_.out HW_.out (by kernel_rfl)) (fun _ _ _ h=>h) (Or.inl ⟨by rfl,?_⟩) hHeld ?_ ?_
    rotate_left;·rintro w' ⟨s0,s1,s2⟩;go_simp;with_reducible rfl
    rotate_left;·simp only [Act.put,List.setIfInBounds_toArray,List.set_cons_zero,List.set_cons_succ,i64_w,i32_w];rfl
    refine one_ (i:=1) (N:=some 25) #[true,true,false,true,true,true,true,false,false,false,false] rfl rfl (one_of HT_.out (by kernel_rfl)) (by decide) (fun K hK=>?_)
    refine goes_ Tryd.func41 (by kernel_rfl) rfl #[.pointer (some ⟨g,0,none⟩),.int .i64 2] (by rfl) rfl rfl (by (try simp only [List.map_toArray,List.map_cons,List.map_nil]);first | done | rfl | (simp only [List.length_drop,List.length_take];rfl)) ?_
    with_reducible refine (spec_l6Rd_pick.calls kj2 g s0_0 t119 2 t121 t122 w0 _ ?side1 ?side2 A20.out).mono ?_
    (case side1=>repeat (first | (with_reducible first | exact HI0.out | apply IsS73.alloc | apply IsS73.drewN | apply IsS73.drew | apply IsS73.set_1 | refine IsS73.far ?_ NB0_107.out _ | refine IsS73.far ?_ NB0_120.out _) | exact HI0.out))
    (case side2=>repeat (first | (with_reducible first | exact HB.out | apply below_alloc | apply pw_below_drewN | apply below_drew1 | refine below_set ?_ (IsS73.ge HI0.out) | refine below_set ?_ GE107.out | refine below_set ?_ GE120.out) | exact HB.out))
    rintro e w30 ⟨rfl,hi,hb,hk⟩
    refine ⟨_,rfl,?_⟩
    have n0_:=Aside0.mk (KeepBut.blk hk (g':=gb107) (o:=.cells #[.int .i64 0,.int .i64 0,.slice none 0 0] 25 (0,0)) (by (with_reducible repeat (first | refine blk_drewN ?_ _ | refine blk_drew ?_ | refine blk_alloc ?_ _));exact BK107.out) NB107_0.out (by simp))
    have n1_:=Aside0.mk (Kd.N_mono (Kd.N_keep (Kd.N_mono (ok:=fun k_=>(((w.heap.size ≤ k_))∧(k_ ≠ gb107∧(k_ ≠ g∧k_ ≠ gb120)))) (by (with_reducible repeat (first | apply Kd.N_alloc | apply Kd.N_drewN | apply Kd.N_drew));exact HO118.out) (fun k_ hk_=>(⟨hk_,hk_.2.2.1⟩:_∧k_ ≠ g))) hk (fun _ h=>h.2)) (fun _ h=>h.1))
    have n2_:=Aside0.mk (KeepBut.blk hk (g':=gb120) (o:=.cells #[.int .i64 t114,.int .i64 t115,.slice Ao27 t116.length co27] 25 (0,0)) (by (with_reducible repeat (first | refine blk_drewN ?_ _ | refine blk_drew ?_ | refine blk_alloc ?_ _));exact BK120.out) NB120_0.out (by simp))
    have n3_:=Aside0.mk (KeepBut.trans (by repeat (first | (with_reducible first | exact HK.out | apply KeepBut.set_ | apply keep_drewN | apply keep_drew | apply keep_alloc | refine keep_far ?_ GW107.out _ | refine keep_far ?_ GW120.out _) | exact HK.out)) hk (.inl rfl))
    have n4_:=Aside0.mk (hb)
    have n5_:=Aside0.mk (hi)
    clear BK107
    clear HO118
    clear BK120
    clear HK
    clear HB
    clear HI0
    have BK107:=n0_
    have HO118:=n1_
    have BK120:=n2_
    have HK:=n3_
    have HB:=n4_
    have HI0:=n5_
    clear n0_ n1_ n2_ n3_ n4_ n5_
    (try clear hb)
    (try clear hb2)
    (try clear hk)
    (try clear hi)
    refine hK.out _ _ ⟨(blk_cell BK120.out 0).trans rfl,(blk_cell BK120.out 1).trans rfl,(blk_cell BK120.out 2).trans rfl⟩ (fun hHeld=>?_)
    clear hK K
    refine norm_ (a':=?_) ?_ ?_
    rotate_left
    ·show Act.put _ (some 25) _ = _
     simp only [Act.put,List.setIfInBounds_toArray,List.set_cons_zero,List.set_cons_succ,i64_w,i32_w]
     rfl
    refine pure_ (i:=2) (N:=some 26) (v:=?_) (a':=?_) #[true,true,true,true,true,true,true,false,false,false,false] rfl rfl (any_of HT_.out (by kernel_rfl)) (fun _ _ _ h=>h) (Or.inl ⟨by rfl,?_⟩) ?_ ?_
    rotate_left;·intro w';go_simp;with_reducible rfl
    rotate_left;·simp only [Act.put,List.setIfInBounds_toArray,List.set_cons_zero,List.set_cons_succ,i64_w,i32_w];rfl
    refine one_ (i:=7) (N:=some 31) #[true,true,true,true,true,true,true,true,false,false,false] rfl rfl (one_of HT_.out (by kernel_rfl)) (by decide) (fun K hK=>?_)
    refine goes_ Tryd.func40 (by kernel_rfl) rfl #[.pointer (some ⟨g,0,none⟩),.int .i64 (wrap64 (a1 - 1))] (by rfl) rfl rfl (by (try simp only [List.map_toArray,List.map_cons,List.map_nil]);first | done | rfl | (simp only [List.length_drop,List.length_take];rfl)) ?_
    with_reducible refine (ih kj2 (by have:=HJ2.out;omega) g s0_0 t122 (wrap64 (a1 - 1)) t123 t124 t125 t128 w0 _ ?side1 ?side2 A21.out).mono ?_
    (case side1=>repeat (first | (with_reducible first | exact HI0.out | apply IsS73.alloc | apply IsS73.drewN | apply IsS73.drew | apply IsS73.set_1 | refine IsS73.far ?_ NB0_107.out _ | refine IsS73.far ?_ NB0_120.out _) | exact HI0.out))
    (case side2=>repeat (first | (with_reducible first | exact HB.out | apply below_alloc | apply pw_below_drewN | apply below_drew1 | refine below_set ?_ (IsS73.ge HI0.out) | refine below_set ?_ GE107.out | refine below_set ?_ GE120.out) | exact HB.out))
    rintro e w31 ⟨v126,rfl,ho0,hi,hb,hk⟩
    refine ⟨_,rfl,?_⟩
    have n0_:=Aside0.mk (KeepBut.blk hk (g':=gb107) (o:=.cells #[.int .i64 0,.int .i64 0,.slice none 0 0] 25 (0,0)) (by (with_reducible repeat (first | refine blk_drewN ?_ _ | refine blk_drew ?_ | refine blk_alloc ?_ _));exact BK107.out) NB107_0.out (by simp))
    have n1_:=Aside0.mk (Kd.N_mono (Kd.N_told (Kd.N_oldK (Kd.N_mono (ok:=fun k_=>(((w.heap.size ≤ k_))∧(k_ ≠ gb107∧(k_ ≠ g∧k_ ≠ gb120)))) (by (with_reducible repeat (first | apply Kd.N_alloc | apply Kd.N_drewN | apply Kd.N_drew));exact HO118.out) (fun k_ hk_=>(⟨hk_,hk_.2.2.1⟩:_∧k_ ≠ g))) hk) (Kd.N_base ho0)) (fun _ h_=>h_.1))
    have n2_:=Aside0.mk (KeepBut.blk hk (g':=gb120) (o:=.cells #[.int .i64 t114,.int .i64 t115,.slice Ao27 t116.length co27] 25 (0,0)) (by (with_reducible repeat (first | refine blk_drewN ?_ _ | refine blk_drew ?_ | refine blk_alloc ?_ _));exact BK120.out) NB120_0.out (by simp))
    have n3_:=Aside0.mk (Kd.N_lower (Kd.N_mono (ok':=fun k_=>(w.heap.size ≤ k_)∧some k_ ≠ (.slice Ao27 t116.length co27:Value).ownBlock∧k_ ≠ gb107∧k_ ≠ gb120∧k_ ≠ g) ho0 (fun k_ hk_=>⟨(Nat.le_trans (keep_size (w:=w) (g:=g) (row:=none) (by repeat (first | (with_reducible first | exact HK.out | apply KeepBut.set_ | apply keep_drewN | apply keep_drew | apply keep_alloc | refine keep_far ?_ GW107.out _ | refine keep_far ?_ GW120.out _) | exact HK.out))) hk_),(Kd.fresh' (Kd.N_lt (by (with_reducible repeat (first | apply Kd.N_alloc | apply Kd.N_drewN | apply Kd.N_drew));exact HO118.out)) k_ hk_),(Kd.freshB (g:=gb107) (o:=.cells #[.int .i64 0,.int .i64 0,.slice none 0 0] 25 (0,0)) (by (with_reducible repeat (first | refine blk_drewN ?_ _ | refine blk_drew ?_ | refine blk_alloc ?_ _));exact BK107.out) k_ hk_),(Kd.freshB (g:=gb120) (o:=.cells #[.int .i64 t114,.int .i64 t115,.slice Ao27 t116.length co27] 25 (0,0)) (by (with_reducible repeat (first | refine blk_drewN ?_ _ | refine blk_drew ?_ | refine blk_alloc ?_ _));exact BK120.out) k_ hk_),(IsS73.fresh (by repeat (first | (with_reducible first | exact HI0.out | apply IsS73.alloc | apply IsS73.drewN | apply IsS73.drew | apply IsS73.set_1 | refine IsS73.far ?_ NB0_107.out _ | refine IsS73.far ?_ NB0_120.out _) | exact HI0.out)) k_ hk_)⟩)) (keep_size (w:=w) (g:=g) (row:=none) (by repeat (first | (with_reducible first | exact HK.out | apply KeepBut.set_ | apply keep_drewN | apply keep_drew | apply keep_alloc | refine keep_far ?_ GW107.out _ | refine keep_far ?_ GW120.out _) | exact HK.out))))
    have n4_:=Aside0.mk (KeepBut.trans (by repeat (first | (with_reducible first | exact HK.out | apply KeepBut.set_ | apply keep_drewN | apply keep_drew | apply keep_alloc | refine keep_far ?_ GW107.out _ | refine keep_far ?_ GW120.out _) | exact HK.out)) hk (.inl rfl))
    have n5_:=Aside0.mk (hb)
    have n6_:=Aside0.mk (hi)
    clear BK107
    clear HO118
    clear BK120
    clear HK
    clear HB
    clear HI0
    have BK107:=n0_
    have HO118:=n1_
    have BK120:=n2_
    have HO127:=n3_
    have HK:=n4_
    have HB:=n5_
    have HI0:=n6_
    clear n0_ n1_ n2_ n3_ n4_ n5_ n6_
    (try clear hb)
    (try clear hb2)
    (try clear hk)
    (try clear hi)
    (try clear ho0)
    obtain ⟨Ao32,co32,eo32⟩:=Kd.N_slice HO127.out
    (first | subst eo32 | (injection eo32 with f1_ f2_ f3_;have f4_:=f1_.symm;have f5_:=f3_.symm;clear f1_ f2_ f3_;subst f4_;subst f5_))
    refine hK.out _ _ ⟨(blk_cell BK120.out 0).trans rfl,(blk_cell BK120.out 1).trans rfl,(blk_cell BK120.out 2).trans rfl⟩ (fun hHeld=>?_)
    clear hK K
    refine norm_ (a':=?_) ?_ ?_
    rotate_left
    ·show Act.put _ (some 31) _ = _
     simp only [Act.put,List.setIfInBounds_toArray,List.set_cons_zero,List.set_cons_succ,i64_w,i32_w]
     rfl
    refine one_ (i:=8) (N:=some 32) #[true,true,true,true,true,true,true,true,true,false,false] rfl rfl (one_of HT_.out (by kernel_rfl)) (by decide) (fun K hK=>?_)
    refine Kd.N_lit_step k25 _ 25 ?hg (N':=32) ?hd (xs:=([(⟨t114,t115,t116⟩:S25),(⟨t123,t124,t125⟩:S25)]:List (S25))) (inner:=[.int .i64 t114,.int .i64 t115,.slice Ao27 t116.length co27,.int .i64 t123,.int .i64 t124,.slice Ao32 t125.length co32]) (ok:=(fun k_=>(w.heap.size ≤ k_)∧k_ ≠ gb107∧k_ ≠ gb120∧k_ ≠ g)) (okp:=(fun k_=>(w.heap.size ≤ k_)∧k_ ≠ gb107∧k_ ≠ gb120∧k_ ≠ g)) ?hr ?hp (fun _ hk=>hk) ((show ∀ k_,w31.heap.size ≤ k_ → (fun k_=>(w.heap.size ≤ k_)∧k_ ≠ gb107∧k_ ≠ gb120∧k_ ≠ g) k_ from fun k_ hk=>⟨(Nat.le_trans (keep_size (w:=w) (g:=g) (row:=none) (by repeat (first | (with_reducible first | exact HK.out | apply KeepBut.set_ | apply keep_drewN | apply keep_drew | apply keep_alloc | refine keep_far ?_ GW107.out _ | refine keep_far ?_ GW120.out _) | exact HK.out))) hk),Kd.freshB (g:=gb107) (o:=.cells #[.int .i64 0,.int .i64 0,.slice none 0 0] 25 (0,0)) (by (with_reducible repeat (first | refine blk_drewN ?_ _ | refine blk_drew ?_ | refine blk_alloc ?_ _));exact BK107.out) k_ hk,Kd.freshB (g:=gb120) (o:=.cells #[.int .i64 t114,.int .i64 t115,.slice Ao27 t116.length co27] 25 (0,0)) (by (with_reducible repeat (first | refine blk_drewN ?_ _ | refine blk_drew ?_ | refine blk_alloc ?_ _));exact BK120.out) k_ hk,IsS73.fresh (by repeat (first | (with_reducible first | exact HI0.out | apply IsS73.alloc | apply IsS73.drewN | apply IsS73.drew | apply IsS73.set_1 | refine IsS73.far ?_ NB0_107.out _ | refine IsS73.far ?_ NB0_120.out _) | exact HI0.out)) k_ hk⟩) _ (Nat.le_refl _)) (Below.refl _ _) (Nat.le_refl _) (by simp) ?_;(case hd=>rfl);(case hg=>rfl);(case hr=>first | (go_simp;done) | (go_simp;rfl));(case hp=>exact (Reps.c3 (show Kd.FK k25 _ _ (⟨t114,t115,t116⟩:S25) [.int .i64 t114,.int .i64 t115,.slice Ao27 t116.length co27] from (k25_mkF _ _ (⟨t114,t115,t116⟩:S25) (Kd.N_reads' (Kd.N_mono (ok':=(fun k_=>(w.heap.size ≤ k_)∧k_ ≠ gb107∧k_ ≠ gb120∧k_ ≠ g)) (HO118.out) (fun k_ hk=>⟨hk.1.1,⟨hk.1.2.1,⟨hk.1.2.2.2,hk.1.2.2.1⟩⟩⟩))).2.1 (Kd.N_F (Kd.N_mono (ok':=(fun k_=>(w.heap.size ≤ k_)∧k_ ≠ gb107∧k_ ≠ gb120∧k_ ≠ g)) (HO118.out) (fun k_ hk=>⟨hk.1.1,⟨hk.1.2.1,⟨hk.1.2.2.2,hk.1.2.2.1⟩⟩⟩))))) (Reps.c3 (show Kd.FK k25 _ _ (⟨t123,t124,t125⟩:S25) [.int .i64 t123,.int .i64 t124,.slice Ao32 t125.length co32] from (k25_mkF _ _ (⟨t123,t124,t125⟩:S25) (Kd.N_reads' (Kd.N_mono (ok':=(fun k_=>(w.heap.size ≤ k_)∧k_ ≠ gb107∧k_ ≠ gb120∧k_ ≠ g)) (HO127.out) (fun k_ hk=>⟨hk.1,⟨hk.2.2.1,⟨hk.2.2.2.1,hk.2.2.2.2⟩⟩⟩))).2.1 (Kd.N_F (Kd.N_mono (ok':=(fun k_=>(w.heap.size ≤ k_)∧k_ ≠ gb107∧k_ ≠ gb120∧k_ ≠ g)) (HO127.out) (fun k_ hk=>⟨hk.1,⟨hk.2.2.1,⟨hk.2.2.2.1,hk.2.2.2.2⟩⟩⟩))))) (Reps.none _ _))))
    intro v130 w33 ho34 hb hg_ hnew_
    clear hg_ hnew_
    (first | rw [← Ny129.out] at ho34 | (simp only [Int.reduceToNat] at ho34;rw [← Ny129.out] at ho34))
    have n0_:=Aside0.mk (Kd.N_lower ho34 (keep_size (w:=w) (g:=g) (row:=none) (by repeat (first | (with_reducible first | exact HK.out | apply KeepBut.set_ | apply keep_drewN | apply keep_drew | apply keep_alloc | refine keep_far ?_ GW107.out _ | refine keep_far ?_ GW120.out _) | exact HK.out))))
    have n1_:=Aside0.mk (blk_below (g:=gb107) (o:=.cells #[.int .i64 0,.int .i64 0,.slice none 0 0] 25 (0,0)) (by (with_reducible repeat (first | refine blk_drewN ?_ _ | refine blk_drew ?_ | refine blk_alloc ?_ _));exact BK107.out) hb)
    have n2_:=Aside0.mk (IsS73.below (by repeat (first | (with_reducible first | exact HI0.out | apply IsS73.alloc | apply IsS73.drewN | apply IsS73.drew | apply IsS73.set_1 | refine IsS73.far ?_ NB0_107.out _ | refine IsS73.far ?_ NB0_120.out _) | exact HI0.out)) hb)
    have n3_:=Aside0.mk (blk_below (g:=gb120) (o:=.cells #[.int .i64 t114,.int .i64 t115,.slice Ao27 t116.length co27] 25 (0,0)) (by (with_reducible repeat (first | refine blk_drewN ?_ _ | refine blk_drew ?_ | refine blk_alloc ?_ _));exact BK120.out) hb)
    have n4_:=Aside0.mk (KeepBut.trans (by repeat (first | (with_reducible first | exact HK.out | apply KeepBut.set_ | apply keep_drewN | apply keep_drew | apply keep_alloc | refine keep_far ?_ GW107.out _ | refine keep_far ?_ GW120.out _) | exact HK.out)) (KeepBut.of_below hb g none) (.inl rfl))
    have n5_:=Aside0.mk (below_step (by repeat (first | (with_reducible first | exact HB.out | apply below_alloc | apply pw_below_drewN | apply below_drew1 | refine below_set ?_ (IsS73.ge HI0.out) | refine below_set ?_ GE107.out | refine below_set ?_ GE120.out) | exact HB.out)) hb)
    clear BK107
    clear HI0
    clear BK120
    clear HK
    clear HB
    clear HO118
    clear HO127
    have HO131:=n0_
    have BK107:=n1_
    have HI0:=n2_
    have BK120:=n3_
    have HK:=n4_
    have HB:=n5_
    clear n0_ n1_ n2_ n3_ n4_ n5_
    clear hb ho34
    obtain ⟨Ao35,co35,eo35⟩:=Kd.N_slice HO131.out
    (first | subst eo35 | (injection eo35 with f1_ f2_ f3_;have f4_:=f1_.symm;have f5_:=f3_.symm;clear f1_ f2_ f3_;subst f4_;subst f5_))
    refine hK.out _ _ ⟨(blk_cell BK120.out 0).trans rfl,(blk_cell BK120.out 1).trans rfl,(blk_cell BK120.out 2).trans rfl⟩ (fun hHeld=>?_)
    clear hK K
    refine norm_ (a':=?_) ?_ ?_
    rotate_left
    ·show Act.put _ (some 32) _ = _
     simp only [Act.put,List.setIfInBounds_toArray,List.set_cons_zero,List.set_cons_succ,i64_w,i32_w]
     rfl
    refine pure_ (i:=9) (N:=some 33) (v:=?_) (a':=?_) #[true,true,true,true,true,true,true,true,true,true,false] rfl rfl (any_of HT_.out (by kernel_rfl)) (fun _ _ _ h=>h) (Or.inl ⟨by rfl,?_⟩) ?_ ?_
    rotate_left;·intro w';go_simp;with_reducible rfl
    rotate_left;·simp only [Act.put,List.setIfInBounds_toArray,List.set_cons_zero,List.set_cons_succ,i64_w,i32_w];rfl
    refine one_ (i:=10) (N:=none) #[true,true,true,true,true,true,true,true,true,true,true] rfl rfl (one_of HT_.out (by kernel_rfl)) (by decide) (fun K hK=>?_)
    have hs36:w33.cell? ⟨gb107,0,none⟩ = some (.int .i64 0):=(blk_cell BK107.out 0).trans rfl
    have hfs36:=blk_frozen BK107.out 0
    have hns36_1:=NB120_107.out
    have hms36_1:=NB107_120.out
    have hs37:w33.cell? ⟨gb107,1,none⟩ = some (.int .i64 0):=(blk_cell BK107.out 1).trans rfl
    have hfs37:=blk_frozen BK107.out 1
    have hns37_1:=NB120_107.out
    have hms37_1:=NB107_120.out
    have hs38:w33.cell? ⟨gb107,2,none⟩ = some (.slice none 0 0):=(blk_cell BK107.out 2).trans rfl
    have hfs38:=blk_frozen BK107.out 2
    have hns38_1:=NB120_107.out
    have hms38_1:=NB107_120.out
    refine skip_ (w1:=?_) (by rfl) rfl ?_ ?_
    rotate_left
    ·go_simp
     rfl
    refine hK.out _ _ ⟨((cell_far (p:=⟨gb107,_,none⟩) NB120_107.out _).trans (((cell_far (p:=⟨gb107,_,none⟩) NB120_107.out _).trans (((cell_far (p:=⟨gb107,_,none⟩) NB120_107.out _).trans (hHeld.1)))))),((cell_far (p:=⟨gb107,_,none⟩) NB120_107.out _).trans (((cell_far (p:=⟨gb107,_,none⟩) NB120_107.out _).trans (((cell_far (p:=⟨gb107,_,none⟩) NB120_107.out _).trans (hHeld.2.1)))))),((cell_far (p:=⟨gb107,_,none⟩) NB120_107.out _).trans (((cell_far (p:=⟨gb107,_,none⟩) NB120_107.out _).trans (((cell_far (p:=⟨gb107,_,none⟩) NB120_107.out _).trans (hHeld.2.2))))))⟩ (fun hHeld=>?_)
    clear hK K
    refine done_ (done_of HT_.out (by kernel_rfl)) ?_
    try go_wp2
    refine bodyPost_ret (results_cell_row rfl _ _ gb107 25 #[.int .i64 (wrap64 (1 + t121)),.int .i64 0,.slice Ao35 y129.length co35] (0,0) _ rfl (by (with_reducible repeat (first | refine blk_drewN ?_ _ | refine blk_drew ?_ | refine blk_alloc ?_ _));refine blk_put (cs:=#[.int .i64 (wrap64 (1 + t121)),.int .i64 0,.slice none 0 0]) ?_ 2 _ rfl;(with_reducible repeat (first | refine blk_drewN ?_ _ | refine blk_drew ?_ | refine blk_alloc ?_ _));refine blk_put (cs:=#[.int .i64 (wrap64 (1 + t121)),.int .i64 0,.slice none 0 0]) ?_ 1 _ rfl;(with_reducible repeat (first | refine blk_drewN ?_ _ | refine blk_drew ?_ | refine blk_alloc ?_ _));refine blk_put (cs:=#[.int .i64 0,.int .i64 0,.slice none 0 0]) ?_ 0 _ rfl;(with_reducible repeat (first | refine blk_drewN ?_ _ | refine blk_drew ?_ | refine blk_alloc ?_ _));exact BK107.out) Tryd.underlying25 rfl (by kernel_rfl)) rfl ?_
    exact ⟨_,by first | rfl | (simp [errW_none,errW_some] <;> rfl) | (simp [*,errW_none,errW_some] <;> rfl),by (with_reducible repeat (first | apply Kd.N_alloc | apply Kd.N_drewN | apply Kd.N_drew));exact Kd.N_mono (Kd.N_far (p:=⟨gb107,2,none⟩) (Kd.N_far (p:=⟨gb107,1,none⟩) (Kd.N_far (p:=⟨gb107,0,none⟩) (Kd.N_mono HO131.out (fun k_ hk=>(⟨hk,hk.2.1⟩:_∧k_ ≠ gb107))) (fun _ hk=>hk.2) (.int .i64 (wrap64 (1 + t121)))) (fun _ hk=>hk.2) (.int .i64 0)) (fun _ hk=>hk.2) (.slice Ao35 y129.length co35)) (fun _ hk=>hk.1.1),by repeat (first | (with_reducible first | exact HI0.out | apply IsS73.alloc | apply IsS73.drewN | apply IsS73.drew | apply IsS73.set_1 | refine IsS73.far ?_ NB0_107.out _ | refine IsS73.far ?_ NB0_120.out _) | exact HI0.out),by repeat (first | (with_reducible first | exact HB.out | apply below_alloc | apply pw_below_drewN | apply below_drew1 | refine below_set ?_ (IsS73.ge HI0.out) | refine below_set ?_ GE107.out | refine below_set ?_ GE120.out) | exact HB.out),by repeat (first | (with_reducible first | exact HK.out | apply KeepBut.set_ | apply keep_drewN | apply keep_drew | apply keep_alloc | refine keep_far ?_ GW107.out _ | refine keep_far ?_ GW120.out _) | exact HK.out)⟩
def spec_l20Made.f:Nat → List (S25) → Int → Int → List (S25) → Option (Bool)
 | 0,_,_,_,_=>none
 | k + 1,l0,a1_0,a1_1,l1_2=>(spec_l20Has.f k l0 a1_0 a1_1 l1_2).bind fun t459=>(if t459 = true then (some true) else (if a1_0 = 0 then (some false) else (if 0 < (l1_2.length:Int) then ((spec_l20Made.f k l0 ((rd_T25 l1_2 0).f0) ((rd_T25 l1_2 0).f1) ((rd_T25 l1_2 0).f2)).bind fun t461=>(if t461 = true then (if 1 < (l1_2.length:Int) then ((spec_l20Made.f k l0 ((rd_T25 l1_2 1).f0) ((rd_T25 l1_2 1).f1) ((rd_T25 l1_2 1).f2)).bind fun t463=>(some t463)) else (none)) else (some false))) else (none))))
theorem spec_l20Made.mono_l:∀ k,(∀ y0 y1 y2 y3,LeO (spec_l20Made.f k y0 y1 y2 y3) (spec_l20Made.f (k + 1) y0 y1 y2 y3))
 | 0=>fun _ _ _ _ r h=>by simp [spec_l20Made.f] at h
 | k + 1=>by
  have ih0:=spec_l20Made.mono_l k
  ·intro y0 y1 y2 y3
   unfold spec_l20Made.f
   repeat' first
   | (with_reducible exact ih0 _ _ _ _)
   | (with_reducible exact spec_l20Has.mono _ _ _ _ _)
   | (with_reducible exact LeO.refl _)
   | (with_reducible exact LeO.none _)
   | (with_reducible refine LeO.ite ?_ ?_)
   | (with_reducible refine LeO.bind ?_ (fun _=>?_))
   | exact ih0 _ _ _ _
   | exact spec_l20Has.mono _ _ _ _ _
   | exact LeO.none _
   | refine LeO.ite ?_ ?_
   | refine LeO.bind ?_ (fun _=>?_)
theorem spec_l20Made.mono:∀ a0 a1 a2 a3 k,LeO (spec_l20Made.f k a0 a1 a2 a3) (spec_l20Made.f (k + 1) a0 a1 a2 a3):=by
 intro a0 a1 a2 a3 k
 have ih0:=spec_l20Made.mono_l k
 exact ih0 a0 a1 a2 a3
set_option maxHeartbeats 8000000 in
set_option maxRecDepth 100000 in
theorem spec_l20Made.calls (k:Nat):∀ (A0:Option Addr) (c0:Nat) (l0:List (S25)) (a1_0:Int) (a1_1:Int) (A1_2:Option Addr) (c1_2:Nat) (l1_2:List (S25)) (r:Bool) (w:World) (hr0:Kd.C k25 w A0 l0.length l0) (hc0:l0.length ≤ c0) (hr1_2:Kd.C k25 w A1_2 l1_2.length l1_2) (hc1_2:l1_2.length ≤ c1_2) (h:spec_l20Made.f k l0 a1_0 a1_1 l1_2 = some r),
  Calls Tryd.prog 52 #[.slice A0 l0.length c0,.agg #[.int .i64 a1_0,.int .i64 a1_1,.slice A1_2 l1_2.length c1_2]] w fun e w'=>e = .returned (.bool r)∧Below w.heap.size w w':=by
 induction k using Nat.strongRecOn with
 | _ k ih =>
 intro A0 c0 l0 a1_0 a1_1 A1_2 c1_2 l1_2 r w hr0 hc0 hr1_2 hc1_2 h
 cases k with
 | zero=>exact absurd h (by simp [spec_l20Made.f])
 | succ k =>
 simp only [spec_l20Made.f] at h
 have hu25:=Tryd.underlying25
 have HR0:=Aside0.mk hr0
 have HC0:=Aside0.mk hc0
 clear hr0 hc0
 have HR1_2:=Aside0.mk hr1_2
 have HC1_2:=Aside0.mk hc1_2
 clear hr1_2 hc1_2
 have HB:=Aside0.mk (Below.refl w.heap.size w)
 have H:((spec_l20Has.f k l0 a1_0 a1_1 l1_2).bind fun t459=>(if t459 = true then (some true) else (if a1_0 = 0 then (some false) else (if 0 < (l1_2.length:Int) then ((spec_l20Made.f k l0 ((rd_T25 l1_2 0).f0) ((rd_T25 l1_2 0).f1) ((rd_T25 l1_2 0).f2)).bind fun t461=>(if t461 = true then (if 1 < (l1_2.length:Int) then ((spec_l20Made.f k l0 ((rd_T25 l1_2 1).f0) ((rd_T25 l1_2 1).f1) ((rd_T25 l1_2 1).f2)).bind fun t463=>(some t463)) else (none)) else (some false))) else (none))))) = some r:=h
 clear h
 replace H:=Option.bind_eq_some_iff.mp H
 obtain ⟨t459,A30,H⟩:=H
 replace H:(if t459 = true then (some true) else (if a1_0 = 0 then (some false) else (if 0 < (l1_2.length:Int) then ((spec_l20Made.f k l0 ((rd_T25 l1_2 0).f0) ((rd_T25 l1_2 0).f1) ((rd_T25 l1_2 0).f2)).bind fun t461=>(if t461 = true then (if 1 < (l1_2.length:Int) then ((spec_l20Made.f k l0 ((rd_T25 l1_2 1).f0) ((rd_T25 l1_2 1).f1) ((rd_T25 l1_2 1).f2)).bind fun t463=>(some t463)) else (none)) else (some false))) else (none)))) = some r:=H
 have A3:=Aside0.mk A30
 clear A30
 by_cases c4:t459 = true
 ·subst c4
  have H1:(some true) = some r:=by rw [if_pos rfl] at H;exact H
  clear H
  have H:=H1
  clear H1
  obtain rfl:=Option.some.inj H
  go_enter Tryd.func52,Tryd.ntmps52
  go_wp2_with (first | ((with_reducible refine gate_dst (N:=3) rfl ?_);refine box_event ?hg (N:=3) ?hd (cs:=#[.int .i64 a1_0,.int .i64 a1_1,.slice A1_2 l1_2.length c1_2]) (t:=25) ?hr ?_;(case hd=>rfl);(case hg=>rfl);(case hr=>first | (go_simp;done) | (go_simp;rfl));intro gb458 hg w5 hbox hb;have n0_:=Aside0.mk (below_step (by repeat (first | (with_reducible first | exact HB.out | apply below_alloc | apply pw_below_drewN | apply below_drew1) | exact HB.out)) hb);have n1_:=Aside0.mk (hbox);have n2_:=Aside0.mk ((by rw [hg];exact (below_size (by repeat (first | (with_reducible first | exact HB.out | apply below_alloc | apply pw_below_drewN | apply below_drew1) | exact HB.out))):w.heap.size ≤ gb458));have n3_:=Aside0.mk ((by rw [hg];exact (below_size (by repeat (first | (with_reducible first | exact HB.out | apply below_alloc | apply pw_below_drewN | apply below_drew1) | exact HB.out))):w.heap.size ≤ gb458));clear HB;have HB:=n0_;have BK458:=n1_;have GW458:=n2_;have GE458:=n3_;clear n0_ n1_ n2_ n3_;clear hb hbox hg;have hcz6_0:w5.cell? ⟨gb458,0,none⟩ = some (.int .i64 a1_0):=(blk_cell BK458.out 0).trans rfl;have hcz6_1:w5.cell? ⟨gb458,1,none⟩ = some (.int .i64 a1_1):=(blk_cell BK458.out 1).trans rfl;have hcz6_2:w5.cell? ⟨gb458,2,none⟩ = some (.slice A1_2 l1_2.length c1_2):=(blk_cell BK458.out 2).trans rfl;have hfz6_0:=blk_frozen BK458.out 0;have hfz6_1:=blk_frozen BK458.out 1;have hfz6_2:=blk_frozen BK458.out 2) | ((with_reducible refine gate_callee (f:=63) rfl ?_);refine goesL_ (some 7) rfl rfl Tryd.func63 (by kernel_rfl) rfl #[.slice A0 l0.length c0,.agg #[.int .i64 a1_0,.int .i64 a1_1,.slice A1_2 l1_2.length c1_2]] rfl (by (try simp only [List.map_toArray,List.map_cons,List.map_nil]);first | done | rfl | (simp only [List.length_drop,List.length_take];rfl)) ?_;(with_reducible refine (spec_l20Has.calls k _ _ l0 a1_0 a1_1 _ _ l1_2 true _ ?side1 ?side2 ?side3 ?side4 A3.out).mono ?_);(case side1=>repeat (first | exact (Kd.C_below HR0.out HB.out) | (with_reducible refine Kd.C_alloc ?_ _) | (with_reducible refine Kd.C_drewN ?_ _) | (with_reducible refine Kd.C_drew ?_)));(case side2=>exact HC0.out);(case side3=>repeat (first | exact (Kd.C_below HR1_2.out HB.out) | (with_reducible refine Kd.C_alloc ?_ _) | (with_reducible refine Kd.C_drewN ?_ _) | (with_reducible refine Kd.C_drew ?_)));(case side4=>exact HC1_2.out);rintro e w7 ⟨rfl,hb⟩;refine ⟨_,rfl,?_⟩;have n0_:=Aside0.mk (blk_below (g:=gb458) (o:=.cells #[.int .i64 a1_0,.int .i64 a1_1,.slice A1_2 l1_2.length c1_2] 25 (0,0)) (by (with_reducible repeat (first | refine blk_drewN ?_ _ | refine blk_drew ?_ | refine blk_alloc ?_ _));exact BK458.out) hb);have n1_:=Aside0.mk (below_step (by repeat (first | (with_reducible first | exact HB.out | apply below_alloc | apply pw_below_drewN | apply below_drew1 | refine below_set ?_ GE458.out) | exact HB.out)) hb);clear BK458;clear HB;have BK458:=n0_;have HB:=n1_;clear n0_ n1_;(try clear hb);(try clear hb2);(try clear hk);(try clear hi)))
  go_ret
  exact ⟨by first | rfl | (simp [errW_none,errW_some] <;> rfl) | (simp [*,errW_none,errW_some] <;> rfl),by repeat (first | (with_reducible first | exact HB.out | apply below_alloc | apply pw_below_drewN | apply below_drew1 | refine below_set ?_ GE458.out) | exact HB.out)⟩
 ·replace c4:=Bool.eq_false_iff.mpr c4
  subst c4
  have H1:(if a1_0 = 0 then (some false) else (if 0 < (l1_2.length:Int) then ((spec_l20Made.f k l0 ((rd_T25 l1_2 0).f0) ((rd_T25 l1_2 0).f1) ((rd_T25 l1_2 0).f2)).bind fun t461=>(if t461 = true then (if 1 < (l1_2.length:Int) then ((spec_l20Made.f k l0 ((rd_T25 l1_2 1).f0) ((rd_T25 l1_2 1).f1) ((rd_T25 l1_2 1).f2)).bind fun t463=>(some t463)) else (none)) else (some false))) else (none))) = some r:=by rw [if_neg (show ¬ (false = true) by decide)] at H;exact H
  clear H
  have H:=H1
  clear H1
  by_cases c8:a1_0 = 0
  ·rw [if_pos c8] at H
   have c8b0:(a1_0 == 0) = true:=beq_iff_eq.mpr c8
   have c8b1:(a1_0 != 0) = false:=bne_eq_false_iff_eq.mpr c8
   clear c8
   obtain rfl:=Option.some.inj H
   go_enter Tryd.func52,Tryd.ntmps52
   go_wp2_with (first | ((with_reducible refine gate_dst (N:=3) rfl ?_);refine box_event ?hg (N:=3) ?hd (cs:=#[.int .i64 a1_0,.int .i64 a1_1,.slice A1_2 l1_2.length c1_2]) (t:=25) ?hr ?_;(case hd=>rfl);(case hg=>rfl);(case hr=>first | (go_simp;done) | (go_simp;rfl));intro gb458 hg w9 hbox hb;have n0_:=Aside0.mk (below_step (by repeat (first | (with_reducible first | exact HB.out | apply below_alloc | apply pw_below_drewN | apply below_drew1) | exact HB.out)) hb);have n1_:=Aside0.mk (hbox);have n2_:=Aside0.mk ((by rw [hg];exact (below_size (by repeat (first | (with_reducible first | exact HB.out | apply below_alloc | apply pw_below_drewN | apply below_drew1) | exact HB.out))):w.heap.size ≤ gb458));have n3_:=Aside0.mk ((by rw [hg];exact (below_size (by repeat (first | (with_reducible first | exact HB.out | apply below_alloc | apply pw_below_drewN | apply below_drew1) | exact HB.out))):w.heap.size ≤ gb458));clear HB;have HB:=n0_;have BK458:=n1_;have GW458:=n2_;have GE458:=n3_;clear n0_ n1_ n2_ n3_;clear hb hbox hg;have hcz10_0:w9.cell? ⟨gb458,0,none⟩ = some (.int .i64 a1_0):=(blk_cell BK458.out 0).trans rfl;have hcz10_1:w9.cell? ⟨gb458,1,none⟩ = some (.int .i64 a1_1):=(blk_cell BK458.out 1).trans rfl;have hcz10_2:w9.cell? ⟨gb458,2,none⟩ = some (.slice A1_2 l1_2.length c1_2):=(blk_cell BK458.out 2).trans rfl;have hfz10_0:=blk_frozen BK458.out 0;have hfz10_1:=blk_frozen BK458.out 1;have hfz10_2:=blk_frozen BK458.out 2) | ((with_reducible refine gate_callee (f:=63) rfl ?_);refine goesL_ (some 7) rfl rfl Tryd.func63 (by kernel_rfl) rfl #[.slice A0 l0.length c0,.agg #[.int .i64 a1_0,.int .i64 a1_1,.slice A1_2 l1_2.length c1_2]] rfl (by (try simp only [List.map_toArray,List.map_cons,List.map_nil]);first | done | rfl | (simp only [List.length_drop,List.length_take];rfl)) ?_;(with_reducible refine (spec_l20Has.calls k _ _ l0 a1_0 a1_1 _ _ l1_2 false _ ?side1 ?side2 ?side3 ?side4 A3.out).mono ?_);(case side1=>repeat (first | exact (Kd.C_below HR0.out HB.out) | (with_reducible refine Kd.C_alloc ?_ _) | (with_reducible refine Kd.C_drewN ?_ _) | (with_reducible refine Kd.C_drew ?_)));(case side2=>exact HC0.out);(case side3=>repeat (first | exact (Kd.C_below HR1_2.out HB.out) | (with_reducible refine Kd.C_alloc ?_ _) | (with_reducible refine Kd.C_drewN ?_ _) | (with_reducible refine Kd.C_drew ?_)));(case side4=>exact HC1_2.out);rintro e w11 ⟨rfl,hb⟩;refine ⟨_,rfl,?_⟩;have n0_:=Aside0.mk (blk_below (g:=gb458) (o:=.cells #[.int .i64 a1_0,.int .i64 a1_1,.slice A1_2 l1_2.length c1_2] 25 (0,0)) (by (with_reducible repeat (first | refine blk_drewN ?_ _ | refine blk_drew ?_ | refine blk_alloc ?_ _));exact BK458.out) hb);have n1_:=Aside0.mk (below_step (by repeat (first | (with_reducible first | exact HB.out | apply below_alloc | apply pw_below_drewN | apply below_drew1 | refine below_set ?_ GE458.out) | exact HB.out)) hb);clear BK458;clear HB;have BK458:=n0_;have HB:=n1_;clear n0_ n1_;(try clear hb);(try clear hb2);(try clear hk);(try clear hi);have hcz12_0:w11.cell? ⟨gb458,0,none⟩ = some (.int .i64 a1_0):=(blk_cell BK458.out 0).trans rfl;have hcz12_1:w11.cell? ⟨gb458,1,none⟩ = some (.int .i64 a1_1):=(blk_cell BK458.out 1).trans rfl;have hcz12_2:w11.cell? ⟨gb458,2,none⟩ = some (.slice A1_2 l1_2.length c1_2):=(blk_cell BK458.out 2).trans rfl;have hfz12_0:=blk_frozen BK458.out 0;have hfz12_1:=blk_frozen BK458.out 1;have hfz12_2:=blk_frozen BK458.out 2))
   go_ret
   exact ⟨by first | rfl | (simp [errW_none,errW_some] <;> rfl) | (simp [*,errW_none,errW_some] <;> rfl),by repeat (first | (with_reducible first | exact HB.out | apply below_alloc | apply pw_below_drewN | apply below_drew1 | refine below_set ?_ GE458.out) | exact HB.out)⟩
  ·rw [if_neg c8] at H
   have c8b0:(a1_0 == 0) = false:=beq_eq_false_iff_ne.mpr c8
   have c8b1:(a1_0 != 0) = true:=bne_iff_ne.mpr c8
   by_cases c13:0 < (l1_2.length:Int)
   ·rw [if_pos c13] at H
    have c13b0:decide (0 < (l1_2.length:Int)) = true:=decide_eq_true c13
    have c13b1:decide (0 < l1_2.length) = true:=decide_eq_true (by omega)
    clear c13
    replace H:=Option.bind_eq_some_iff.mp H
    obtain ⟨t461,A140,H⟩:=H
    replace H:(if t461 = true then (if 1 < (l1_2.length:Int) then ((spec_l20Made.f k l0 ((rd_T25 l1_2 1).f0) ((rd_T25 l1_2 1).f1) ((rd_T25 l1_2 1).f2)).bind fun t463=>(some t463)) else (none)) else (some false)) = some r:=H
    have A14:=Aside0.mk A140
    clear A140
    by_cases c15:t461 = true
    ·subst c15
     have H1:(if 1 < (l1_2.length:Int) then ((spec_l20Made.f k l0 ((rd_T25 l1_2 1).f0) ((rd_T25 l1_2 1).f1) ((rd_T25 l1_2 1).f2)).bind fun t463=>(some t463)) else (none)) = some r:=by rw [if_pos rfl] at H;exact H
     clear H
     have H:=H1
     clear H1
     by_cases c16:1 < (l1_2.length:Int)
     ·rw [if_pos c16] at H
      have c16b0:decide (1 < (l1_2.length:Int)) = true:=decide_eq_true c16
      have c16b1:decide (1 < l1_2.length) = true:=decide_eq_true (by omega)
      clear c16
      replace H:=Option.bind_eq_some_iff.mp H
      obtain ⟨t463,A170,H⟩:=H
      replace H:(some t463) = some r:=H
      have A17:=Aside0.mk A170
      clear A170
      obtain rfl:=Option.some.inj H
      go_enter Tryd.func52,Tryd.ntmps52
      go_wp2_with (first | ((with_reducible refine gate_dst (N:=3) rfl ?_);refine box_event ?hg (N:=3) ?hd (cs:=#[.int .i64 a1_0,.int .i64 a1_1,.slice A1_2 l1_2.length c1_2]) (t:=25) ?hr ?_;(case hd=>rfl);(case hg=>rfl);(case hr=>first | (go_simp;done) | (go_simp;rfl));intro gb458 hg w18 hbox hb;have n0_:=Aside0.mk (below_step (by repeat (first | (with_reducible first | exact HB.out | apply below_alloc | apply pw_below_drewN | apply below_drew1) | exact HB.out)) hb);have n1_:=Aside0.mk (hbox);have n2_:=Aside0.mk ((by rw [hg];exact (below_size (by repeat (first | (with_reducible first | exact HB.out | apply below_alloc | apply pw_below_drewN | apply below_drew1) | exact HB.out))):w.heap.size ≤ gb458));have n3_:=Aside0.mk ((by rw [hg];exact (below_size (by repeat (first | (with_reducible first | exact HB.out | apply below_alloc | apply pw_below_drewN | apply below_drew1) | exact HB.out))):w.heap.size ≤ gb458));clear HB;have HB:=n0_;have BK458:=n1_;have GW458:=n2_;have GE458:=n3_;clear n0_ n1_ n2_ n3_;clear hb hbox hg;have hcz19_0:w18.cell? ⟨gb458,0,none⟩ = some (.int .i64 a1_0):=(blk_cell BK458.out 0).trans rfl;have hcz19_1:w18.cell? ⟨gb458,1,none⟩ = some (.int .i64 a1_1):=(blk_cell BK458.out 1).trans rfl;have hcz19_2:w18.cell? ⟨gb458,2,none⟩ = some (.slice A1_2 l1_2.length c1_2):=(blk_cell BK458.out 2).trans rfl;have hfz19_0:=blk_frozen BK458.out 0;have hfz19_1:=blk_frozen BK458.out 1;have hfz19_2:=blk_frozen BK458.out 2) | ((with_reducible refine gate_callee (f:=63) rfl ?_);refine goesL_ (some 7) rfl rfl Tryd.func63 (by kernel_rfl) rfl #[.slice A0 l0.length c0,.agg #[.int .i64 a1_0,.int .i64 a1_1,.slice A1_2 l1_2.length c1_2]] rfl (by (try simp only [List.map_toArray,List.map_cons,List.map_nil]);first | done | rfl | (simp only [List.length_drop,List.length_take];rfl)) ?_;(with_reducible refine (spec_l20Has.calls k _ _ l0 a1_0 a1_1 _ _ l1_2 false _ ?side1 ?side2 ?side3 ?side4 A3.out).mono ?_);(case side1=>repeat (first | exact (Kd.C_below HR0.out HB.out) | (with_reducible refine Kd.C_alloc ?_ _) | (with_reducible refine Kd.C_drewN ?_ _) | (with_reducible refine Kd.C_drew ?_)));(case side2=>exact HC0.out);(case side3=>repeat (first | exact (Kd.C_below HR1_2.out HB.out) | (with_reducible refine Kd.C_alloc ?_ _) | (with_reducible refine Kd.C_drewN ?_ _) | (with_reducible refine Kd.C_drew ?_)));(case side4=>exact HC1_2.out);rintro e w20 ⟨rfl,hb⟩;refine ⟨_,rfl,?_⟩;have n0_:=Aside0.mk (blk_below (g:=gb458) (o:=.cells #[.int .i64 a1_0,.int .i64 a1_1,.slice A1_2 l1_2.length c1_2] 25 (0,0)) (by (with_reducible repeat (first | refine blk_drewN ?_ _ | refine blk_drew ?_ | refine blk_alloc ?_ _));exact BK458.out) hb);have n1_:=Aside0.mk (below_step (by repeat (first | (with_reducible first | exact HB.out | apply below_alloc | apply pw_below_drewN | apply below_drew1 | refine below_set ?_ GE458.out) | exact HB.out)) hb);clear BK458;clear HB;have BK458:=n0_;have HB:=n1_;clear n0_ n1_;(try clear hb);(try clear hb2);(try clear hk);(try clear hi);have hcz21_0:w20.cell? ⟨gb458,0,none⟩ = some (.int .i64 a1_0):=(blk_cell BK458.out 0).trans rfl;have hcz21_1:w20.cell? ⟨gb458,1,none⟩ = some (.int .i64 a1_1):=(blk_cell BK458.out 1).trans rfl;have hcz21_2:w20.cell? ⟨gb458,2,none⟩ = some (.slice A1_2 l1_2.length c1_2):=(blk_cell BK458.out 2).trans rfl;have hfz21_0:=blk_frozen BK458.out 0;have hfz21_1:=blk_frozen BK458.out 1;have hfz21_2:=blk_frozen BK458.out 2;have p460:0 ≤ (0:Int):=(by omega);have q460:0 < (l1_2.length:Int):=of_decide_eq_true (by first | (with_reducible assumption) | assumption);obtain ⟨ad460,A460_2,c460_2,e460,hx460_0,hx460_1,hx460_2,hl460_2,hi460_2⟩:=at_T25 HR1_2.out 0 p460 q460;cases e460;have qi460:(0 < l1_2.length) = True:=eq_true (by omega);(try rw [show ((0:Int)).toNat = 0 from rfl] at hx460_0);(try rw [show 0 * 3 = 0 from rfl] at hx460_0);(try rw [Addr.add_zero'] at hx460_0);(try rw [show ((0:Int)).toNat = 0 from rfl] at hx460_1);(try rw [show 0 * 3 = 0 from rfl] at hx460_1);(try rw [Addr.add_zero'] at hx460_1);(try rw [show ((0:Int)).toNat = 0 from rfl] at hx460_2);(try rw [show 0 * 3 = 0 from rfl] at hx460_2);(try rw [Addr.add_zero'] at hx460_2);replace hx460_0:=(HB.out.cell (World.block_lt_of_cell? w _ hx460_0)).trans hx460_0;replace hx460_1:=(HB.out.cell (World.block_lt_of_cell? w _ hx460_1)).trans hx460_1;replace hx460_2:=(HB.out.cell (World.block_lt_of_cell? w _ hx460_2)).trans hx460_2;have HR460_2:=Aside0.mk hi460_2;have HC460_2:=Aside0.mk hl460_2;clear hi460_2 hl460_2;replace p460:=eq_true p460;replace q460:=eq_true q460) | (go_at_call 52;(with_reducible refine (ih k (by omega) _ _ l0 ((rd_T25 l1_2 0).f0) ((rd_T25 l1_2 0).f1) _ _ ((rd_T25 l1_2 0).f2) true _ ?side1 ?side2 ?side3 ?side4 A14.out).mono ?_);(case side1=>repeat (first | exact (Kd.C_below HR0.out HB.out) | (with_reducible refine Kd.C_alloc ?_ _) | (with_reducible refine Kd.C_drewN ?_ _) | (with_reducible refine Kd.C_drew ?_)));(case side2=>exact HC0.out);(case side3=>repeat (first | exact (Kd.C_below HR460_2.out HB.out) | (with_reducible refine Kd.C_alloc ?_ _) | (with_reducible refine Kd.C_drewN ?_ _) | (with_reducible refine Kd.C_drew ?_)));(case side4=>exact HC460_2.out);rintro e w22 ⟨rfl,hb⟩;have n0_:=Aside0.mk (blk_below (g:=gb458) (o:=.cells #[.int .i64 a1_0,.int .i64 a1_1,.slice (some ad460) l1_2.length c1_2] 25 (0,0)) (by (with_reducible repeat (first | refine blk_drewN ?_ _ | refine blk_drew ?_ | refine blk_alloc ?_ _));exact BK458.out) hb);have n1_:=Aside0.mk (below_step (by repeat (first | (with_reducible first | exact HB.out | apply below_alloc | apply pw_below_drewN | apply below_drew1 | refine below_set ?_ GE458.out) | exact HB.out)) hb);clear BK458;clear HB;have BK458:=n0_;have HB:=n1_;clear n0_ n1_;(try clear hb);(try clear hb2);(try clear hk);(try clear hi);have hcz23_0:w22.cell? ⟨gb458,0,none⟩ = some (.int .i64 a1_0):=(blk_cell BK458.out 0).trans rfl;have hcz23_1:w22.cell? ⟨gb458,1,none⟩ = some (.int .i64 a1_1):=(blk_cell BK458.out 1).trans rfl;have hcz23_2:w22.cell? ⟨gb458,2,none⟩ = some (.slice (some ad460) l1_2.length c1_2):=(blk_cell BK458.out 2).trans rfl;have hfz23_0:=blk_frozen BK458.out 0;have hfz23_1:=blk_frozen BK458.out 1;have hfz23_2:=blk_frozen BK458.out 2;have p462:0 ≤ (1:Int):=(by omega);have q462:1 < (l1_2.length:Int):=of_decide_eq_true (by first | (with_reducible assumption) | assumption);obtain ⟨ad462,A462_2,c462_2,e462,hx462_0,hx462_1,hx462_2,hl462_2,hi462_2⟩:=at_T25 HR1_2.out 1 p462 q462;obtain rfl:ad460 = ad462:=(by injection e462);(try simp only [show (1:Int).toNat = 1 from rfl,Nat.reduceMul,Nat.reduceEqDiff,Go.Addr.add,↓reduceIte] at hx462_0);(try simp only [show (1:Int).toNat = 1 from rfl,Nat.reduceMul,Nat.reduceEqDiff,Go.Addr.add,↓reduceIte] at hx462_1);(try simp only [show (1:Int).toNat = 1 from rfl,Nat.reduceMul,Nat.reduceEqDiff,Go.Addr.add,↓reduceIte] at hx462_2);have qi462:(1 < l1_2.length) = True:=eq_true (by omega);(try rw [show ((1:Int)).toNat = 1 from rfl] at hx462_0);(try rw [show 1 * 3 = 3 from rfl] at hx462_0);(try rw [show ((1:Int)).toNat = 1 from rfl] at hx462_1);(try rw [show 1 * 3 = 3 from rfl] at hx462_1);(try rw [show ((1:Int)).toNat = 1 from rfl] at hx462_2);(try rw [show 1 * 3 = 3 from rfl] at hx462_2);replace hx462_0:=(HB.out.cell (World.block_lt_of_cell? w _ hx462_0)).trans hx462_0;replace hx462_1:=(HB.out.cell (World.block_lt_of_cell? w _ hx462_1)).trans hx462_1;replace hx462_2:=(HB.out.cell (World.block_lt_of_cell? w _ hx462_2)).trans hx462_2;have HR462_2:=Aside0.mk hi462_2;have HC462_2:=Aside0.mk hl462_2;clear hi462_2 hl462_2;replace p462:=eq_true p462;replace q462:=eq_true q462) | (go_at_call 52;(with_reducible refine (ih k (by omega) _ _ l0 ((rd_T25 l1_2 1).f0) ((rd_T25 l1_2 1).f1) _ _ ((rd_T25 l1_2 1).f2) t463 _ ?side1 ?side2 ?side3 ?side4 A17.out).mono ?_);(case side1=>repeat (first | exact (Kd.C_below HR0.out HB.out) | (with_reducible refine Kd.C_alloc ?_ _) | (with_reducible refine Kd.C_drewN ?_ _) | (with_reducible refine Kd.C_drew ?_)));(case side2=>exact HC0.out);(case side3=>repeat (first | exact (Kd.C_below HR462_2.out HB.out) | (with_reducible refine Kd.C_alloc ?_ _) | (with_reducible refine Kd.C_drewN ?_ _) | (with_reducible refine Kd.C_drew ?_)));(case side4=>exact HC462_2.out);rintro e w24 ⟨rfl,hb⟩;have n0_:=Aside0.mk (blk_below (g:=gb458) (o:=.cells #[.int .i64 a1_0,.int .i64 a1_1,.slice (some ad460) l1_2.length c1_2] 25 (0,0)) (by (with_reducible repeat (first | refine blk_drewN ?_ _ | refine blk_drew ?_ | refine blk_alloc ?_ _));exact BK458.out) hb);have n1_:=Aside0.mk (below_step (by repeat (first | (with_reducible first | exact HB.out | apply below_alloc | apply pw_below_drewN | apply below_drew1 | refine below_set ?_ GE458.out) | exact HB.out)) hb);clear BK458;clear HB;have BK458:=n0_;have HB:=n1_;clear n0_ n1_;(try clear hb);(try clear hb2);(try clear hk);(try clear hi)))
      go_ret
      exact ⟨by first | rfl | (simp [errW_none,errW_some] <;> rfl) | (simp [*,errW_none,errW_some] <;> rfl),by repeat (first | (with_reducible first | exact HB.out | apply below_alloc | apply pw_below_drewN | apply below_drew1 | refine below_set ?_ GE458.out) | exact HB.out)⟩
     ·rw [if_neg c16] at H
      exact absurd H (by simp)
    ·replace c15:=Bool.eq_false_iff.mpr c15
     subst c15
     have H1:(some false) = some r:=by rw [if_neg (show ¬ (false = true) by decide)] at H;exact H
     clear H
     have H:=H1
     clear H1
     obtain rfl:=Option.some.inj H
     go_enter Tryd.func52,Tryd.ntmps52
     go_wp2_with (first | ((with_reducible refine gate_dst (N:=3) rfl ?_);refine box_event ?hg (N:=3) ?hd (cs:=#[.int .i64 a1_0,.int .i64 a1_1,.slice A1_2 l1_2.length c1_2]) (t:=25) ?hr ?_;(case hd=>rfl);(case hg=>rfl);(case hr=>first | (go_simp;done) | (go_simp;rfl));intro gb458 hg w25 hbox hb;have n0_:=Aside0.mk (below_step (by repeat (first | (with_reducible first | exact HB.out | apply below_alloc | apply pw_below_drewN | apply below_drew1) | exact HB.out)) hb);have n1_:=Aside0.mk (hbox);have n2_:=Aside0.mk ((by rw [hg];exact (below_size (by repeat (first | (with_reducible first | exact HB.out | apply below_alloc | apply pw_below_drewN | apply below_drew1) | exact HB.out))):w.heap.size ≤ gb458));have n3_:=Aside0.mk ((by rw [hg];exact (below_size (by repeat (first | (with_reducible first | exact HB.out | apply below_alloc | apply pw_below_drewN | apply below_drew1) | exact HB.out))):w.heap.size ≤ gb458));clear HB;have HB:=n0_;have BK458:=n1_;have GW458:=n2_;have GE458:=n3_;clear n0_ n1_ n2_ n3_;clear hb hbox hg;have hcz26_0:w25.cell? ⟨gb458,0,none⟩ = some (.int .i64 a1_0):=(blk_cell BK458.out 0).trans rfl;have hcz26_1:w25.cell? ⟨gb458,1,none⟩ = some (.int .i64 a1_1):=(blk_cell BK458.out 1).trans rfl;have hcz26_2:w25.cell? ⟨gb458,2,none⟩ = some (.slice A1_2 l1_2.length c1_2):=(blk_cell BK458.out 2).trans rfl;have hfz26_0:=blk_frozen BK458.out 0;have hfz26_1:=blk_frozen BK458.out 1;have hfz26_2:=blk_frozen BK458.out 2) | ((with_reducible refine gate_callee (f:=63) rfl ?_);refine goesL_ (some 7) rfl rfl Tryd.func63 (by kernel_rfl) rfl #[.slice A0 l0.length c0,.agg #[.int .i64 a1_0,.int .i64 a1_1,.slice A1_2 l1_2.length c1_2]] rfl (by (try simp only [List.map_toArray,List.map_cons,List.map_nil]);first | done | rfl | (simp only [List.length_drop,List.length_take];rfl)) ?_;(with_reducible refine (spec_l20Has.calls k _ _ l0 a1_0 a1_1 _ _ l1_2 false _ ?side1 ?side2 ?side3 ?side4 A3.out).mono ?_);(case side1=>repeat (first | exact (Kd.C_below HR0.out HB.out) | (with_reducible refine Kd.C_alloc ?_ _) | (with_reducible refine Kd.C_drewN ?_ _) | (with_reducible refine Kd.C_drew ?_)));(case side2=>exact HC0.out);(case side3=>repeat (first | exact (Kd.C_below HR1_2.out HB.out) | (with_reducible refine Kd.C_alloc ?_ _) | (with_reducible refine Kd.C_drewN ?_ _) | (with_reducible refine Kd.C_drew ?_)));(case side4=>exact HC1_2.out);rintro e w27 ⟨rfl,hb⟩;refine ⟨_,rfl,?_⟩;have n0_:=Aside0.mk (blk_below (g:=gb458) (o:=.cells #[.int .i64 a1_0,.int .i64 a1_1,.slice A1_2 l1_2.length c1_2] 25 (0,0)) (by (with_reducible repeat (first | refine blk_drewN ?_ _ | refine blk_drew ?_ | refine blk_alloc ?_ _));exact BK458.out) hb);have n1_:=Aside0.mk (below_step (by repeat (first | (with_reducible first | exact HB.out | apply below_alloc | apply pw_below_drewN | apply below_drew1 | refine below_set ?_ GE458.out) | exact HB.out)) hb);clear BK458;clear HB;have BK458:=n0_;have HB:=n1_;clear n0_ n1_;(try clear hb);(try clear hb2);(try clear hk);(try clear hi);have hcz28_0:w27.cell? ⟨gb458,0,none⟩ = some (.int .i64 a1_0):=(blk_cell BK458.out 0).trans rfl;have hcz28_1:w27.cell? ⟨gb458,1,none⟩ = some (.int .i64 a1_1):=(blk_cell BK458.out 1).trans rfl;have hcz28_2:w27.cell? ⟨gb458,2,none⟩ = some (.slice A1_2 l1_2.length c1_2):=(blk_cell BK458.out 2).trans rfl;have hfz28_0:=blk_frozen BK458.out 0;have hfz28_1:=blk_frozen BK458.out 1;have hfz28_2:=blk_frozen BK458.out 2;have p460:0 ≤ (0:Int):=(by omega);have q460:0 < (l1_2.length:Int):=of_decide_eq_true (by first | (with_reducible assumption) | assumption);obtain ⟨ad460,A460_2,c460_2,e460,hx460_0,hx460_1,hx460_2,hl460_2,hi460_2⟩:=at_T25 HR1_2.out 0 p460 q460;cases e460;have qi460:(0 < l1_2.length) = True:=eq_true (by omega);(try rw [show ((0:Int)).toNat = 0 from rfl] at hx460_0);(try rw [show 0 * 3 = 0 from rfl] at hx460_0);(try rw [Addr.add_zero'] at hx460_0);(try rw [show ((0:Int)).toNat = 0 from rfl] at hx460_1);(try rw [show 0 * 3 = 0 from rfl] at hx460_1);(try rw [Addr.add_zero'] at hx460_1);(try rw [show ((0:Int)).toNat = 0 from rfl] at hx460_2);(try rw [show 0 * 3 = 0 from rfl] at hx460_2);(try rw [Addr.add_zero'] at hx460_2);replace hx460_0:=(HB.out.cell (World.block_lt_of_cell? w _ hx460_0)).trans hx460_0;replace hx460_1:=(HB.out.cell (World.block_lt_of_cell? w _ hx460_1)).trans hx460_1;replace hx460_2:=(HB.out.cell (World.block_lt_of_cell? w _ hx460_2)).trans hx460_2;have HR460_2:=Aside0.mk hi460_2;have HC460_2:=Aside0.mk hl460_2;clear hi460_2 hl460_2;replace p460:=eq_true p460;replace q460:=eq_true q460) | (go_at_call 52;(with_reducible refine (ih k (by omega) _ _ l0 ((rd_T25 l1_2 0).f0) ((rd_T25 l1_2 0).f1) _ _ ((rd_T25 l1_2 0).f2) false _ ?side1 ?side2 ?side3 ?side4 A14.out).mono ?_);(case side1=>repeat (first | exact (Kd.C_below HR0.out HB.out) | (with_reducible refine Kd.C_alloc ?_ _) | (with_reducible refine Kd.C_drewN ?_ _) | (with_reducible refine Kd.C_drew ?_)));(case side2=>exact HC0.out);(case side3=>repeat (first | exact (Kd.C_below HR460_2.out HB.out) | (with_reducible refine Kd.C_alloc ?_ _) | (with_reducible refine Kd.C_drewN ?_ _) | (with_reducible refine Kd.C_drew ?_)));(case side4=>exact HC460_2.out);rintro e w29 ⟨rfl,hb⟩;have n0_:=Aside0.mk (blk_below (g:=gb458) (o:=.cells #[.int .i64 a1_0,.int .i64 a1_1,.slice (some ad460) l1_2.length c1_2] 25 (0,0)) (by (with_reducible repeat (first | refine blk_drewN ?_ _ | refine blk_drew ?_ | refine blk_alloc ?_ _));exact BK458.out) hb);have n1_:=Aside0.mk (below_step (by repeat (first | (with_reducible first | exact HB.out | apply below_alloc | apply pw_below_drewN | apply below_drew1 | refine below_set ?_ GE458.out) | exact HB.out)) hb);clear BK458;clear HB;have BK458:=n0_;have HB:=n1_;clear n0_ n1_;(try clear hb);(try clear hb2);(try clear hk);(try clear hi)))
     go_ret
     exact ⟨by first | rfl | (simp [errW_none,errW_some] <;> rfl) | (simp [*,errW_none,errW_some] <;> rfl),by repeat (first | (with_reducible first | exact HB.out | apply below_alloc | apply pw_below_drewN | apply below_drew1 | refine below_set ?_ GE458.out) | exact HB.out)⟩
   ·rw [if_neg c13] at H
    exact absurd H (by simp)
mutual
def spec_l20Apart.l0:Nat → List (S25) → List (S25) → Int → Option ((List (S25)))
 | 0,_,_,_=>none
 | k + 1,x0,x3,x4=>if x4 < (x0.length:Int) then (if 0 ≤ x4 then ((spec_l20Has.f k x3 ((rd_T25 x0 x4).f0) ((rd_T25 x0 x4).f1) ((rd_T25 x0 x4).f2)).bind fun t468=>(if t468 = true then (spec_l20Apart.l0 k x0 x3 (wrap64 (x4 + 1))) else (if x3.length < 3518437208883 then (spec_l20Apart.l0 k x0 (x3 ++ [(⟨(rd_T25 x0 x4).f0,(rd_T25 x0 x4).f1,(rd_T25 x0 x4).f2⟩:S25)]) (wrap64 (x4 + 1))) else (none)))) else (none)) else (spec_l20Apart.l1 k x3 true)
def spec_l20Apart.l1:Nat → List (S25) → Bool → Option ((List (S25)))
 | 0,_,_=>none
 | k + 1,x3,x5=>if x5 = true then (spec_l20Apart.l2 k x3 false 0) else (some x3)
def spec_l20Apart.l2:Nat → List (S25) → Bool → Int → Option ((List (S25)))
 | 0,_,_,_=>none
 | k + 1,x3,x5,x6=>if x6 < (x3.length:Int) then (if 0 ≤ x6 then (if ((rd_T25 x3 x6).f0) = 1 then (spec_l20Apart.j3 k x3 x5 x6 ((rd_T25 x3 x6).f2) ((rd_T25 x3 x6).f0) ((rd_T25 x3 x6).f1) ((rd_T25 x3 x6).f2)) else (spec_l20Apart.j3 k x3 x5 x6 (([]:List (S25))) ((rd_T25 x3 x6).f0) ((rd_T25 x3 x6).f1) ((rd_T25 x3 x6).f2))) else (none)) else (spec_l20Apart.l1 k x3 x5)
def spec_l20Apart.j3:Nat → List (S25) → Bool → Int → List (S25) → Int → Int → List (S25) → Option ((List (S25)))
 | 0,_,_,_,_,_,_,_=>none
 | k + 1,x3,x5,x6,x8,x475000,x475001,x475002=>if x475000 = 2 then (if 0 < (x475002.length:Int) then ((spec_l20Made.f k x3 ((rd_T25 x475002 0).f0) ((rd_T25 x475002 0).f1) ((rd_T25 x475002 0).f2)).bind fun t479=>(spec_l20Apart.j4 k x3 x5 x6 x8 t479 x475000 x475001 x475002)) else (none)) else (spec_l20Apart.j4 k x3 x5 x6 x8 false x475000 x475001 x475002)
def spec_l20Apart.j4:Nat → List (S25) → Bool → Int → List (S25) → Bool → Int → Int → List (S25) → Option ((List (S25)))
 | 0,_,_,_,_,_,_,_,_=>none
 | k + 1,x3,x5,x6,x8,x58,x475000,x475001,x475002=>if x58 = true then (if 1 ≤ (x475002.length:Int) then (spec_l20Apart.j5 k x3 x5 x6 (x475002.drop 1)) else (none)) else (spec_l20Apart.j5 k x3 x5 x6 x8)
def spec_l20Apart.j5:Nat → List (S25) → Bool → Int → List (S25) → Option ((List (S25)))
 | 0,_,_,_,_=>none
 | k + 1,x3,x5,x6,x8=>spec_l20Apart.l3 k x3 x5 x6 x8 0
def spec_l20Apart.l3:Nat → List (S25) → Bool → Int → List (S25) → Int → Option ((List (S25)))
 | 0,_,_,_,_,_=>none
 | k + 1,x3,x5,x6,x8,x9=>if x9 < (x8.length:Int) then (if 0 ≤ x9 then ((spec_l20Has.f k x3 ((rd_T25 x8 x9).f0) ((rd_T25 x8 x9).f1) ((rd_T25 x8 x9).f2)).bind fun t486=>(if t486 = true then (spec_l20Apart.l3 k x3 x5 x6 x8 (wrap64 (x9 + 1))) else (if x3.length < 3518437208883 then (spec_l20Apart.l3 k (x3 ++ [(⟨(rd_T25 x8 x9).f0,(rd_T25 x8 x9).f1,(rd_T25 x8 x9).f2⟩:S25)]) true x6 x8 (wrap64 (x9 + 1))) else (none)))) else (none)) else (spec_l20Apart.l2 k x3 x5 (wrap64 (x6 + 1)))
end
def spec_l20Apart.f (k:Nat) (l0:List (S25)):Option ((List (S25))):=spec_l20Apart.l0 k l0 (([]:List (S25))) 0
theorem spec_l20Apart.mono_l:∀ k,(∀ y0 y1 y2,LeO (spec_l20Apart.l0 k y0 y1 y2) (spec_l20Apart.l0 (k + 1) y0 y1 y2))∧(∀ y0 y1,LeO (spec_l20Apart.l1 k y0 y1) (spec_l20Apart.l1 (k + 1) y0 y1))∧(∀ y0 y1 y2,LeO (spec_l20Apart.l2 k y0 y1 y2) (spec_l20Apart.l2 (k + 1) y0 y1 y2))∧(∀ y0 y1 y2 y3 y4 y5 y6,LeO (spec_l20Apart.j3 k y0 y1 y2 y3 y4 y5 y6) (spec_l20Apart.j3 (k + 1) y0 y1 y2 y3 y4 y5 y6))∧(∀ y0 y1 y2 y3 y4 y5 y6 y7,LeO (spec_l20Apart.j4 k y0 y1 y2 y3 y4 y5 y6 y7) (spec_l20Apart.j4 (k + 1) y0 y1 y2 y3 y4 y5 y6 y7))∧(∀ y0 y1 y2 y3,LeO (spec_l20Apart.j5 k y0 y1 y2 y3) (spec_l20Apart.j5 (k + 1) y0 y1 y2 y3))∧(∀ y0 y1 y2 y3 y4,LeO (spec_l20Apart.l3 k y0 y1 y2 y3 y4) (spec_l20Apart.l3 (k + 1) y0 y1 y2 y3 y4))
 | 0=>⟨fun _ _ _ r h=>by simp [spec_l20Apart.l0] at h,fun _ _ r h=>by simp [spec_l20Apart.l1] at h,fun _ _ _ r h=>by simp [spec_l20Apart.l2] at h,fun _ _ _ _ _ _ _ r h=>by simp [spec_l20Apart.j3] at h,fun _ _ _ _ _ _ _ _ r h=>by simp [spec_l20Apart.j4] at h,fun _ _ _ _ r h=>by simp [spec_l20Apart.j5] at h,fun _ _ _ _ _ r h=>by simp [spec_l20Apart.l3] at h⟩
 | k + 1=>by
  obtain ⟨ih0,ih1,ih2,ih3,ih4,ih5,ih6⟩:=spec_l20Apart.mono_l k
  refine ⟨?_,?_,?_,?_,?_,?_,?_⟩
  ·intro y0 y1 y2
   unfold spec_l20Apart.l0
   repeat' first
   | (with_reducible exact ih0 _ _ _)
   | (with_reducible exact ih1 _ _)
   | (with_reducible exact ih2 _ _ _)
   | (with_reducible exact ih3 _ _ _ _ _ _ _)
   | (with_reducible exact ih4 _ _ _ _ _ _ _ _)
   | (with_reducible exact ih5 _ _ _ _)
   | (with_reducible exact ih6 _ _ _ _ _)
   | (with_reducible exact spec_l20Has.mono _ _ _ _ _)
   | (with_reducible exact spec_l20Made.mono _ _ _ _ _)
   | (with_reducible exact LeO.refl _)
   | (with_reducible exact LeO.none _)
   | (with_reducible refine LeO.ite ?_ ?_)
   | (with_reducible refine LeO.bind ?_ (fun _=>?_))
   | exact ih0 _ _ _
   | exact ih1 _ _
   | exact ih2 _ _ _
   | exact ih3 _ _ _ _ _ _ _
   | exact ih4 _ _ _ _ _ _ _ _
   | exact ih5 _ _ _ _
   | exact ih6 _ _ _ _ _
   | exact spec_l20Has.mono _ _ _ _ _
   | exact spec_l20Made.mono _ _ _ _ _
   | exact LeO.none _
   | refine LeO.ite ?_ ?_
   | refine LeO.bind ?_ (fun _=>?_)
  ·intro y0 y1
   unfold spec_l20Apart.l1
   repeat' first
   | (with_reducible exact ih0 _ _ _)
   | (with_reducible exact ih1 _ _)
   | (with_reducible exact ih2 _ _ _)
   | (with_reducible exact ih3 _ _ _ _ _ _ _)
   | (with_reducible exact ih4 _ _ _ _ _ _ _ _)
   | (with_reducible exact ih5 _ _ _ _)
   | (with_reducible exact ih6 _ _ _ _ _)
   | (with_reducible exact spec_l20Has.mono _ _ _ _ _)
   | (with_reducible exact spec_l20Made.mono _ _ _ _ _)
   | (with_reducible exact LeO.refl _)
   | (with_reducible exact LeO.none _)
   | (with_reducible refine LeO.ite ?_ ?_)
   | (with_reducible refine LeO.bind ?_ (fun _=>?_))
   | exact ih0 _ _ _
   | exact ih1 _ _
   | exact ih2 _ _ _
   | exact ih3 _ _ _ _ _ _ _
   | exact ih4 _ _ _ _ _ _ _ _
   | exact ih5 _ _ _ _
   | exact ih6 _ _ _ _ _
   | exact spec_l20Has.mono _ _ _ _ _
   | exact spec_l20Made.mono _ _ _ _ _
   | exact LeO.none _
   | refine LeO.ite ?_ ?_
   | refine LeO.bind ?_ (fun _=>?_)
  ·intro y0 y1 y2
   unfold spec_l20Apart.l2
   repeat' first
   | (with_reducible exact ih0 _ _ _)
   | (with_reducible exact ih1 _ _)
   | (with_reducible exact ih2 _ _ _)
   | (with_reducible exact ih3 _ _ _ _ _ _ _)
   | (with_reducible exact ih4 _ _ _ _ _ _ _ _)
   | (with_reducible exact ih5 _ _ _ _)
   | (with_reducible exact ih6 _ _ _ _ _)
   | (with_reducible exact spec_l20Has.mono _ _ _ _ _)
   | (with_reducible exact spec_l20Made.mono _ _ _ _ _)
   | (with_reducible exact LeO.refl _)
   | (with_reducible exact LeO.none _)
   | (with_reducible refine LeO.ite ?_ ?_)
   | (with_reducible refine LeO.bind ?_ (fun _=>?_))
   | exact ih0 _ _ _
   | exact ih1 _ _
   | exact ih2 _ _ _
   | exact ih3 _ _ _ _ _ _ _
   | exact ih4 _ _ _ _ _ _ _ _
   | exact ih5 _ _ _ _
   | exact ih6 _ _ _ _ _
   | exact spec_l20Has.mono _ _ _ _ _
   | exact spec_l20Made.mono _ _ _ _ _
   | exact LeO.none _
   | refine LeO.ite ?_ ?_
   | refine LeO.bind ?_ (fun _=>?_)
  ·intro y0 y1 y2 y3 y4 y5 y6
   unfold spec_l20Apart.j3
   repeat' first
   | (with_reducible exact ih0 _ _ _)
   | (with_reducible exact ih1 _ _)
   | (with_reducible exact ih2 _ _ _)
   | (with_reducible exact ih3 _ _ _ _ _ _ _)
   | (with_reducible exact ih4 _ _ _ _ _ _ _ _)
   | (with_reducible exact ih5 _ _ _ _)
   | (with_reducible exact ih6 _ _ _ _ _)
   | (with_reducible exact spec_l20Has.mono _ _ _ _ _)
   | (with_reducible exact spec_l20Made.mono _ _ _ _ _)
   | (with_reducible exact LeO.refl _)
   | (with_reducible exact LeO.none _)
   | (with_reducible refine LeO.ite ?_ ?_)
   | (with_reducible refine LeO.bind ?_ (fun _=>?_))
   | exact ih0 _ _ _
   | exact ih1 _ _
   | exact ih2 _ _ _
   | exact ih3 _ _ _ _ _ _ _
   | exact ih4 _ _ _ _ _ _ _ _
   | exact ih5 _ _ _ _
   | exact ih6 _ _ _ _ _
   | exact spec_l20Has.mono _ _ _ _ _
   | exact spec_l20Made.mono _ _ _ _ _
   | exact LeO.none _
   | refine LeO.ite ?_ ?_
   | refine LeO.bind ?_ (fun _=>?_)
  ·intro y0 y1 y2 y3 y4 y5 y6 y7
   unfold spec_l20Apart.j4
   repeat' first
   | (with_reducible exact ih0 _ _ _)
   | (with_reducible exact ih1 _ _)
   | (with_reducible exact ih2 _ _ _)
   | (with_reducible exact ih3 _ _ _ _ _ _ _)
   | (with_reducible exact ih4 _ _ _ _ _ _ _ _)
   | (with_reducible exact ih5 _ _ _ _)
   | (with_reducible exact ih6 _ _ _ _ _)
   | (with_reducible exact spec_l20Has.mono _ _ _ _ _)
   | (with_reducible exact spec_l20Made.mono _ _ _ _ _)
   | (with_reducible exact LeO.refl _)
   | (with_reducible exact LeO.none _)
   | (with_reducible refine LeO.ite ?_ ?_)
   | (with_reducible refine LeO.bind ?_ (fun _=>?_))
   | exact ih0 _ _ _
   | exact ih1 _ _
   | exact ih2 _ _ _
   | exact ih3 _ _ _ _ _ _ _
   | exact ih4 _ _ _ _ _ _ _ _
   | exact ih5 _ _ _ _
   | exact ih6 _ _ _ _ _
   | exact spec_l20Has.mono _ _ _ _ _
   | exact spec_l20Made.mono _ _ _ _ _
   | exact LeO.none _
   | refine LeO.ite ?_ ?_
   | refine LeO.bind ?_ (fun _=>?_)
  ·intro y0 y1 y2 y3
   unfold spec_l20Apart.j5
   repeat' first
   | (with_reducible exact ih0 _ _ _)
   | (with_reducible exact ih1 _ _)
   | (with_reducible exact ih2 _ _ _)
   | (with_reducible exact ih3 _ _ _ _ _ _ _)
   | (with_reducible exact ih4 _ _ _ _ _ _ _ _)
   | (with_reducible exact ih5 _ _ _ _)
   | (with_reducible exact ih6 _ _ _ _ _)
   | (with_reducible exact spec_l20Has.mono _ _ _ _ _)
   | (with_reducible exact spec_l20Made.mono _ _ _ _ _)
   | (with_reducible exact LeO.refl _)
   | (with_reducible exact LeO.none _)
   | (with_reducible refine LeO.ite ?_ ?_)
   | (with_reducible refine LeO.bind ?_ (fun _=>?_))
   | exact ih0 _ _ _
   | exact ih1 _ _
   | exact ih2 _ _ _
   | exact ih3 _ _ _ _ _ _ _
   | exact ih4 _ _ _ _ _ _ _ _
   | exact ih5 _ _ _ _
   | exact ih6 _ _ _ _ _
   | exact spec_l20Has.mono _ _ _ _ _
   | exact spec_l20Made.mono _ _ _ _ _
   | exact LeO.none _
   | refine LeO.ite ?_ ?_
   | refine LeO.bind ?_ (fun _=>?_)
  ·intro y0 y1 y2 y3 y4
   unfold spec_l20Apart.l3
   repeat' first
   | (with_reducible exact ih0 _ _ _)
   | (with_reducible exact ih1 _ _)
   | (with_reducible exact ih2 _ _ _)
   | (with_reducible exact ih3 _ _ _ _ _ _ _)
   | (with_reducible exact ih4 _ _ _ _ _ _ _ _)
   | (with_reducible exact ih5 _ _ _ _)
   | (with_reducible exact ih6 _ _ _ _ _)
   | (with_reducible exact spec_l20Has.mono _ _ _ _ _)
   | (with_reducible exact spec_l20Made.mono _ _ _ _ _)
   | (with_reducible exact LeO.refl _)
   | (with_reducible exact LeO.none _)
   | (with_reducible refine LeO.ite ?_ ?_)
   | (with_reducible refine LeO.bind ?_ (fun _=>?_))
   | exact ih0 _ _ _
   | exact ih1 _ _
   | exact ih2 _ _ _
   | exact ih3 _ _ _ _ _ _ _
   | exact ih4 _ _ _ _ _ _ _ _
   | exact ih5 _ _ _ _
   | exact ih6 _ _ _ _ _
   | exact spec_l20Has.mono _ _ _ _ _
   | exact spec_l20Made.mono _ _ _ _ _
   | exact LeO.none _
   | refine LeO.ite ?_ ?_
   | refine LeO.bind ?_ (fun _=>?_)
theorem spec_l20Apart.mono:∀ a0 k,LeO (spec_l20Apart.f k a0) (spec_l20Apart.f (k + 1) a0):=by
 intro a0 k
 obtain ⟨ih0,ih1,ih2,ih3,ih4,ih5,ih6⟩:=spec_l20Apart.mono_l k
 unfold spec_l20Apart.f
 repeat' first
   | (with_reducible exact ih0 _ _ _)
   | (with_reducible exact ih1 _ _)
   | (with_reducible exact ih2 _ _ _)
   | (with_reducible exact ih3 _ _ _ _ _ _ _)
   | (with_reducible exact ih4 _ _ _ _ _ _ _ _)
   | (with_reducible exact ih5 _ _ _ _)
   | (with_reducible exact ih6 _ _ _ _ _)
   | (with_reducible exact spec_l20Has.mono _ _ _ _ _)
   | (with_reducible exact spec_l20Made.mono _ _ _ _ _)
   | (with_reducible exact LeO.refl _)
   | (with_reducible exact LeO.none _)
   | (with_reducible refine LeO.ite ?_ ?_)
   | (with_reducible refine LeO.bind ?_ (fun _=>?_))
   | exact ih0 _ _ _
   | exact ih1 _ _
   | exact ih2 _ _ _
   | exact ih3 _ _ _ _ _ _ _
   | exact ih4 _ _ _ _ _ _ _ _
   | exact ih5 _ _ _ _
   | exact ih6 _ _ _ _ _
   | exact spec_l20Has.mono _ _ _ _ _
   | exact spec_l20Made.mono _ _ _ _ _
   | exact LeO.none _
   | refine LeO.ite ?_ ?_
   | refine LeO.bind ?_ (fun _=>?_)
set_option maxHeartbeats 8000000 in
set_option maxRecDepth 100000 in
theorem spec_l20Apart.calls (k:Nat) (P0_:Nat → Prop) (A0:Option Addr) (c0:Nat) (l0:List (S25)) (r:List (S25)) (w:World) (hs0:Kd.V k25 25 w w.heap.size (fun k_=>P0_ k_) (.slice A0 l0.length c0) l0) (h:spec_l20Apart.f k l0 = some r) :
  Calls Tryd.prog 53 #[.slice A0 l0.length c0] w fun e w'=>∃ v0_:Value,e = .returned (v0_)∧Kd.N k25 25 w' w.heap.size (fun k_=>(P0_ k_ ∨ w.heap.size ≤ k_)) v0_ r∧Below w.heap.size w w':=by
 have hu25:=Tryd.underlying25
 have HO0:=Aside0.mk (show Kd.V k25 25 w w.heap.size (fun k_=>(P0_ k_ ∨ w.heap.size ≤ k_)) (.slice A0 l0.length c0) l0 from Kd.V_mono hs0 (fun k_ hk=>.inl hk))
 have HB:=Aside0.mk (Below.refl w.heap.size w)
 have H:(spec_l20Apart.l0 k l0 (([]:List (S25))) 0) = some r:=h
 clear h
 obtain ⟨y464,hy464⟩:∃ y_:List (S25),y_ = (([]:List (S25))):=⟨_,rfl⟩
 replace H:(spec_l20Apart.l0 k l0 y464 0) = some r:=by first | (rw [hy464];with_reducible exact H) | (have H2_:=(Option.bind_some _ _).symm.trans H;rw [hy464];with_reducible exact H2_) | (have H2_:=(Option.bind_some _ _).symm.trans H;with_reducible exact H2_) | with_reducible exact H | (rw [hy464];exact H) | exact H
 have Ny464:=Aside0.mk hy464
 clear hy464
 have H':=Aside0.mk H
 clear H
 go_enter Tryd.func53,Tryd.ntmps53
 go_wp2_with (first | ((with_reducible refine gate_dst (N:=10) rfl ?_);refine Kd.N_lit k25 _ 25 ?hg (N':=10) ?hd (xs:=([]:List (S25))) (inner:=[]) (ok:=(fun k_=>(P0_ k_ ∨ w.heap.size ≤ k_))) (okp:=(fun k_=>(P0_ k_ ∨ w.heap.size ≤ k_))) ?hr ?hp (fun _ hk=>hk) ((show ∀ k_,w.heap.size ≤ k_ → (fun k_=>(P0_ k_ ∨ w.heap.size ≤ k_)) k_ from fun k_ hk=>(.inr (Nat.le_trans (below_size (by repeat (first | (with_reducible first | exact HB.out | apply below_alloc | apply pw_below_drewN | apply below_drew1) | exact HB.out))) hk))) _ (Nat.le_refl _)) (Below.refl _ _) (Nat.le_refl _) (by simp) ?_;(case hd=>rfl);(case hg=>rfl);(case hr=>first | (go_simp;done) | (go_simp;rfl));(case hp=>exact (Reps.none _ _));intro v465 w2 ho3 hb hg_ hnew_;clear hg_ hnew_;(first | rw [← Ny464.out] at ho3 | (simp only [Int.reduceToNat] at ho3;rw [← Ny464.out] at ho3));have n0_:=Aside0.mk (Kd.V_elder' (by (with_reducible repeat (first | apply Kd.V_alloc | apply Kd.V_drewN | apply Kd.V_drew));exact HO0.out) (Kd.N_base ho3) hb);have n1_:=Aside0.mk (Kd.N_lower ho3 (below_size (by repeat (first | (with_reducible first | exact HB.out | apply below_alloc | apply pw_below_drewN | apply below_drew1) | exact HB.out))));have n2_:=Aside0.mk (below_step (by repeat (first | (with_reducible first | exact HB.out | apply below_alloc | apply pw_below_drewN | apply below_drew1) | exact HB.out)) hb);clear HO0;clear HB;have HO0:=n0_;have HO466:=n1_;have HB:=n2_;clear n0_ n1_ n2_;clear hb ho3))
 go_loopg [3,4] k (fun kq v3 v4 w'=>∃ (x3_1:List (S25)) (x4_1:Int),v4 = .int .i64 x4_1∧Aside0 (spec_l20Apart.l0 kq l0 x3_1 x4_1 = some r)∧Aside0 (kq ≤ k)∧Aside0 (Kd.V k25 25 w' w.heap.size (fun k_=>(P0_ k_ ∨ w.heap.size ≤ k_)∧some k_ ≠ (v3:Value).ownBlock) (.slice A0 l0.length c0) l0)∧Aside0 (Kd.N k25 25 w' w.heap.size (fun k_=>(P0_ k_ ∨ w.heap.size ≤ k_)) v3 x3_1)∧Aside0 (Below w.heap.size w w'))
 case atStart=>exact ⟨(y464),(0),(by first | rfl | (simp;done) | (simp [*];done)),H',⟨Nat.le_refl _⟩,⟨by (with_reducible repeat (first | apply Kd.V_alloc | apply Kd.V_drewN | apply Kd.V_drew));exact HO0.out⟩,⟨by (with_reducible repeat (first | apply Kd.N_alloc | apply Kd.N_drewN | apply Kd.N_drew));exact HO466.out⟩,⟨by repeat (first | (with_reducible first | exact HB.out | apply below_alloc | apply pw_below_drewN | apply below_drew1) | exact HB.out)⟩⟩
 case round =>
  clear H'
  try clear p2
  obtain ⟨x3_1,x4_1,rfl,HA,HK1,HO_0,HO_3,HB⟩:=hrel
  cases gk with
  | zero=>exact absurd HA.out (by simp [spec_l20Apart.l0])
  | succ k1 =>
   have H:=HA.out
   clear HA
   simp only [spec_l20Apart.l0] at H
   by_cases c4:x4_1 < (l0.length:Int)
   ·rw [if_pos c4] at H
    have c4b0:decide (x4_1 < (l0.length:Int)) = true:=decide_eq_true c4
    clear c4
    by_cases c5:0 ≤ x4_1
    ·rw [if_pos c5] at H
     have c5b0:decide (0 ≤ x4_1) = true:=decide_eq_true c5
     clear c5
     replace H:=Option.bind_eq_some_iff.mp H
     obtain ⟨t468,A60,H⟩:=H
     replace H:(if t468 = true then (spec_l20Apart.l0 k1 l0 x3_1 (wrap64 (x4_1 + 1))) else (if x3_1.length < 3518437208883 then (spec_l20Apart.l0 k1 l0 (x3_1 ++ [(⟨(rd_T25 l0 x4_1).f0,(rd_T25 l0 x4_1).f1,(rd_T25 l0 x4_1).f2⟩:S25)]) (wrap64 (x4_1 + 1))) else (none))) = some r:=H
     have A6:=Aside0.mk A60
     clear A60
     by_cases c7:t468 = true
     ·subst c7
      have H1:(spec_l20Apart.l0 k1 l0 x3_1 (wrap64 (x4_1 + 1))) = some r:=by rw [if_pos rfl] at H;exact H
      clear H
      have H:=H1
      clear H1
      have H':=Aside0.mk H
      clear H
      have p467:0 ≤ (x4_1:Int):=of_decide_eq_true (by first | (with_reducible assumption) | assumption)
      have q467:x4_1 < (l0.length:Int):=of_decide_eq_true (by first | (with_reducible assumption) | assumption)
      obtain ⟨ad467,A467_2,c467_2,e467,hx467_0,hx467_1,hx467_2,hl467_2,hi467_2⟩:=at_T25 (Kd.V_reads' HO_0.out).2.2 x4_1 p467 q467
      cases e467
      obtain ⟨ce467,hce467,hMe467,hcc467⟩:=Kd.V_get HO_0.out z25 x4_1 p467 (by first | exact q467 | exact of_decide_eq_true (by first | (with_reducible assumption) | assumption) | (have e_:=(Kd.V_reads' HO_0.out).1;omega))
      obtain ⟨ua467_2,uc467_2,rfl,ul467_2,ge467_2⟩:=k25_openF hMe467
      have hv467_2:=hcc467 2 _ rfl
      rw [add_field _ _ 2 (by omega)] at hv467_2
      replace hv467_2:=Option.some.inj (hv467_2.symm.trans hx467_2)
      injection hv467_2 with hva_ hvn_ hvc_
      rw [hva_] at ge467_2
      rw [hvc_] at ul467_2
      have HL467_2:=Aside0.mk (show Kd.V k25 25 _ w.heap.size _ _ ((rd_T25 l0 x4_1).f2) from Kd.V_mk ul467_2 ge467_2)
      clear hva_ hvn_ hvc_ ge467_2 ul467_2
      clear hcc467 hce467
      have HR467_2:=Aside0.mk hi467_2
      have HC467_2:=Aside0.mk hl467_2
      clear hi467_2 hl467_2
      replace p467:=eq_true p467
      replace q467:=eq_true q467
      obtain ⟨Ao8,co8,eo8⟩:=Kd.N_slice HO_3.out
      subst eo8
      go_wp2_with (first | ((with_reducible refine gate_callee (f:=63) rfl ?_);refine goesL_ (some 22) rfl rfl Tryd.func63 (by kernel_rfl) rfl #[.slice Ao8 x3_1.length co8,.agg #[.int .i64 ((rd_T25 l0 x4_1).f0),.int .i64 ((rd_T25 l0 x4_1).f1),.slice A467_2 ((rd_T25 l0 x4_1).f2).length c467_2]] rfl (by (try simp only [List.map_toArray,List.map_cons,List.map_nil]);first | done | rfl | (simp only [List.length_drop,List.length_take];rfl)) ?_;(with_reducible refine (spec_l20Has.calls k1 _ _ x3_1 ((rd_T25 l0 x4_1).f0) ((rd_T25 l0 x4_1).f1) _ _ ((rd_T25 l0 x4_1).f2) true _ ?side1 ?side2 ?side3 ?side4 A6.out).mono ?_);(case side1=>repeat (first | exact (Kd.N_reads' HO_3.out).2.2 | (with_reducible refine Kd.C_alloc ?_ _) | (with_reducible refine Kd.C_drewN ?_ _) | (with_reducible refine Kd.C_drew ?_)));(case side2=>exact (Kd.N_reads' HO_3.out).2.1);(case side3=>repeat (first | exact (by repeat (first | (with_reducible exact HR467_2.out) | (with_reducible refine Kd.C_alloc ?_ _) | (with_reducible refine Kd.C_drewN ?_ _) | (with_reducible refine Kd.C_drew ?_) | exact HR467_2.out)) | (with_reducible refine Kd.C_alloc ?_ _) | (with_reducible refine Kd.C_drewN ?_ _) | (with_reducible refine Kd.C_drew ?_)));(case side4=>exact HC467_2.out);rintro e w9 ⟨rfl,hb⟩;refine ⟨_,rfl,?_⟩;have n0_:=Aside0.mk (Kd.V_below (by (with_reducible repeat (first | apply Kd.V_alloc | apply Kd.V_drewN | apply Kd.V_drew));exact HO_0.out) hb);have n1_:=Aside0.mk (Kd.N_below (by (with_reducible repeat (first | apply Kd.N_alloc | apply Kd.N_drewN | apply Kd.N_drew));exact HO_3.out) hb);have n2_:=Aside0.mk (Kd.V_below (by (with_reducible repeat (first | apply Kd.V_alloc | apply Kd.V_drewN | apply Kd.V_drew));exact HL467_2.out) hb);have n3_:=Aside0.mk (Kd.C_below (by repeat (first | (with_reducible exact HR467_2.out) | (with_reducible refine Kd.C_alloc ?_ _) | (with_reducible refine Kd.C_drewN ?_ _) | (with_reducible refine Kd.C_drew ?_) | exact HR467_2.out)) hb);have n4_:=Aside0.mk (below_step (by repeat (first | (with_reducible first | exact HB.out | apply below_alloc | apply pw_below_drewN | apply below_drew1) | exact HB.out)) hb);clear HO_0;clear HO_3;clear HL467_2;clear HR467_2;clear HB;have HO_0:=n0_;have HO_3:=n1_;have HL467_2:=n2_;have HR467_2:=n3_;have HB:=n4_;clear n0_ n1_ n2_ n3_ n4_;(try clear hb);(try clear hb2);(try clear hk);(try clear hi)))
      go_roundg k1
      case measure=>have:=HK1.out;omega
      case rel=>exact ⟨(x3_1),(wrap64 (x4_1 + 1)),(by first | rfl | (simp;done) | (simp [*];done)),H',⟨by have:=HK1.out;omega⟩,⟨by (with_reducible repeat (first | apply Kd.V_alloc | apply Kd.V_drewN | apply Kd.V_drew));exact HO_0.out⟩,⟨by (with_reducible repeat (first | apply Kd.N_alloc | apply Kd.N_drewN | apply Kd.N_drew));exact HO_3.out⟩,⟨by repeat (first | (with_reducible first | exact HB.out | apply below_alloc | apply pw_below_drewN | apply below_drew1) | exact HB.out)⟩⟩
     ·replace c7:=Bool.eq_false_iff.mpr c7
      subst c7
      have H1:(if x3_1.length < 3518437208883 then (spec_l20Apart.l0 k1 l0 (x3_1 ++ [(⟨(rd_T25 l0 x4_1).f0,(rd_T25 l0 x4_1).f1,(rd_T25 l0 x4_1).f2⟩:S25)]) (wrap64 (x4_1 + 1))) else (none)) = some r:=by rw [if_neg (show ¬ (false = true) by decide)] at H;exact H
      clear H
      have H:=H1
      clear H1
      by_cases c10:x3_1.length < 3518437208883
      ·rw [if_pos c10] at H
       have LMc10:=Aside0.mk c10
       clear c10
       obtain ⟨y470,hy470⟩:∃ y_:List (S25),y_ = (x3_1 ++ [(⟨(rd_T25 l0 x4_1).f0,(rd_T25 l0 x4_1).f1,(rd_T25 l0 x4_1).f2⟩:S25)]):=⟨_,rfl⟩
       replace H:(spec_l20Apart.l0 k1 l0 y470 (wrap64 (x4_1 + 1))) = some r:=by first | (rw [hy470];with_reducible exact H) | (have H2_:=(Option.bind_some _ _).symm.trans H;rw [hy470];with_reducible exact H2_) | (have H2_:=(Option.bind_some _ _).symm.trans H;with_reducible exact H2_) | with_reducible exact H | (rw [hy470];exact H) | exact H
       have Ny470:=Aside0.mk hy470
       clear hy470
       have H':=Aside0.mk H
       clear H
       have p467:0 ≤ (x4_1:Int):=of_decide_eq_true (by first | (with_reducible assumption) | assumption)
       have q467:x4_1 < (l0.length:Int):=of_decide_eq_true (by first | (with_reducible assumption) | assumption)
       obtain ⟨ad467,A467_2,c467_2,e467,hx467_0,hx467_1,hx467_2,hl467_2,hi467_2⟩:=at_T25 (Kd.V_reads' HO_0.out).2.2 x4_1 p467 q467
       cases e467
       obtain ⟨ce467,hce467,hMe467,hcc467⟩:=Kd.V_get HO_0.out z25 x4_1 p467 (by first | exact q467 | exact of_decide_eq_true (by first | (with_reducible assumption) | assumption) | (have e_:=(Kd.V_reads' HO_0.out).1;omega))
       obtain ⟨ua467_2,uc467_2,rfl,ul467_2,ge467_2⟩:=k25_openF hMe467
       have hv467_2:=hcc467 2 _ rfl
       rw [add_field _ _ 2 (by omega)] at hv467_2
       replace hv467_2:=Option.some.inj (hv467_2.symm.trans hx467_2)
       injection hv467_2 with hva_ hvn_ hvc_
       rw [hva_] at ge467_2
       rw [hvc_] at ul467_2
       have HL467_2:=Aside0.mk (show Kd.V k25 25 _ w.heap.size _ _ ((rd_T25 l0 x4_1).f2) from Kd.V_mk ul467_2 ge467_2)
       clear hva_ hvn_ hvc_ ge467_2 ul467_2
       clear hcc467 hce467
       have HR467_2:=Aside0.mk hi467_2
       have HC467_2:=Aside0.mk hl467_2
       clear hi467_2 hl467_2
       replace p467:=eq_true p467
       replace q467:=eq_true q467
       obtain ⟨Ao11,co11,eo11⟩:=Kd.N_slice HO_3.out
       subst eo11
       go_wp2_with (first | ((with_reducible refine gate_callee (f:=63) rfl ?_);refine goesL_ (some 22) rfl rfl Tryd.func63 (by kernel_rfl) rfl #[.slice Ao11 x3_1.length co11,.agg #[.int .i64 ((rd_T25 l0 x4_1).f0),.int .i64 ((rd_T25 l0 x4_1).f1),.slice A467_2 ((rd_T25 l0 x4_1).f2).length c467_2]] rfl (by (try simp only [List.map_toArray,List.map_cons,List.map_nil]);first | done | rfl | (simp only [List.length_drop,List.length_take];rfl)) ?_;(with_reducible refine (spec_l20Has.calls k1 _ _ x3_1 ((rd_T25 l0 x4_1).f0) ((rd_T25 l0 x4_1).f1) _ _ ((rd_T25 l0 x4_1).f2) false _ ?side1 ?side2 ?side3 ?side4 A6.out).mono ?_);(case side1=>repeat (first | exact (Kd.N_reads' HO_3.out).2.2 | (with_reducible refine Kd.C_alloc ?_ _) | (with_reducible refine Kd.C_drewN ?_ _) | (with_reducible refine Kd.C_drew ?_)));(case side2=>exact (Kd.N_reads' HO_3.out).2.1);(case side3=>repeat (first | exact (by repeat (first | (with_reducible exact HR467_2.out) | (with_reducible refine Kd.C_alloc ?_ _) | (with_reducible refine Kd.C_drewN ?_ _) | (with_reducible refine Kd.C_drew ?_) | exact HR467_2.out)) | (with_reducible refine Kd.C_alloc ?_ _) | (with_reducible refine Kd.C_drewN ?_ _) | (with_reducible refine Kd.C_drew ?_)));(case side4=>exact HC467_2.out);rintro e w12 ⟨rfl,hb⟩;refine ⟨_,rfl,?_⟩;have n0_:=Aside0.mk (Kd.V_below (by (with_reducible repeat (first | apply Kd.V_alloc | apply Kd.V_drewN | apply Kd.V_drew));exact HO_0.out) hb);have n1_:=Aside0.mk (Kd.N_below (by (with_reducible repeat (first | apply Kd.N_alloc | apply Kd.N_drewN | apply Kd.N_drew));exact HO_3.out) hb);have n2_:=Aside0.mk (Kd.V_below (by (with_reducible repeat (first | apply Kd.V_alloc | apply Kd.V_drewN | apply Kd.V_drew));exact HL467_2.out) hb);have n3_:=Aside0.mk (Kd.C_below (by repeat (first | (with_reducible exact HR467_2.out) | (with_reducible refine Kd.C_alloc ?_ _) | (with_reducible refine Kd.C_drewN ?_ _) | (with_reducible refine Kd.C_drew ?_) | exact HR467_2.out)) hb);have n4_:=Aside0.mk (below_step (by repeat (first | (with_reducible first | exact HB.out | apply below_alloc | apply pw_below_drewN | apply below_drew1) | exact HB.out)) hb);clear HO_0;clear HO_3;clear HL467_2;clear HR467_2;clear HB;have HO_0:=n0_;have HO_3:=n1_;have HL467_2:=n2_;have HR467_2:=n3_;have HB:=n4_;clear n0_ n1_ n2_ n3_ n4_;(try clear hb);(try clear hb2);(try clear hk);(try clear hi);have p469:0 ≤ (x4_1:Int):=of_decide_eq_true (by first | (with_reducible assumption) | assumption);have q469:x4_1 < (l0.length:Int):=of_decide_eq_true (by first | (with_reducible assumption) | assumption);obtain ⟨ad469,A469_2,c469_2,e469,hx469_0,hx469_1,hx469_2,hl469_2,hi469_2⟩:=at_T25 (Kd.V_reads' HO_0.out).2.2 x4_1 p469 q469;obtain rfl:ad467 = ad469:=(by injection e469);obtain ⟨ce469,hce469,hMe469,hcc469⟩:=Kd.V_get HO_0.out z25 x4_1 p469 (by first | exact q469 | exact of_decide_eq_true (by first | (with_reducible assumption) | assumption) | (have e_:=(Kd.V_reads' HO_0.out).1;omega));obtain ⟨ua469_2,uc469_2,rfl,ul469_2,ge469_2⟩:=k25_openF hMe469;have hv469_2:=hcc469 2 _ rfl;rw [add_field _ _ 2 (by omega)] at hv469_2;replace hv469_2:=Option.some.inj (hv469_2.symm.trans hx469_2);injection hv469_2 with hva_ hvn_ hvc_;rw [hva_] at ge469_2;rw [hvc_] at ul469_2;have HL469_2:=Aside0.mk (show Kd.V k25 25 _ w.heap.size _ _ ((rd_T25 l0 x4_1).f2) from Kd.V_mk ul469_2 ge469_2);clear hva_ hvn_ hvc_ ge469_2 ul469_2;clear hcc469 hce469;have HR469_2:=Aside0.mk hi469_2;have HC469_2:=Aside0.mk hl469_2;clear hi469_2 hl469_2;replace p469:=eq_true p469;replace q469:=eq_true q469) | ((with_reducible refine gate_builtin (b:=.append) (xs:=#[.tmp 24,.tmp 29]) rfl ?_);at_builtin;refine Kd.N_append k25 (w0:=w) w.heap.size rfl (.tmp 24) (.tmp 29) 23 25 (.agg #[(.int .i64 0),(.int .i64 0),(.slice none 0 0)]) 40 rfl Tryd.underlying23 info25 rfl (by decide) (by omega) (.slice Ao11 x3_1.length co11) x3_1 (⟨(rd_T25 l0 x4_1).f0,(rd_T25 l0 x4_1).f1,(rd_T25 l0 x4_1).f2⟩:S25) [.int .i64 ((rd_T25 l0 x4_1).f0),.int .i64 ((rd_T25 l0 x4_1).f1),.slice A469_2 ((rd_T25 l0 x4_1).f2).length c469_2] (fun k_=>(P0_ k_ ∨ w.heap.size ≤ k_)) (fun k_=>((fun k_=>(P0_ k_ ∨ w.heap.size ≤ k_))) k_∧some k_ ≠ (.slice Ao11 x3_1.length co11:Value).ownBlock) rfl rfl ?aP (fun _ hk=>hk) ?aF ?aO ?aB ?aS ?aL ?_;(case aP=>exact (k25_mkF _ _ (⟨(rd_T25 l0 x4_1).f0,(rd_T25 l0 x4_1).f1,(rd_T25 l0 x4_1).f2⟩:S25) (Kd.V_reads' (Kd.V_mono (ok':=(fun k_=>((fun k_=>(P0_ k_ ∨ w.heap.size ≤ k_))) k_∧some k_ ≠ (.slice Ao11 x3_1.length co11:Value).ownBlock)) (HL469_2.out) (fun k_ hk=>⟨hk.1,hk.2⟩))).2.1 (Kd.V_F (Kd.V_mono (ok':=(fun k_=>((fun k_=>(P0_ k_ ∨ w.heap.size ≤ k_))) k_∧some k_ ≠ (.slice Ao11 x3_1.length co11:Value).ownBlock)) (HL469_2.out) (fun k_ hk=>⟨hk.1,hk.2⟩)))));(case aB=>exact (by repeat (first | (with_reducible first | exact HB.out | apply below_alloc | apply pw_below_drewN | apply below_drew1) | exact HB.out)));(case aF=>exact (fun k_ hk=>(.inr (Nat.le_trans (below_size (by repeat (first | (with_reducible first | exact HB.out | apply below_alloc | apply pw_below_drewN | apply below_drew1) | exact HB.out))) hk))));(case aO=>exact (by (with_reducible repeat (first | apply Kd.N_alloc | apply Kd.N_drewN | apply Kd.N_drew));exact HO_3.out));(case aS=>exact (below_size (by repeat (first | (with_reducible first | exact HB.out | apply below_alloc | apply pw_below_drewN | apply below_drew1) | exact HB.out))));(case aL=>have:=LMc10.out;omega);intro v471 w13 ho hb hg hat;rw [← Ny470.out] at ho;have n0_:=Aside0.mk (Kd.V_afterv (ok:=(fun k_=>(P0_ k_ ∨ w.heap.size ≤ k_))) (by (with_reducible repeat (first | apply Kd.V_alloc | apply Kd.V_drewN | apply Kd.V_drew));exact HO_0.out) hg hat);have n1_:=Aside0.mk (Kd.V_afterv (ok:=(fun k_=>(P0_ k_ ∨ w.heap.size ≤ k_))) (by (with_reducible repeat (first | apply Kd.V_alloc | apply Kd.V_drewN | apply Kd.V_drew));exact HL467_2.out) hg hat);have n2_:=Aside0.mk (Kd.V_afterv (ok:=(fun k_=>(P0_ k_ ∨ w.heap.size ≤ k_))) (by (with_reducible repeat (first | apply Kd.V_alloc | apply Kd.V_drewN | apply Kd.V_drew));exact HL469_2.out) hg hat);have n3_:=Aside0.mk (hb);have n4_:=Aside0.mk (ho);clear HO_0;clear HL467_2;clear HL469_2;clear HB;clear HO_3;have HO_0:=n0_;have HL467_2:=n1_;have HL469_2:=n2_;have HB:=n3_;have HO472:=n4_;clear n0_ n1_ n2_ n3_ n4_;clear ho hb hg hat))
       go_roundg k1
       case measure=>have:=HK1.out;omega
       case rel=>exact ⟨(y470),(wrap64 (x4_1 + 1)),(by first | rfl | (simp;done) | (simp [*];done)),H',⟨by have:=HK1.out;omega⟩,⟨by (with_reducible repeat (first | apply Kd.V_alloc | apply Kd.V_drewN | apply Kd.V_drew));exact HO_0.out⟩,⟨by (with_reducible repeat (first | apply Kd.N_alloc | apply Kd.N_drewN | apply Kd.N_drew));exact HO472.out⟩,⟨by repeat (first | (with_reducible first | exact HB.out | apply below_alloc | apply pw_below_drewN | apply below_drew1) | exact HB.out)⟩⟩
      ·rw [if_neg c10] at H
       exact absurd H (by simp)
    ·rw [if_neg c5] at H
     exact absurd H (by simp)
   ·rw [if_neg c4] at H
    have c4b0:decide (x4_1 < (l0.length:Int)) = false:=decide_eq_false c4
    clear c4
    have H':=Aside0.mk H
    clear H
    go_wp2
    go_loopg [3,5] k1 (fun kq v3 v5 w'=>∃ (x3_2:List (S25)) (x5_2:Bool),v5 = .bool x5_2∧Aside0 (spec_l20Apart.l1 kq x3_2 x5_2 = some r)∧Aside0 (kq ≤ k1)∧Aside0 (Kd.N k25 25 w' w.heap.size (fun k_=>(P0_ k_ ∨ w.heap.size ≤ k_)) v3 x3_2)∧Aside0 (Below w.heap.size w w'))
    case atStart=>exact ⟨(x3_1),(true),(by first | rfl | (simp;done) | (simp [*];done)),H',⟨Nat.le_refl _⟩,⟨by (with_reducible repeat (first | apply Kd.N_alloc | apply Kd.N_drewN | apply Kd.N_drew));exact HO_3.out⟩,⟨by repeat (first | (with_reducible first | exact HB.out | apply below_alloc | apply pw_below_drewN | apply below_drew1) | exact HB.out)⟩⟩
    case round =>
     clear H'
     try clear c1
     try clear p2
     try clear c4
     try clear c4b0
     try clear p4
     try clear q4
     try clear hx4
     try clear c5
     try clear c5b0
     try clear c6
     try clear p6
     try clear c7
     try clear c10
     try clear hx467_0
     try clear hx467_1
     try clear hx467_2
     try clear hx469_0
     try clear hx469_1
     try clear hx469_2
     try clear p2
     try clear p467
     try clear p469
     try clear q467
     try clear q469
     obtain ⟨x3_2,x5_2,rfl,HA,HK2,HO_3,HB⟩:=hrel
     cases gk with
     | zero=>exact absurd HA.out (by simp [spec_l20Apart.l1])
     | succ k2 =>
      have H:=HA.out
      clear HA
      simp only [spec_l20Apart.l1] at H
      by_cases c14:x5_2 = true
      ·subst c14
       have H1:(spec_l20Apart.l2 k2 x3_2 false 0) = some r:=by rw [if_pos rfl] at H;exact H
       clear H
       have H:=H1
       clear H1
       have H':=Aside0.mk H
       clear H
       go_wp2
       go_loopg [3,5,6] k2 (fun kq v3 v5 v6 w'=>∃ (x3_3:List (S25)) (x5_3:Bool) (x6_3:Int),v5 = .bool x5_3∧v6 = .int .i64 x6_3∧Aside0 (spec_l20Apart.l2 kq x3_3 x5_3 x6_3 = some r)∧Aside0 (kq ≤ k2)∧Aside0 (Kd.N k25 25 w' w.heap.size (fun k_=>(P0_ k_ ∨ w.heap.size ≤ k_)) v3 x3_3)∧Aside0 (Below w.heap.size w w'))
       case atStart=>exact ⟨(x3_2),(false),(0),(by first | rfl | (simp;done) | (simp [*];done)),(by first | rfl | (simp;done) | (simp [*];done)),H',⟨Nat.le_refl _⟩,⟨by (with_reducible repeat (first | apply Kd.N_alloc | apply Kd.N_drewN | apply Kd.N_drew));exact HO_3.out⟩,⟨by repeat (first | (with_reducible first | exact HB.out | apply below_alloc | apply pw_below_drewN | apply below_drew1) | exact HB.out)⟩⟩
       case round =>
        clear H'
        try clear c1
        try clear p2
        try clear c4
        try clear c4b0
        try clear p4
        try clear q4
        try clear hx4
        try clear c5
        try clear c5b0
        try clear c6
        try clear p6
        try clear c7
        try clear c10
        try clear c14
        try clear hx467_0
        try clear hx467_1
        try clear hx467_2
        try clear hx469_0
        try clear hx469_1
        try clear hx469_2
        try clear p2
        try clear p4
        try clear p467
        try clear p469
        try clear p6
        try clear q4
        try clear q467
        try clear q469
        obtain ⟨x3_3,x5_3,x6_3,rfl,rfl,HA,HK3,HO_3,HB⟩:=hrel
        cases gk with
        | zero=>exact absurd HA.out (by simp [spec_l20Apart.l2])
        | succ k3 =>
         have H:=HA.out
         clear HA
         simp only [spec_l20Apart.l2] at H
         by_cases c15:x6_3 < (x3_3.length:Int)
         ·rw [if_pos c15] at H
          have c15b0:decide (x6_3 < (x3_3.length:Int)) = true:=decide_eq_true c15
          clear c15
          by_cases c16:0 ≤ x6_3
          ·rw [if_pos c16] at H
           have c16b0:decide (0 ≤ x6_3) = true:=decide_eq_true c16
           clear c16
           obtain ⟨y475,hy475⟩:∃ y_:List (S25),y_ = (([]:List (S25))):=⟨_,rfl⟩
           replace H:(if ((rd_T25 x3_3 x6_3).f0) = 1 then (spec_l20Apart.j3 k3 x3_3 x5_3 x6_3 ((rd_T25 x3_3 x6_3).f2) ((rd_T25 x3_3 x6_3).f0) ((rd_T25 x3_3 x6_3).f1) ((rd_T25 x3_3 x6_3).f2)) else (spec_l20Apart.j3 k3 x3_3 x5_3 x6_3 y475 ((rd_T25 x3_3 x6_3).f0) ((rd_T25 x3_3 x6_3).f1) ((rd_T25 x3_3 x6_3).f2))) = some r:=by first | (rw [hy475];with_reducible exact H) | (have H2_:=(Option.bind_some _ _).symm.trans H;rw [hy475];with_reducible exact H2_) | (have H2_:=(Option.bind_some _ _).symm.trans H;with_reducible exact H2_) | with_reducible exact H | (rw [hy475];exact H) | exact H
           have Ny475:=Aside0.mk hy475
           clear hy475
           have HC17:=Aside0.mk H
           clear H
           obtain ⟨Ao18,co18,eo18⟩:=Kd.N_slice HO_3.out
           subst eo18
           have p473:0 ≤ (x6_3:Int):=of_decide_eq_true (by first | (with_reducible assumption) | assumption)
           have q473:x6_3 < (x3_3.length:Int):=of_decide_eq_true (by first | (with_reducible assumption) | assumption)
           obtain ⟨ad473,A473_2,c473_2,e473,hx473_0,hx473_1,hx473_2,hl473_2,hi473_2⟩:=at_T25 (Kd.N_reads' HO_3.out).2.2 x6_3 p473 q473
           cases e473
           obtain ⟨ce473,hce473,hMe473,hcc473⟩:=Kd.N_get HO_3.out z25 x6_3 p473 (by first | exact q473 | exact of_decide_eq_true (by first | (with_reducible assumption) | assumption) | (have e_:=(Kd.N_reads' HO_3.out).1;omega))
           obtain ⟨ua473_2,uc473_2,rfl,ul473_2,ge473_2⟩:=k25_openF hMe473
           have hv473_2:=hcc473 2 _ rfl
           rw [add_field _ _ 2 (by omega)] at hv473_2
           replace hv473_2:=Option.some.inj (hv473_2.symm.trans hx473_2)
           injection hv473_2 with hva_ hvn_ hvc_
           rw [hva_] at ge473_2
           rw [hvc_] at ul473_2
           have HL473_2:=Aside0.mk (show Kd.V k25 25 _ w.heap.size _ _ ((rd_T25 x3_3 x6_3).f2) from Kd.V_mk ul473_2 ge473_2)
           clear hva_ hvn_ hvc_ ge473_2 ul473_2
           clear hcc473 hce473
           have HR473_2:=Aside0.mk hi473_2
           have HC473_2:=Aside0.mk hl473_2
           clear hi473_2 hl473_2
           replace p473:=eq_true p473
           replace q473:=eq_true q473
           go_upto_if 45 with (first | ((with_reducible refine gate_dst (N:=7) rfl ?_);refine box_event ?hg (N:=7) ?hd (cs:=#[.int .i64 0,.int .i64 0,.slice none 0 0]) (t:=25) ?hr ?_;(case hd=>rfl);(case hg=>rfl);(case hr=>first | (go_simp;done) | (go_simp;rfl));intro gb474 hg w19 hbox hb;have n0_:=Aside0.mk (Kd.N_below (Kd.N_elderB (by (with_reducible repeat (first | apply Kd.N_alloc | apply Kd.N_drewN | apply Kd.N_drew));exact HO_3.out) gb474 (Nat.le_of_eq hg.symm)) hb);have n1_:=Aside0.mk (Kd.V_below (Kd.V_elderB (by (with_reducible repeat (first | apply Kd.V_alloc | apply Kd.V_drewN | apply Kd.V_drew));exact HL473_2.out) gb474 (Nat.le_of_eq hg.symm)) hb);have n2_:=Aside0.mk (Kd.C_below (by repeat (first | (with_reducible exact HR473_2.out) | (with_reducible refine Kd.C_alloc ?_ _) | (with_reducible refine Kd.C_drewN ?_ _) | (with_reducible refine Kd.C_drew ?_) | exact HR473_2.out)) hb);have n3_:=Aside0.mk (below_step (by repeat (first | (with_reducible first | exact HB.out | apply below_alloc | apply pw_below_drewN | apply below_drew1) | exact HB.out)) hb);have n4_:=Aside0.mk (hbox);have n5_:=Aside0.mk ((by rw [hg];exact (below_size (by repeat (first | (with_reducible first | exact HB.out | apply below_alloc | apply pw_below_drewN | apply below_drew1) | exact HB.out))):w.heap.size ≤ gb474));have n6_:=Aside0.mk ((by rw [hg];exact (below_size (by repeat (first | (with_reducible first | exact HB.out | apply below_alloc | apply pw_below_drewN | apply below_drew1) | exact HB.out))):w.heap.size ≤ gb474));clear HO_3;clear HL473_2;clear HR473_2;clear HB;have HO_3:=n0_;have HL473_2:=n1_;have HR473_2:=n2_;have HB:=n3_;have BK474:=n4_;have GW474:=n5_;have GE474:=n6_;clear n0_ n1_ n2_ n3_ n4_ n5_ n6_;clear hb hbox hg;have hcz20_0:w19.cell? ⟨gb474,0,none⟩ = some (.int .i64 0):=(blk_cell BK474.out 0).trans rfl;have hcz20_1:w19.cell? ⟨gb474,1,none⟩ = some (.int .i64 0):=(blk_cell BK474.out 1).trans rfl;have hcz20_2:w19.cell? ⟨gb474,2,none⟩ = some (.slice none 0 0):=(blk_cell BK474.out 2).trans rfl;have hfz20_0:=blk_frozen BK474.out 0;have hfz20_1:=blk_frozen BK474.out 1;have hfz20_2:=blk_frozen BK474.out 2) | ((with_reducible refine gate_store (t:=25) (p:=7) rfl ?_);refine store_event (t:=25) (p:=7) (v:=?vo_w21) (w1:=(((w19.setCell ⟨gb474,0,none⟩ (.int .i64 ((rd_T25 x3_3 x6_3).f0))).setCell ⟨gb474,1,none⟩ (.int .i64 ((rd_T25 x3_3 x6_3).f1))).setCell ⟨gb474,2,none⟩ (.slice A473_2 ((rd_T25 x3_3 x6_3).f2).length c473_2))) ?hg ?ho ?hn ?hr ?_;(case ho=>rfl);(case hg=>rfl);(case hn=>rfl);(case hr=>first | (go_simp;done) | (go_simp;rfl));intro w21 hw;have n0_:Aside0 (Kd.N k25 25 w21 w.heap.size (fun k_=>(P0_ k_ ∨ w.heap.size ≤ k_)∧k_ ≠ gb474) (.slice (some ad473) x3_3.length co18) x3_3):=⟨(by rw [hw];exact (by (with_reducible repeat (first | apply Kd.N_alloc | apply Kd.N_drewN | apply Kd.N_drew));exact Kd.N_mono (Kd.N_far (p:=⟨gb474,2,none⟩) (Kd.N_far (p:=⟨gb474,1,none⟩) (Kd.N_far (p:=⟨gb474,0,none⟩) (Kd.N_mono HO_3.out (fun k_ hk=>(⟨hk,hk.2⟩:_∧k_ ≠ gb474))) (fun _ hk=>hk.2) (.int .i64 ((rd_T25 x3_3 x6_3).f0))) (fun _ hk=>hk.2) (.int .i64 ((rd_T25 x3_3 x6_3).f1))) (fun _ hk=>hk.2) (.slice A473_2 ((rd_T25 x3_3 x6_3).f2).length c473_2)) (fun _ hk=>⟨hk.1.1,hk.1.2⟩)))⟩;have n1_:Aside0 (Kd.V k25 25 w21 w.heap.size (fun k_=>(P0_ k_ ∨ w.heap.size ≤ k_)∧some k_ ≠ (.slice (some ad473) x3_3.length co18:Value).ownBlock∧k_ ≠ gb474) (.slice A473_2 ((rd_T25 x3_3 x6_3).f2).length c473_2) ((rd_T25 x3_3 x6_3).f2)):=⟨(by rw [hw];exact (by (with_reducible repeat (first | apply Kd.V_alloc | apply Kd.V_drewN | apply Kd.V_drew));exact Kd.V_mono (Kd.V_far (p:=⟨gb474,2,none⟩) (Kd.V_far (p:=⟨gb474,1,none⟩) (Kd.V_far (p:=⟨gb474,0,none⟩) (Kd.V_mono HL473_2.out (fun k_ hk=>(⟨hk,hk.2⟩:_∧k_ ≠ gb474))) (fun _ hk=>hk.2) (.int .i64 ((rd_T25 x3_3 x6_3).f0))) (fun _ hk=>hk.2) (.int .i64 ((rd_T25 x3_3 x6_3).f1))) (fun _ hk=>hk.2) (.slice A473_2 ((rd_T25 x3_3 x6_3).f2).length c473_2)) (fun _ hk=>⟨hk.1.1.1,⟨hk.1.1.2,hk.1.2⟩⟩)))⟩;have n2_:Aside0 (w21.heap[gb474]? = some (.cells #[.int .i64 ((rd_T25 x3_3 x6_3).f0),.int .i64 ((rd_T25 x3_3 x6_3).f1),.slice A473_2 ((rd_T25 x3_3 x6_3).f2).length c473_2] 25 (0,0))):=⟨(by rw [hw];exact (by (with_reducible repeat (first | refine blk_drewN ?_ _ | refine blk_drew ?_ | refine blk_alloc ?_ _));refine blk_put (cs:=#[.int .i64 ((rd_T25 x3_3 x6_3).f0),.int .i64 ((rd_T25 x3_3 x6_3).f1),.slice none 0 0]) ?_ 2 _ rfl;(with_reducible repeat (first | refine blk_drewN ?_ _ | refine blk_drew ?_ | refine blk_alloc ?_ _));refine blk_put (cs:=#[.int .i64 ((rd_T25 x3_3 x6_3).f0),.int .i64 0,.slice none 0 0]) ?_ 1 _ rfl;(with_reducible repeat (first | refine blk_drewN ?_ _ | refine blk_drew ?_ | refine blk_alloc ?_ _));refine blk_put (cs:=#[.int .i64 0,.int .i64 0,.slice none 0 0]) ?_ 0 _ rfl;(with_reducible repeat (first | refine blk_drewN ?_ _ | refine blk_drew ?_ | refine blk_alloc ?_ _));exact BK474.out))⟩;have n3_:Aside0 (Below w.heap.size w w21):=⟨(by rw [hw];exact (by repeat (first | (with_reducible first | exact HB.out | apply below_alloc | apply pw_below_drewN | apply below_drew1 | refine below_set ?_ GE474.out) | exact HB.out)))⟩;clear hw;clear HO_3;clear HL473_2;clear BK474;clear HB;have HO_3:=n0_;have HL473_2:=n1_;have BK474:=n2_;have HB:=n3_;clear n0_ n1_ n2_ n3_;clear HR473_2;have HR473_2:=Aside0.mk (Kd.V_reads' HL473_2.out).2.2) | ((with_reducible refine gate_dst (N:=42) rfl ?_);refine Kd.N_lit k25 _ 25 ?hg (N':=42) ?hd (xs:=([]:List (S25))) (inner:=[]) (ok:=(fun k_=>(P0_ k_ ∨ w.heap.size ≤ k_)∧some k_ ≠ (.slice (some ad473) x3_3.length co18:Value).ownBlock∧k_ ≠ gb474)) (okp:=(fun k_=>(P0_ k_ ∨ w.heap.size ≤ k_)∧some k_ ≠ (.slice (some ad473) x3_3.length co18:Value).ownBlock∧k_ ≠ gb474)) ?hr ?hp (fun _ hk=>hk) ((show ∀ k_,w21.heap.size ≤ k_ → (fun k_=>(P0_ k_ ∨ w.heap.size ≤ k_)∧some k_ ≠ (.slice (some ad473) x3_3.length co18:Value).ownBlock∧k_ ≠ gb474) k_ from fun k_ hk=>⟨(.inr (Nat.le_trans (below_size (by repeat (first | (with_reducible first | exact HB.out | apply below_alloc | apply pw_below_drewN | apply below_drew1 | refine below_set ?_ GE474.out) | exact HB.out))) hk)),Kd.fresh' (Kd.N_lt (by (with_reducible repeat (first | apply Kd.N_alloc | apply Kd.N_drewN | apply Kd.N_drew));exact HO_3.out)) k_ hk,Kd.freshB (g:=gb474) (o:=.cells #[.int .i64 ((rd_T25 x3_3 x6_3).f0),.int .i64 ((rd_T25 x3_3 x6_3).f1),.slice A473_2 ((rd_T25 x3_3 x6_3).f2).length c473_2] 25 (0,0)) (by (with_reducible repeat (first | refine blk_drewN ?_ _ | refine blk_drew ?_ | refine blk_alloc ?_ _));exact BK474.out) k_ hk⟩) _ (Nat.le_refl _)) (Below.refl _ _) (Nat.le_refl _) (by simp) ?_;(case hd=>rfl);(case hg=>rfl);(case hr=>first | (go_simp;done) | (go_simp;rfl));(case hp=>exact (Reps.none _ _));intro v476 w22 ho23 hb hg_ hnew_;clear hg_ hnew_;(first | rw [← Ny475.out] at ho23 | (simp only [Int.reduceToNat] at ho23;rw [← Ny475.out] at ho23));have n0_:=Aside0.mk (Kd.N_elder' (by (with_reducible repeat (first | apply Kd.N_alloc | apply Kd.N_drewN | apply Kd.N_drew));exact HO_3.out) (Kd.N_base ho23) hb);have n1_:=Aside0.mk (Kd.V_elder' (by (with_reducible repeat (first | apply Kd.V_alloc | apply Kd.V_drewN | apply Kd.V_drew));exact HL473_2.out) (Kd.N_base ho23) hb);have n2_:=Aside0.mk (Kd.N_lower ho23 (below_size (by repeat (first | (with_reducible first | exact HB.out | apply below_alloc | apply pw_below_drewN | apply below_drew1 | refine below_set ?_ GE474.out) | exact HB.out))));have n3_:=Aside0.mk (Kd.C_below (by repeat (first | (with_reducible exact HR473_2.out) | (with_reducible refine Kd.C_alloc ?_ _) | (with_reducible refine Kd.C_drewN ?_ _) | (with_reducible refine Kd.C_drew ?_) | exact HR473_2.out)) hb);have n4_:=Aside0.mk (blk_below (g:=gb474) (o:=.cells #[.int .i64 ((rd_T25 x3_3 x6_3).f0),.int .i64 ((rd_T25 x3_3 x6_3).f1),.slice A473_2 ((rd_T25 x3_3 x6_3).f2).length c473_2] 25 (0,0)) (by (with_reducible repeat (first | refine blk_drewN ?_ _ | refine blk_drew ?_ | refine blk_alloc ?_ _));exact BK474.out) hb);have n5_:=Aside0.mk (below_step (by repeat (first | (with_reducible first | exact HB.out | apply below_alloc | apply pw_below_drewN | apply below_drew1 | refine below_set ?_ GE474.out) | exact HB.out)) hb);clear HO_3;clear HL473_2;clear HR473_2;clear BK474;clear HB;have HO_3:=n0_;have HL473_2:=n1_;have HO477:=n2_;have HR473_2:=n3_;have BK474:=n4_;have HB:=n5_;clear n0_ n1_ n2_ n3_ n4_ n5_;clear hb ho23;have hcz24_0:w22.cell? ⟨gb474,0,none⟩ = some (.int .i64 ((rd_T25 x3_3 x6_3).f0)):=(blk_cell BK474.out 0).trans rfl;have hcz24_1:w22.cell? ⟨gb474,1,none⟩ = some (.int .i64 ((rd_T25 x3_3 x6_3).f1)):=(blk_cell BK474.out 1).trans rfl;have hcz24_2:w22.cell? ⟨gb474,2,none⟩ = some (.slice A473_2 ((rd_T25 x3_3 x6_3).f2).length c473_2):=(blk_cell BK474.out 2).trans rfl;have hfz24_0:=blk_frozen BK474.out 0;have hfz24_1:=blk_frozen BK474.out 1;have hfz24_2:=blk_frozen BK474.out 2))
           (try simp only [Act.put,List.setIfInBounds_toArray,List.set_cons_zero,List.set_cons_succ])
           go_cut [8] (fun v8 wc=>∃ (kq:Nat) (x8_16:List (S25)),Aside0 (spec_l20Apart.j3 kq x3_3 x5_3 x6_3 x8_16 ((rd_T25 x3_3 x6_3).f0) ((rd_T25 x3_3 x6_3).f1) ((rd_T25 x3_3 x6_3).f2) = some r)∧Aside0 (kq ≤ k3)∧Aside0 (Kd.N k25 25 wc w.heap.size (fun k_=>(P0_ k_ ∨ w.heap.size ≤ k_)∧k_ ≠ gb474) (.slice (some ad473) x3_3.length co18) x3_3)∧Aside0 (Kd.V k25 25 wc w.heap.size (fun k_=>(P0_ k_ ∨ w.heap.size ≤ k_)∧some k_ ≠ ((.slice (some ad473) x3_3.length co18):Value).ownBlock∧k_ ≠ gb474) v8 x8_16)∧Aside0 (Kd.V k25 25 wc w.heap.size (fun k_=>(P0_ k_ ∨ w.heap.size ≤ k_)∧some k_ ≠ ((.slice (some ad473) x3_3.length co18):Value).ownBlock∧k_ ≠ gb474) (.slice A473_2 ((rd_T25 x3_3 x6_3).f2).length c473_2) ((rd_T25 x3_3 x6_3).f2))∧Aside0 (wc.heap[gb474]? = some (.cells #[.int .i64 ((rd_T25 x3_3 x6_3).f0),.int .i64 ((rd_T25 x3_3 x6_3).f1),(.slice A473_2 ((rd_T25 x3_3 x6_3).f2).length c473_2)] 25 (0,0)))∧Aside0 (Kd.C k25 wc A473_2 ((rd_T25 x3_3 x6_3).f2).length ((rd_T25 x3_3 x6_3).f2))∧Aside0 (Below w.heap.size w wc))
           case first =>
            have H:=HC17.out
            clear HC17
            by_cases c25:((rd_T25 x3_3 x6_3).f0) = 1
            ·rw [if_pos c25] at H
             have c25b0:(((rd_T25 x3_3 x6_3).f0) == 1) = true:=beq_iff_eq.mpr c25
             have c25b1:(((rd_T25 x3_3 x6_3).f0) != 1) = false:=bne_eq_false_iff_eq.mpr c25
             clear c25
             (first | rw [c25b0] | (simp only [i64_w,i32_w];rw [c25b0]) | skip)
             have H':=Aside0.mk H
             clear H
             have hcz26_0:w22.cell? ⟨gb474,0,none⟩ = some (.int .i64 ((rd_T25 x3_3 x6_3).f0)):=(blk_cell BK474.out 0).trans rfl
             have hcz26_1:w22.cell? ⟨gb474,1,none⟩ = some (.int .i64 ((rd_T25 x3_3 x6_3).f1)):=(blk_cell BK474.out 1).trans rfl
             have hcz26_2:w22.cell? ⟨gb474,2,none⟩ = some (.slice A473_2 ((rd_T25 x3_3 x6_3).f2).length c473_2):=(blk_cell BK474.out 2).trans rfl
             have hfz26_0:=blk_frozen BK474.out 0
             have hfz26_1:=blk_frozen BK474.out 1
             have hfz26_2:=blk_frozen BK474.out 2
             go_wp2
             go_meet
             case rel=>exact ⟨_,((rd_T25 x3_3 x6_3).f2),H',⟨by have:=HK1.out;have:=HK2.out;have:=HK3.out;first | omega | exact Nat.le_refl _⟩,⟨by (with_reducible repeat (first | apply Kd.N_alloc | apply Kd.N_drewN | apply Kd.N_drew));exact Kd.N_mono HO_3.out (fun _ hk=>⟨hk.1.1,hk.1.2⟩)⟩,⟨by (with_reducible repeat (first | apply Kd.V_alloc | apply Kd.V_drewN | apply Kd.V_drew));exact Kd.V_mono HL473_2.out (fun _ hk=>⟨hk.1.1,⟨hk.1.2.1,hk.1.2.2⟩⟩)⟩,⟨by (with_reducible repeat (first | apply Kd.V_alloc | apply Kd.V_drewN | apply Kd.V_drew));exact Kd.V_mono HL473_2.out (fun _ hk=>⟨hk.1.1,⟨hk.1.2.1,hk.1.2.2⟩⟩)⟩,⟨by (with_reducible repeat (first | refine blk_drewN ?_ _ | refine blk_drew ?_ | refine blk_alloc ?_ _));exact BK474.out⟩,⟨by repeat (first | (with_reducible exact HR473_2.out) | (with_reducible refine Kd.C_alloc ?_ _) | (with_reducible refine Kd.C_drewN ?_ _) | (with_reducible refine Kd.C_drew ?_) | exact HR473_2.out)⟩,⟨by repeat (first | (with_reducible first | exact HB.out | apply below_alloc | apply pw_below_drewN | apply below_drew1 | refine below_set ?_ GE474.out) | exact HB.out)⟩⟩
            ·rw [if_neg c25] at H
             have c25b0:(((rd_T25 x3_3 x6_3).f0) == 1) = false:=beq_eq_false_iff_ne.mpr c25
             have c25b1:(((rd_T25 x3_3 x6_3).f0) != 1) = true:=bne_iff_ne.mpr c25
             (first | rw [c25b0] | (simp only [i64_w,i32_w];rw [c25b0]) | skip)
             have H':=Aside0.mk H
             clear H
             go_wp2
             go_meet
             case rel=>exact ⟨_,(y475),H',⟨by have:=HK1.out;have:=HK2.out;have:=HK3.out;first | omega | exact Nat.le_refl _⟩,⟨by (with_reducible repeat (first | apply Kd.N_alloc | apply Kd.N_drewN | apply Kd.N_drew));exact Kd.N_mono HO_3.out (fun _ hk=>⟨hk.1.1,hk.1.2⟩)⟩,⟨Kd.N_V (by (with_reducible repeat (first | apply Kd.N_alloc | apply Kd.N_drewN | apply Kd.N_drew));exact HO477.out)⟩,⟨by (with_reducible repeat (first | apply Kd.V_alloc | apply Kd.V_drewN | apply Kd.V_drew));exact Kd.V_mono HL473_2.out (fun _ hk=>⟨hk.1.1,⟨hk.1.2.1,hk.1.2.2⟩⟩)⟩,⟨by (with_reducible repeat (first | refine blk_drewN ?_ _ | refine blk_drew ?_ | refine blk_alloc ?_ _));exact BK474.out⟩,⟨by repeat (first | (with_reducible exact HR473_2.out) | (with_reducible refine Kd.C_alloc ?_ _) | (with_reducible refine Kd.C_drewN ?_ _) | (with_reducible refine Kd.C_drew ?_) | exact HR473_2.out)⟩,⟨by repeat (first | (with_reducible first | exact HB.out | apply below_alloc | apply pw_below_drewN | apply below_drew1 | refine below_set ?_ GE474.out) | exact HB.out)⟩⟩
           case rest =>
            clear HC17
            try clear c1
            try clear c2
            try clear p2
            try clear c4
            try clear c4b0
            try clear p4
            try clear q4
            try clear hx4
            try clear c5
            try clear c5b0
            try clear c6
            try clear p6
            try clear c7
            try clear c10
            try clear c14
            try clear c15
            try clear c15b0
            try clear c16
            try clear c16b0
            try clear c25
            try clear c25b0
            try clear c25b1
            try clear hcz20_0
            try clear hcz20_1
            try clear hcz20_2
            try clear hcz24_0
            try clear hcz24_1
            try clear hcz24_2
            try clear hcz26_0
            try clear hcz26_1
            try clear hcz26_2
            try clear hfz20_0
            try clear hfz20_1
            try clear hfz20_2
            try clear hfz24_0
            try clear hfz24_1
            try clear hfz24_2
            try clear hfz26_0
            try clear hfz26_1
            try clear hfz26_2
            try clear hx467_0
            try clear hx467_1
            try clear hx467_2
            try clear hx469_0
            try clear hx469_1
            try clear hx469_2
            try clear hx473_0
            try clear hx473_1
            try clear hx473_2
            try clear p2
            try clear p4
            try clear p467
            try clear p469
            try clear p473
            try clear p6
            try clear q4
            try clear q467
            try clear q469
            try clear q473
            obtain ⟨kq,x8_16,HA,HJ16,HO_3,HO_8,HO_475002,BK474,HR473_2,HB⟩:=hcut
            cases kq with
            | zero=>exact absurd HA.out (by simp [spec_l20Apart.j3])
            | succ kj16 =>
             have H:=HA.out
             clear HA
             simp only [spec_l20Apart.j3] at H
             have HC27:=Aside0.mk H
             clear H
             go_upto_region 17 with (fail)
             go_cut [58] (fun v58 wc=>∃ (kq:Nat) (x58_26:Bool),v58 = .bool x58_26∧Aside0 (spec_l20Apart.j4 kq x3_3 x5_3 x6_3 x8_16 x58_26 ((rd_T25 x3_3 x6_3).f0) ((rd_T25 x3_3 x6_3).f1) ((rd_T25 x3_3 x6_3).f2) = some r)∧Aside0 (kq ≤ kj16)∧Aside0 (Kd.N k25 25 wc w.heap.size (fun k_=>(P0_ k_ ∨ w.heap.size ≤ k_)∧k_ ≠ gb474) (.slice (some ad473) x3_3.length co18) x3_3)∧Aside0 (Kd.V k25 25 wc w.heap.size (fun k_=>(P0_ k_ ∨ w.heap.size ≤ k_)∧some k_ ≠ ((.slice (some ad473) x3_3.length co18):Value).ownBlock∧k_ ≠ gb474) u8 x8_16)∧Aside0 (Kd.V k25 25 wc w.heap.size (fun k_=>(P0_ k_ ∨ w.heap.size ≤ k_)∧some k_ ≠ ((.slice (some ad473) x3_3.length co18):Value).ownBlock∧k_ ≠ gb474) (.slice A473_2 ((rd_T25 x3_3 x6_3).f2).length c473_2) ((rd_T25 x3_3 x6_3).f2))∧Aside0 (wc.heap[gb474]? = some (.cells #[.int .i64 ((rd_T25 x3_3 x6_3).f0),.int .i64 ((rd_T25 x3_3 x6_3).f1),(.slice A473_2 ((rd_T25 x3_3 x6_3).f2).length c473_2)] 25 (0,0)))∧Aside0 (Kd.C k25 wc A473_2 ((rd_T25 x3_3 x6_3).f2).length ((rd_T25 x3_3 x6_3).f2))∧Aside0 (Below w.heap.size w wc))
             case first =>
              have H:=HC27.out
              clear HC27
              by_cases c28:((rd_T25 x3_3 x6_3).f0) = 2
              ·rw [if_pos c28] at H
               have c28b0:(((rd_T25 x3_3 x6_3).f0) == 2) = true:=beq_iff_eq.mpr c28
               have c28b1:(((rd_T25 x3_3 x6_3).f0) != 2) = false:=bne_eq_false_iff_eq.mpr c28
               clear c28
               (first | rw [c28b0] | (simp only [i64_w,i32_w];rw [c28b0]) | skip)
               by_cases c29:0 < (((rd_T25 x3_3 x6_3).f2).length:Int)
               ·rw [if_pos c29] at H
                have c29b0:decide (0 < (((rd_T25 x3_3 x6_3).f2).length:Int)) = true:=decide_eq_true c29
                have c29b1:decide (0 < ((rd_T25 x3_3 x6_3).f2).length) = true:=decide_eq_true (by omega)
                clear c29
                replace H:=Option.bind_eq_some_iff.mp H
                obtain ⟨t479,A300,H⟩:=H
                replace H:(spec_l20Apart.j4 kj16 x3_3 x5_3 x6_3 x8_16 t479 ((rd_T25 x3_3 x6_3).f0) ((rd_T25 x3_3 x6_3).f1) ((rd_T25 x3_3 x6_3).f2)) = some r:=H
                have A30:=Aside0.mk A300
                clear A300
                have H':=Aside0.mk H
                clear H
                have hcz31_0:wc.cell? ⟨gb474,0,none⟩ = some (.int .i64 ((rd_T25 x3_3 x6_3).f0)):=(blk_cell BK474.out 0).trans rfl
                have hcz31_1:wc.cell? ⟨gb474,1,none⟩ = some (.int .i64 ((rd_T25 x3_3 x6_3).f1)):=(blk_cell BK474.out 1).trans rfl
                have hcz31_2:wc.cell? ⟨gb474,2,none⟩ = some (.slice A473_2 ((rd_T25 x3_3 x6_3).f2).length c473_2):=(blk_cell BK474.out 2).trans rfl
                have hfz31_0:=blk_frozen BK474.out 0
                have hfz31_1:=blk_frozen BK474.out 1
                have hfz31_2:=blk_frozen BK474.out 2
                have p478:0 ≤ (0:Int):=(by omega)
                have q478:0 < (((rd_T25 x3_3 x6_3).f2).length:Int):=of_decide_eq_true (by first | (with_reducible assumption) | assumption)
                obtain ⟨ad478,A478_2,c478_2,e478,hx478_0,hx478_1,hx478_2,hl478_2,hi478_2⟩:=at_T25 (Kd.V_reads' HO_475002.out).2.2 0 p478 q478
                cases e478
                obtain ⟨ce478,hce478,hMe478,hcc478⟩:=Kd.V_get HO_475002.out z25 0 p478 (by first | exact q478 | exact of_decide_eq_true (by first | (with_reducible assumption) | assumption) | (have e_:=(Kd.V_reads' HO_475002.out).1;omega))
                obtain ⟨ua478_2,uc478_2,rfl,ul478_2,ge478_2⟩:=k25_openF hMe478
                have hv478_2:=hcc478 2 _ rfl
                rw [add_field _ _ 2 (by omega)] at hv478_2
                replace hv478_2:=Option.some.inj (hv478_2.symm.trans hx478_2)
                injection hv478_2 with hva_ hvn_ hvc_
                rw [hva_] at ge478_2
                rw [hvc_] at ul478_2
                have HL478_2:=Aside0.mk (show Kd.V k25 25 _ w.heap.size _ _ ((rd_T25 ((rd_T25 x3_3 x6_3).f2) 0).f2) from Kd.V_mk ul478_2 ge478_2)
                clear hva_ hvn_ hvc_ ge478_2 ul478_2
                clear hcc478 hce478
                have qi478:(0 < ((rd_T25 x3_3 x6_3).f2).length) = True:=eq_true (by omega)
                (try rw [show ((0:Int)).toNat = 0 from rfl] at hx478_0)
                (try rw [show 0 * 3 = 0 from rfl] at hx478_0)
                (try rw [Addr.add_zero'] at hx478_0)
                (try rw [show ((0:Int)).toNat = 0 from rfl] at hx478_1)
                (try rw [show 0 * 3 = 0 from rfl] at hx478_1)
                (try rw [Addr.add_zero'] at hx478_1)
                (try rw [show ((0:Int)).toNat = 0 from rfl] at hx478_2)
                (try rw [show 0 * 3 = 0 from rfl] at hx478_2)
                (try rw [Addr.add_zero'] at hx478_2)
                have HR478_2:=Aside0.mk hi478_2
                have HC478_2:=Aside0.mk hl478_2
                clear hi478_2 hl478_2
                replace p478:=eq_true p478
                replace q478:=eq_true q478
                go_wp2_with (first | (go_at_call 52;(with_reducible refine (spec_l20Made.calls kj16 _ _ x3_3 ((rd_T25 ((rd_T25 x3_3 x6_3).f2) 0).f0) ((rd_T25 ((rd_T25 x3_3 x6_3).f2) 0).f1) _ _ ((rd_T25 ((rd_T25 x3_3 x6_3).f2) 0).f2) t479 _ ?side1 ?side2 ?side3 ?side4 A30.out).mono ?_);(case side1=>repeat (first | exact (Kd.N_reads' HO_3.out).2.2 | (with_reducible refine Kd.C_alloc ?_ _) | (with_reducible refine Kd.C_drewN ?_ _) | (with_reducible refine Kd.C_drew ?_)));(case side2=>exact (Kd.N_reads' HO_3.out).2.1);(case side3=>repeat (first | exact (by repeat (first | (with_reducible exact HR478_2.out) | (with_reducible refine Kd.C_alloc ?_ _) | (with_reducible refine Kd.C_drewN ?_ _) | (with_reducible refine Kd.C_drew ?_) | exact HR478_2.out)) | (with_reducible refine Kd.C_alloc ?_ _) | (with_reducible refine Kd.C_drewN ?_ _) | (with_reducible refine Kd.C_drew ?_)));(case side4=>exact HC478_2.out);rintro e w32 ⟨rfl,hb⟩;have n0_:=Aside0.mk (Kd.N_below (by (with_reducible repeat (first | apply Kd.N_alloc | apply Kd.N_drewN | apply Kd.N_drew));exact HO_3.out) hb);have n1_:=Aside0.mk (Kd.V_below (by (with_reducible repeat (first | apply Kd.V_alloc | apply Kd.V_drewN | apply Kd.V_drew));exact HO_8.out) hb);have n2_:=Aside0.mk (Kd.V_below (by (with_reducible repeat (first | apply Kd.V_alloc | apply Kd.V_drewN | apply Kd.V_drew));exact HO_475002.out) hb);have n3_:=Aside0.mk (Kd.V_below (by (with_reducible repeat (first | apply Kd.V_alloc | apply Kd.V_drewN | apply Kd.V_drew));exact HL478_2.out) hb);have n4_:=Aside0.mk (blk_below (g:=gb474) (o:=.cells #[.int .i64 ((rd_T25 x3_3 x6_3).f0),.int .i64 ((rd_T25 x3_3 x6_3).f1),.slice (some ad478) ((rd_T25 x3_3 x6_3).f2).length c473_2] 25 (0,0)) (by (with_reducible repeat (first | refine blk_drewN ?_ _ | refine blk_drew ?_ | refine blk_alloc ?_ _));exact BK474.out) hb);have n5_:=Aside0.mk (Kd.C_below (by repeat (first | (with_reducible exact HR473_2.out) | (with_reducible refine Kd.C_alloc ?_ _) | (with_reducible refine Kd.C_drewN ?_ _) | (with_reducible refine Kd.C_drew ?_) | exact HR473_2.out)) hb);have n6_:=Aside0.mk (Kd.C_below (by repeat (first | (with_reducible exact HR478_2.out) | (with_reducible refine Kd.C_alloc ?_ _) | (with_reducible refine Kd.C_drewN ?_ _) | (with_reducible refine Kd.C_drew ?_) | exact HR478_2.out)) hb);have n7_:=Aside0.mk (below_step (by repeat (first | (with_reducible first | exact HB.out | apply below_alloc | apply pw_below_drewN | apply below_drew1 | refine below_set ?_ GE474.out) | exact HB.out)) hb);clear HO_3;clear HO_8;clear HO_475002;clear HL478_2;clear BK474;clear HR473_2;clear HR478_2;clear HB;have HO_3:=n0_;have HO_8:=n1_;have HO_475002:=n2_;have HL478_2:=n3_;have BK474:=n4_;have HR473_2:=n5_;have HR478_2:=n6_;have HB:=n7_;clear n0_ n1_ n2_ n3_ n4_ n5_ n6_ n7_;(try clear hb);(try clear hb2);(try clear hk);(try clear hi)))
                go_meet
                case rel=>exact ⟨_,(t479),(by first | rfl | (simp;done) | (simp [*];done)),H',⟨by have:=HK1.out;have:=HK2.out;have:=HK3.out;have:=HJ16.out;first | omega | exact Nat.le_refl _⟩,⟨by (with_reducible repeat (first | apply Kd.N_alloc | apply Kd.N_drewN | apply Kd.N_drew));exact HO_3.out⟩,⟨by (with_reducible repeat (first | apply Kd.V_alloc | apply Kd.V_drewN | apply Kd.V_drew));exact HO_8.out⟩,⟨by (with_reducible repeat (first | apply Kd.V_alloc | apply Kd.V_drewN | apply Kd.V_drew));exact HO_475002.out⟩,⟨by (with_reducible repeat (first | refine blk_drewN ?_ _ | refine blk_drew ?_ | refine blk_alloc ?_ _));exact BK474.out⟩,⟨by repeat (first | (with_reducible exact HR473_2.out) | (with_reducible refine Kd.C_alloc ?_ _) | (with_reducible refine Kd.C_drewN ?_ _) | (with_reducible refine Kd.C_drew ?_) | exact HR473_2.out)⟩,⟨by repeat (first | (with_reducible first | exact HB.out | apply below_alloc | apply pw_below_drewN | apply below_drew1 | refine below_set ?_ GE474.out) | exact HB.out)⟩⟩
               ·rw [if_neg c29] at H
                exact absurd H (by simp)
              ·rw [if_neg c28] at H
               have c28b0:(((rd_T25 x3_3 x6_3).f0) == 2) = false:=beq_eq_false_iff_ne.mpr c28
               have c28b1:(((rd_T25 x3_3 x6_3).f0) != 2) = true:=bne_iff_ne.mpr c28
               (first | rw [c28b0] | (simp only [i64_w,i32_w];rw [c28b0]) | skip)
               have H':=Aside0.mk H
               clear H
               have hcz33_0:wc.cell? ⟨gb474,0,none⟩ = some (.int .i64 ((rd_T25 x3_3 x6_3).f0)):=(blk_cell BK474.out 0).trans rfl
               have hcz33_1:wc.cell? ⟨gb474,1,none⟩ = some (.int .i64 ((rd_T25 x3_3 x6_3).f1)):=(blk_cell BK474.out 1).trans rfl
               have hcz33_2:wc.cell? ⟨gb474,2,none⟩ = some (.slice A473_2 ((rd_T25 x3_3 x6_3).f2).length c473_2):=(blk_cell BK474.out 2).trans rfl
               have hfz33_0:=blk_frozen BK474.out 0
               have hfz33_1:=blk_frozen BK474.out 1
               have hfz33_2:=blk_frozen BK474.out 2
               go_wp2
               go_meet
               case rel=>exact ⟨_,(false),(by first | rfl | (simp;done) | (simp [*];done)),H',⟨by have:=HK1.out;have:=HK2.out;have:=HK3.out;have:=HJ16.out;first | omega | exact Nat.le_refl _⟩,⟨by (with_reducible repeat (first | apply Kd.N_alloc | apply Kd.N_drewN | apply Kd.N_drew));exact HO_3.out⟩,⟨by (with_reducible repeat (first | apply Kd.V_alloc | apply Kd.V_drewN | apply Kd.V_drew));exact HO_8.out⟩,⟨by (with_reducible repeat (first | apply Kd.V_alloc | apply Kd.V_drewN | apply Kd.V_drew));exact HO_475002.out⟩,⟨by (with_reducible repeat (first | refine blk_drewN ?_ _ | refine blk_drew ?_ | refine blk_alloc ?_ _));exact BK474.out⟩,⟨by repeat (first | (with_reducible exact HR473_2.out) | (with_reducible refine Kd.C_alloc ?_ _) | (with_reducible refine Kd.C_drewN ?_ _) | (with_reducible refine Kd.C_drew ?_) | exact HR473_2.out)⟩,⟨by repeat (first | (with_reducible first | exact HB.out | apply below_alloc | apply pw_below_drewN | apply below_drew1 | refine below_set ?_ GE474.out) | exact HB.out)⟩⟩
             case rest =>
              clear HC27
              try clear c1
              try clear c2
              try clear p2
              try clear c4
              try clear c4b0
              try clear p4
              try clear q4
              try clear hx4
              try clear qi4
              try clear c5
              try clear c5b0
              try clear c6
              try clear p6
              try clear c7
              try clear c10
              try clear c14
              try clear c15
              try clear c15b0
              try clear c16
              try clear c16b0
              try clear c25
              try clear c25b0
              try clear c25b1
              try clear c28
              try clear c28b0
              try clear c28b1
              try clear c29
              try clear c29b0
              try clear c29b1
              try clear hcz20_0
              try clear hcz20_1
              try clear hcz20_2
              try clear hcz24_0
              try clear hcz24_1
              try clear hcz24_2
              try clear hcz26_0
              try clear hcz26_1
              try clear hcz26_2
              try clear hcz31_0
              try clear hcz31_1
              try clear hcz31_2
              try clear hcz33_0
              try clear hcz33_1
              try clear hcz33_2
              try clear hfz20_0
              try clear hfz20_1
              try clear hfz20_2
              try clear hfz24_0
              try clear hfz24_1
              try clear hfz24_2
              try clear hfz26_0
              try clear hfz26_1
              try clear hfz26_2
              try clear hfz31_0
              try clear hfz31_1
              try clear hfz31_2
              try clear hfz33_0
              try clear hfz33_1
              try clear hfz33_2
              try clear hx467_0
              try clear hx467_1
              try clear hx467_2
              try clear hx469_0
              try clear hx469_1
              try clear hx469_2
              try clear hx473_0
              try clear hx473_1
              try clear hx473_2
              try clear hx478_0
              try clear hx478_1
              try clear hx478_2
              try clear p2
              try clear p4
              try clear p467
              try clear p469
              try clear p473
              try clear p478
              try clear p6
              try clear q4
              try clear q467
              try clear q469
              try clear q473
              try clear q478
              obtain ⟨kq,x58_26,rfl,HA,HJ26,HO_3,HO_8,HO_475002,BK474,HR473_2,HB⟩:=hcut
              cases kq with
              | zero=>exact absurd HA.out (by simp [spec_l20Apart.j4])
              | succ kj26 =>
               have H:=HA.out
               clear HA
               simp only [spec_l20Apart.j4] at H
               have HC34:=Aside0.mk H
               clear H
               go_upto_if 58 with (fail)
               go_cut [8] (fun v8 wc=>∃ (kq:Nat) (x8_33:List (S25)),Aside0 (spec_l20Apart.j5 kq x3_3 x5_3 x6_3 x8_33 = some r)∧Aside0 (kq ≤ kj26)∧Aside0 (Kd.N k25 25 wc w.heap.size (fun k_=>(P0_ k_ ∨ w.heap.size ≤ k_)∧k_ ≠ gb474) (.slice (some ad473) x3_3.length co18) x3_3)∧Aside0 (Kd.V k25 25 wc w.heap.size (fun k_=>(P0_ k_ ∨ w.heap.size ≤ k_)∧some k_ ≠ ((.slice (some ad473) x3_3.length co18):Value).ownBlock∧k_ ≠ gb474) v8 x8_33)∧Aside0 (Kd.V k25 25 wc w.heap.size (fun k_=>(P0_ k_ ∨ w.heap.size ≤ k_)∧some k_ ≠ ((.slice (some ad473) x3_3.length co18):Value).ownBlock∧k_ ≠ gb474) (.slice A473_2 ((rd_T25 x3_3 x6_3).f2).length c473_2) ((rd_T25 x3_3 x6_3).f2))∧Aside0 (wc.heap[gb474]? = some (.cells #[.int .i64 ((rd_T25 x3_3 x6_3).f0),.int .i64 ((rd_T25 x3_3 x6_3).f1),(.slice A473_2 ((rd_T25 x3_3 x6_3).f2).length c473_2)] 25 (0,0)))∧Aside0 (Kd.C k25 wc A473_2 ((rd_T25 x3_3 x6_3).f2).length ((rd_T25 x3_3 x6_3).f2))∧Aside0 (Below w.heap.size w wc))
               case first =>
                have H:=HC34.out
                clear HC34
                by_cases c35:x58_26 = true
                ·subst c35
                 have H1:(if 1 ≤ (((rd_T25 x3_3 x6_3).f2).length:Int) then (spec_l20Apart.j5 kj26 x3_3 x5_3 x6_3 (((rd_T25 x3_3 x6_3).f2).drop 1)) else (none)) = some r:=by rw [if_pos rfl] at H;exact H
                 clear H
                 have H:=H1
                 clear H1
                 by_cases c36:1 ≤ (((rd_T25 x3_3 x6_3).f2).length:Int)
                 ·rw [if_pos c36] at H
                  have c36b0:=eq_true c36
                  have c36b1:decide (1 ≤ (((rd_T25 x3_3 x6_3).f2).length:Int)) = true:=decide_eq_true c36
                  clear c36
                  obtain ⟨y480,hy480⟩:∃ y_:List (S25),y_ = (((rd_T25 x3_3 x6_3).f2).drop 1):=⟨_,rfl⟩
                  replace H:(spec_l20Apart.j5 kj26 x3_3 x5_3 x6_3 y480) = some r:=by first | (rw [hy480];with_reducible exact H) | (have H2_:=(Option.bind_some _ _).symm.trans H;rw [hy480];with_reducible exact H2_) | (have H2_:=(Option.bind_some _ _).symm.trans H;with_reducible exact H2_) | with_reducible exact H | (rw [hy480];exact H) | exact H
                  have Ny480:=Aside0.mk hy480
                  clear hy480
                  have H':=Aside0.mk H
                  clear H
                  have hcz37_0:wc.cell? ⟨gb474,0,none⟩ = some (.int .i64 ((rd_T25 x3_3 x6_3).f0)):=(blk_cell BK474.out 0).trans rfl
                  have hcz37_1:wc.cell? ⟨gb474,1,none⟩ = some (.int .i64 ((rd_T25 x3_3 x6_3).f1)):=(blk_cell BK474.out 1).trans rfl
                  have hcz37_2:wc.cell? ⟨gb474,2,none⟩ = some (.slice A473_2 ((rd_T25 x3_3 x6_3).f2).length c473_2):=(blk_cell BK474.out 2).trans rfl
                  have hfz37_0:=blk_frozen BK474.out 0
                  have hfz37_1:=blk_frozen BK474.out 1
                  have hfz37_2:=blk_frozen BK474.out 2
                  have q38:(1:Int) ≤ ((((rd_T25 x3_3 x6_3).f2).length:Int):Int):=of_decide_eq_true (by first | (with_reducible assumption) | assumption)
                  obtain ⟨i038,hi038,_,hsz38,_⟩:=info_parts info25
                  have hroom38:((rd_T25 x3_3 x6_3).f2).length ≤ c473_2:=(Kd.V_reads' HO_475002.out).2.1
                  have hC38:Kd.F k25 _ _ A473_2 ((rd_T25 x3_3 x6_3).f2).length ((rd_T25 x3_3 x6_3).f2):=(Kd.V_at (base:=w.heap.size) HO_475002.out).2.2
                  have hcut38:=cut_from (P:=Tryd.prog) 23 25 .i64 Tryd.underlying23 hi038 3 hsz38 A473_2 ((rd_T25 x3_3 x6_3).f2).length c473_2 1 (by omega) q38
                  have hr38:=Kd.F_cut (m:=(1:Int).toNat) (c:=c473_2) hC38 (by omega) hroom38
                  obtain ⟨A38,hA38⟩:∃ A1,A1 = (if c473_2 = (1:Int).toNat then A473_2 else (A473_2:Option Addr).map (·.add ((1:Int).toNat * 3))):=⟨_,rfl⟩
                  obtain ⟨c38,hc38⟩:∃ c1,c1 = c473_2 - (1:Int).toNat:=⟨_,rfl⟩
                  have hy38:y480.length = ((rd_T25 x3_3 x6_3).f2).length - (1:Int).toNat:=(by rw [Ny480.out,List.length_drop] <;> omega)
                  rw [show (((rd_T25 x3_3 x6_3).f2)).drop (1:Int).toNat = y480 from Ny480.out.symm] at hr38
                  replace hr38:Kd.F k25 _ _ A38 y480.length y480:=(by rw [hA38];exact hr38)
                  rw [← hy38,← hA38,← hc38] at hcut38
                  have HO484:=Aside0.mk (show Kd.V k25 25 _ w.heap.size _ (.slice A38 y480.length c38) y480 from Kd.V_mk (by rw [hy38,hc38];exact Nat.sub_le_sub_right hroom38 _) hr38)
                  have HC484:=Aside0.mk (show y480.length ≤ c38 from by rw [hy38,hc38];exact Nat.sub_le_sub_right hroom38 _)
                  clear hr38 hC38 hroom38 hi038 hsz38 hc38
                  have KY38:=Aside0.mk hy38
                  have KA38:=Aside0.mk hA38
                  clear hy38 hA38
                  replace q38:=eq_true q38
                  go_wp2
                  go_meet
                  case rel=>exact ⟨_,(y480),H',⟨by have:=HK1.out;have:=HK2.out;have:=HK3.out;have:=HJ16.out;have:=HJ26.out;first | omega | exact Nat.le_refl _⟩,⟨by (with_reducible repeat (first | apply Kd.N_alloc | apply Kd.N_drewN | apply Kd.N_drew));exact HO_3.out⟩,⟨by (with_reducible repeat (first | apply Kd.V_alloc | apply Kd.V_drewN | apply Kd.V_drew));exact HO484.out⟩,⟨by (with_reducible repeat (first | apply Kd.V_alloc | apply Kd.V_drewN | apply Kd.V_drew));exact HO_475002.out⟩,⟨by (with_reducible repeat (first | refine blk_drewN ?_ _ | refine blk_drew ?_ | refine blk_alloc ?_ _));exact BK474.out⟩,⟨by repeat (first | (with_reducible exact HR473_2.out) | (with_reducible refine Kd.C_alloc ?_ _) | (with_reducible refine Kd.C_drewN ?_ _) | (with_reducible refine Kd.C_drew ?_) | exact HR473_2.out)⟩,⟨by repeat (first | (with_reducible first | exact HB.out | apply below_alloc | apply pw_below_drewN | apply below_drew1 | refine below_set ?_ GE474.out) | exact HB.out)⟩⟩
                 ·rw [if_neg c36] at H
                  exact absurd H (by simp)
                ·replace c35:=Bool.eq_false_iff.mpr c35
                 subst c35
                 have H1:(spec_l20Apart.j5 kj26 x3_3 x5_3 x6_3 x8_16) = some r:=by rw [if_neg (show ¬ (false = true) by decide)] at H;exact H
                 clear H
                 have H:=H1
                 clear H1
                 have H':=Aside0.mk H
                 clear H
                 go_wp2
                 go_meet
                 case rel=>exact ⟨_,(x8_16),H',⟨by have:=HK1.out;have:=HK2.out;have:=HK3.out;have:=HJ16.out;have:=HJ26.out;first | omega | exact Nat.le_refl _⟩,⟨by (with_reducible repeat (first | apply Kd.N_alloc | apply Kd.N_drewN | apply Kd.N_drew));exact HO_3.out⟩,⟨by (with_reducible repeat (first | apply Kd.V_alloc | apply Kd.V_drewN | apply Kd.V_drew));exact HO_8.out⟩,⟨by (with_reducible repeat (first | apply Kd.V_alloc | apply Kd.V_drewN | apply Kd.V_drew));exact HO_475002.out⟩,⟨by (with_reducible repeat (first | refine blk_drewN ?_ _ | refine blk_drew ?_ | refine blk_alloc ?_ _));exact BK474.out⟩,⟨by repeat (first | (with_reducible exact HR473_2.out) | (with_reducible refine Kd.C_alloc ?_ _) | (with_reducible refine Kd.C_drewN ?_ _) | (with_reducible refine Kd.C_drew ?_) | exact HR473_2.out)⟩,⟨by repeat (first | (with_reducible first | exact HB.out | apply below_alloc | apply pw_below_drewN | apply below_drew1 | refine below_set ?_ GE474.out) | exact HB.out)⟩⟩
               case rest =>
                clear HC34
                try clear c1
                try clear c2
                try clear p2
                try clear c3
                try clear q3
                try clear c4
                try clear c4b0
                try clear p4
                try clear q4
                try clear hx4
                try clear qi4
                try clear c5
                try clear c5b0
                try clear c6
                try clear p6
                try clear c7
                try clear c10
                try clear c14
                try clear c15
                try clear c15b0
                try clear c16
                try clear c16b0
                try clear c25
                try clear c25b0
                try clear c25b1
                try clear c28
                try clear c28b0
                try clear c28b1
                try clear c29
                try clear c29b0
                try clear c29b1
                try clear c35
                try clear c36
                try clear c36b0
                try clear c36b1
                try clear c38
                try clear q38
                try clear hcz20_0
                try clear hcz20_1
                try clear hcz20_2
                try clear hcz24_0
                try clear hcz24_1
                try clear hcz24_2
                try clear hcz26_0
                try clear hcz26_1
                try clear hcz26_2
                try clear hcz31_0
                try clear hcz31_1
                try clear hcz31_2
                try clear hcz33_0
                try clear hcz33_1
                try clear hcz33_2
                try clear hcz37_0
                try clear hcz37_1
                try clear hcz37_2
                try clear hfz20_0
                try clear hfz20_1
                try clear hfz20_2
                try clear hfz24_0
                try clear hfz24_1
                try clear hfz24_2
                try clear hfz26_0
                try clear hfz26_1
                try clear hfz26_2
                try clear hfz31_0
                try clear hfz31_1
                try clear hfz31_2
                try clear hfz33_0
                try clear hfz33_1
                try clear hfz33_2
                try clear hfz37_0
                try clear hfz37_1
                try clear hfz37_2
                try clear hx467_0
                try clear hx467_1
                try clear hx467_2
                try clear hx469_0
                try clear hx469_1
                try clear hx469_2
                try clear hx473_0
                try clear hx473_1
                try clear hx473_2
                try clear hx478_0
                try clear hx478_1
                try clear hx478_2
                try clear p2
                try clear p4
                try clear p467
                try clear p469
                try clear p473
                try clear p478
                try clear p6
                try clear q38
                try clear q4
                try clear q467
                try clear q469
                try clear q473
                try clear q478
                obtain ⟨kq,x8_33,HA,HJ33,HO_3,HO_8,HO_475002,BK474,HR473_2,HB⟩:=hcut
                cases kq with
                | zero=>exact absurd HA.out (by simp [spec_l20Apart.j5])
                | succ kj33 =>
                 have H:=HA.out
                 clear HA
                 simp only [spec_l20Apart.j5] at H
                 have H':=Aside0.mk H
                 clear H
                 go_wp2
                 go_loopg [3,5,9] kj33 (fun kq v3 v5 v9 w'=>∃ (x3_7:List (S25)) (x5_7:Bool) (x9_7:Int),v5 = .bool x5_7∧v9 = .int .i64 x9_7∧Aside0 (spec_l20Apart.l3 kq x3_7 x5_7 x6_3 x8_33 x9_7 = some r)∧Aside0 (kq ≤ kj33)∧Aside0 (Kd.N k25 25 w' w.heap.size (fun k_=>(P0_ k_ ∨ w.heap.size ≤ k_)∧k_ ≠ gb474) v3 x3_7)∧Aside0 (Kd.V k25 25 w' w.heap.size (fun k_=>(P0_ k_ ∨ w.heap.size ≤ k_)∧some k_ ≠ (v3:Value).ownBlock∧k_ ≠ gb474) u8 x8_33)∧Aside0 (Kd.V k25 25 w' w.heap.size (fun k_=>(P0_ k_ ∨ w.heap.size ≤ k_)∧some k_ ≠ (v3:Value).ownBlock∧k_ ≠ gb474) (.slice A473_2 ((rd_T25 x3_3 x6_3).f2).length c473_2) ((rd_T25 x3_3 x6_3).f2))∧Aside0 (w'.heap[gb474]? = some (.cells #[.int .i64 ((rd_T25 x3_3 x6_3).f0),.int .i64 ((rd_T25 x3_3 x6_3).f1),(.slice A473_2 ((rd_T25 x3_3 x6_3).f2).length c473_2)] 25 (0,0)))∧Aside0 (Below w.heap.size w w'))
                 case atStart=>exact ⟨(x3_3),(x5_3),(0),(by first | rfl | (simp;done) | (simp [*];done)),(by first | rfl | (simp;done) | (simp [*];done)),H',⟨Nat.le_refl _⟩,⟨by (with_reducible repeat (first | apply Kd.N_alloc | apply Kd.N_drewN | apply Kd.N_drew));exact HO_3.out⟩,⟨by (with_reducible repeat (first | apply Kd.V_alloc | apply Kd.V_drewN | apply Kd.V_drew));exact HO_8.out⟩,⟨by (with_reducible repeat (first | apply Kd.V_alloc | apply Kd.V_drewN | apply Kd.V_drew));exact HO_475002.out⟩,⟨by (with_reducible repeat (first | refine blk_drewN ?_ _ | refine blk_drew ?_ | refine blk_alloc ?_ _));exact BK474.out⟩,⟨by repeat (first | (with_reducible first | exact HB.out | apply below_alloc | apply pw_below_drewN | apply below_drew1 | refine below_set ?_ GE474.out) | exact HB.out)⟩⟩
                 case round =>
                  clear H'
                  try clear c1
                  try clear c2
                  try clear p2
                  try clear c3
                  try clear q3
                  try clear c4
                  try clear c4b0
                  try clear p4
                  try clear q4
                  try clear hx4
                  try clear qi4
                  try clear c5
                  try clear c5b0
                  try clear c6
                  try clear p6
                  try clear c7
                  try clear c10
                  try clear c14
                  try clear c15
                  try clear c15b0
                  try clear c16
                  try clear c16b0
                  try clear c25
                  try clear c25b0
                  try clear c25b1
                  try clear c28
                  try clear c28b0
                  try clear c28b1
                  try clear c29
                  try clear c29b0
                  try clear c29b1
                  try clear c35
                  try clear c36
                  try clear c36b0
                  try clear c36b1
                  try clear c38
                  try clear q38
                  try clear hcz20_0
                  try clear hcz20_1
                  try clear hcz20_2
                  try clear hcz24_0
                  try clear hcz24_1
                  try clear hcz24_2
                  try clear hcz26_0
                  try clear hcz26_1
                  try clear hcz26_2
                  try clear hcz31_0
                  try clear hcz31_1
                  try clear hcz31_2
                  try clear hcz33_0
                  try clear hcz33_1
                  try clear hcz33_2
                  try clear hcz37_0
                  try clear hcz37_1
                  try clear hcz37_2
                  try clear hfz20_0
                  try clear hfz20_1
                  try clear hfz20_2
                  try clear hfz24_0
                  try clear hfz24_1
                  try clear hfz24_2
                  try clear hfz26_0
                  try clear hfz26_1
                  try clear hfz26_2
                  try clear hfz31_0
                  try clear hfz31_1
                  try clear hfz31_2
                  try clear hfz33_0
                  try clear hfz33_1
                  try clear hfz33_2
                  try clear hfz37_0
                  try clear hfz37_1
                  try clear hfz37_2
                  try clear hx467_0
                  try clear hx467_1
                  try clear hx467_2
                  try clear hx469_0
                  try clear hx469_1
                  try clear hx469_2
                  try clear hx473_0
                  try clear hx473_1
                  try clear hx473_2
                  try clear hx478_0
                  try clear hx478_1
                  try clear hx478_2
                  try clear p2
                  try clear p4
                  try clear p467
                  try clear p469
                  try clear p473
                  try clear p478
                  try clear p6
                  try clear q3
                  try clear q38
                  try clear q4
                  try clear q467
                  try clear q469
                  try clear q473
                  try clear q478
                  obtain ⟨x3_7,x5_7,x9_7,rfl,rfl,HA,HK7,HO_3,HO_8,HO_475002,BK474,HB⟩:=hrel
                  cases gk with
                  | zero=>exact absurd HA.out (by simp [spec_l20Apart.l3])
                  | succ k7 =>
                   have H:=HA.out
                   clear HA
                   simp only [spec_l20Apart.l3] at H
                   by_cases c39:x9_7 < (x8_33.length:Int)
                   ·rw [if_pos c39] at H
                    have c39b0:decide (x9_7 < (x8_33.length:Int)) = true:=decide_eq_true c39
                    clear c39
                    by_cases c40:0 ≤ x9_7
                    ·rw [if_pos c40] at H
                     have c40b0:decide (0 ≤ x9_7) = true:=decide_eq_true c40
                     clear c40
                     replace H:=Option.bind_eq_some_iff.mp H
                     obtain ⟨t486,A410,H⟩:=H
                     replace H:(if t486 = true then (spec_l20Apart.l3 k7 x3_7 x5_7 x6_3 x8_33 (wrap64 (x9_7 + 1))) else (if x3_7.length < 3518437208883 then (spec_l20Apart.l3 k7 (x3_7 ++ [(⟨(rd_T25 x8_33 x9_7).f0,(rd_T25 x8_33 x9_7).f1,(rd_T25 x8_33 x9_7).f2⟩:S25)]) true x6_3 x8_33 (wrap64 (x9_7 + 1))) else (none))) = some r:=H
                     have A41:=Aside0.mk A410
                     clear A410
                     by_cases c42:t486 = true
                     ·subst c42
                      have H1:(spec_l20Apart.l3 k7 x3_7 x5_7 x6_3 x8_33 (wrap64 (x9_7 + 1))) = some r:=by rw [if_pos rfl] at H;exact H
                      clear H
                      have H:=H1
                      clear H1
                      have H':=Aside0.mk H
                      clear H
                      obtain ⟨Ao43,co43,eo43⟩:=Kd.V_slice HO_8.out
                      subst eo43
                      have p485:0 ≤ (x9_7:Int):=of_decide_eq_true (by first | (with_reducible assumption) | assumption)
                      have q485:x9_7 < (x8_33.length:Int):=of_decide_eq_true (by first | (with_reducible assumption) | assumption)
                      obtain ⟨ad485,A485_2,c485_2,e485,hx485_0,hx485_1,hx485_2,hl485_2,hi485_2⟩:=at_T25 (Kd.V_reads' HO_8.out).2.2 x9_7 p485 q485
                      cases e485
                      obtain ⟨ce485,hce485,hMe485,hcc485⟩:=Kd.V_get HO_8.out z25 x9_7 p485 (by first | exact q485 | exact of_decide_eq_true (by first | (with_reducible assumption) | assumption) | (have e_:=(Kd.V_reads' HO_8.out).1;omega))
                      obtain ⟨ua485_2,uc485_2,rfl,ul485_2,ge485_2⟩:=k25_openF hMe485
                      have hv485_2:=hcc485 2 _ rfl
                      rw [add_field _ _ 2 (by omega)] at hv485_2
                      replace hv485_2:=Option.some.inj (hv485_2.symm.trans hx485_2)
                      injection hv485_2 with hva_ hvn_ hvc_
                      rw [hva_] at ge485_2
                      rw [hvc_] at ul485_2
                      have HL485_2:=Aside0.mk (show Kd.V k25 25 _ w.heap.size _ _ ((rd_T25 x8_33 x9_7).f2) from Kd.V_mk ul485_2 ge485_2)
                      clear hva_ hvn_ hvc_ ge485_2 ul485_2
                      clear hcc485 hce485
                      have HR485_2:=Aside0.mk hi485_2
                      have HC485_2:=Aside0.mk hl485_2
                      clear hi485_2 hl485_2
                      replace p485:=eq_true p485
                      replace q485:=eq_true q485
                      obtain ⟨Ao44,co44,eo44⟩:=Kd.N_slice HO_3.out
                      subst eo44
                      go_wp2_with (first | ((with_reducible refine gate_callee (f:=63) rfl ?_);refine goesL_ (some 73) rfl rfl Tryd.func63 (by kernel_rfl) rfl #[.slice Ao44 x3_7.length co44,.agg #[.int .i64 ((rd_T25 x8_33 x9_7).f0),.int .i64 ((rd_T25 x8_33 x9_7).f1),.slice A485_2 ((rd_T25 x8_33 x9_7).f2).length c485_2]] rfl (by (try simp only [List.map_toArray,List.map_cons,List.map_nil]);first | done | rfl | (simp only [List.length_drop,List.length_take];rfl)) ?_;(with_reducible refine (spec_l20Has.calls k7 _ _ x3_7 ((rd_T25 x8_33 x9_7).f0) ((rd_T25 x8_33 x9_7).f1) _ _ ((rd_T25 x8_33 x9_7).f2) true _ ?side1 ?side2 ?side3 ?side4 A41.out).mono ?_);(case side1=>repeat (first | exact (Kd.N_reads' HO_3.out).2.2 | (with_reducible refine Kd.C_alloc ?_ _) | (with_reducible refine Kd.C_drewN ?_ _) | (with_reducible refine Kd.C_drew ?_)));(case side2=>exact (Kd.N_reads' HO_3.out).2.1);(case side3=>repeat (first | exact (by repeat (first | (with_reducible exact HR485_2.out) | (with_reducible refine Kd.C_alloc ?_ _) | (with_reducible refine Kd.C_drewN ?_ _) | (with_reducible refine Kd.C_drew ?_) | exact HR485_2.out)) | (with_reducible refine Kd.C_alloc ?_ _) | (with_reducible refine Kd.C_drewN ?_ _) | (with_reducible refine Kd.C_drew ?_)));(case side4=>exact HC485_2.out);rintro e w45 ⟨rfl,hb⟩;refine ⟨_,rfl,?_⟩;have n0_:=Aside0.mk (Kd.N_below (by (with_reducible repeat (first | apply Kd.N_alloc | apply Kd.N_drewN | apply Kd.N_drew));exact HO_3.out) hb);have n1_:=Aside0.mk (Kd.V_below (by (with_reducible repeat (first | apply Kd.V_alloc | apply Kd.V_drewN | apply Kd.V_drew));exact HO_8.out) hb);have n2_:=Aside0.mk (Kd.V_below (by (with_reducible repeat (first | apply Kd.V_alloc | apply Kd.V_drewN | apply Kd.V_drew));exact HO_475002.out) hb);have n3_:=Aside0.mk (Kd.V_below (by (with_reducible repeat (first | apply Kd.V_alloc | apply Kd.V_drewN | apply Kd.V_drew));exact HL485_2.out) hb);have n4_:=Aside0.mk (blk_below (g:=gb474) (o:=.cells #[.int .i64 ((rd_T25 x3_3 x6_3).f0),.int .i64 ((rd_T25 x3_3 x6_3).f1),.slice A473_2 ((rd_T25 x3_3 x6_3).f2).length c473_2] 25 (0,0)) (by (with_reducible repeat (first | refine blk_drewN ?_ _ | refine blk_drew ?_ | refine blk_alloc ?_ _));exact BK474.out) hb);have n5_:=Aside0.mk (Kd.C_below (by repeat (first | (with_reducible exact HR485_2.out) | (with_reducible refine Kd.C_alloc ?_ _) | (with_reducible refine Kd.C_drewN ?_ _) | (with_reducible refine Kd.C_drew ?_) | exact HR485_2.out)) hb);have n6_:=Aside0.mk (below_step (by repeat (first | (with_reducible first | exact HB.out | apply below_alloc | apply pw_below_drewN | apply below_drew1 | refine below_set ?_ GE474.out) | exact HB.out)) hb);clear HO_3;clear HO_8;clear HO_475002;clear HL485_2;clear BK474;clear HR485_2;clear HB;have HO_3:=n0_;have HO_8:=n1_;have HO_475002:=n2_;have HL485_2:=n3_;have BK474:=n4_;have HR485_2:=n5_;have HB:=n6_;clear n0_ n1_ n2_ n3_ n4_ n5_ n6_;(try clear hb);(try clear hb2);(try clear hk);(try clear hi)))
                      go_roundg k7
                      case measure=>have:=HK1.out;have:=HK2.out;have:=HK3.out;have:=HJ16.out;have:=HJ26.out;have:=HJ33.out;have:=HK7.out;omega
                      case rel=>exact ⟨(x3_7),(x5_7),(wrap64 (x9_7 + 1)),(by first | rfl | (simp;done) | (simp [*];done)),(by first | rfl | (simp;done) | (simp [*];done)),H',⟨by have:=HK1.out;have:=HK2.out;have:=HK3.out;have:=HJ16.out;have:=HJ26.out;have:=HJ33.out;have:=HK7.out;omega⟩,⟨by (with_reducible repeat (first | apply Kd.N_alloc | apply Kd.N_drewN | apply Kd.N_drew));exact HO_3.out⟩,⟨by (with_reducible repeat (first | apply Kd.V_alloc | apply Kd.V_drewN | apply Kd.V_drew));exact HO_8.out⟩,⟨by (with_reducible repeat (first | apply Kd.V_alloc | apply Kd.V_drewN | apply Kd.V_drew));exact HO_475002.out⟩,⟨by (with_reducible repeat (first | refine blk_drewN ?_ _ | refine blk_drew ?_ | refine blk_alloc ?_ _));exact BK474.out⟩,⟨by repeat (first | (with_reducible first | exact HB.out | apply below_alloc | apply pw_below_drewN | apply below_drew1 | refine below_set ?_ GE474.out) | exact HB.out)⟩⟩
                     ·replace c42:=Bool.eq_false_iff.mpr c42
                      subst c42
                      have H1:(if x3_7.length < 3518437208883 then (spec_l20Apart.l3 k7 (x3_7 ++ [(⟨(rd_T25 x8_33 x9_7).f0,(rd_T25 x8_33 x9_7).f1,(rd_T25 x8_33 x9_7).f2⟩:S25)]) true x6_3 x8_33 (wrap64 (x9_7 + 1))) else (none)) = some r:=by rw [if_neg (show ¬ (false = true) by decide)] at H;exact H
                      clear H
                      have H:=H1
                      clear H1
                      by_cases c46:x3_7.length < 3518437208883
                      ·rw [if_pos c46] at H
                       have LMc46:=Aside0.mk c46
                       clear c46
                       obtain ⟨y488,hy488⟩:∃ y_:List (S25),y_ = (x3_7 ++ [(⟨(rd_T25 x8_33 x9_7).f0,(rd_T25 x8_33 x9_7).f1,(rd_T25 x8_33 x9_7).f2⟩:S25)]):=⟨_,rfl⟩
                       replace H:(spec_l20Apart.l3 k7 y488 true x6_3 x8_33 (wrap64 (x9_7 + 1))) = some r:=by first | (rw [hy488];with_reducible exact H) | (have H2_:=(Option.bind_some _ _).symm.trans H;rw [hy488];with_reducible exact H2_) | (have H2_:=(Option.bind_some _ _).symm.trans H;with_reducible exact H2_) | with_reducible exact H | (rw [hy488];exact H) | exact H
                       have Ny488:=Aside0.mk hy488
                       clear hy488
                       have H':=Aside0.mk H
                       clear H
                       obtain ⟨Ao47,co47,eo47⟩:=Kd.V_slice HO_8.out
                       subst eo47
                       have p485:0 ≤ (x9_7:Int):=of_decide_eq_true (by first | (with_reducible assumption) | assumption)
                       have q485:x9_7 < (x8_33.length:Int):=of_decide_eq_true (by first | (with_reducible assumption) | assumption)
                       obtain ⟨ad485,A485_2,c485_2,e485,hx485_0,hx485_1,hx485_2,hl485_2,hi485_2⟩:=at_T25 (Kd.V_reads' HO_8.out).2.2 x9_7 p485 q485
                       cases e485
                       obtain ⟨ce485,hce485,hMe485,hcc485⟩:=Kd.V_get HO_8.out z25 x9_7 p485 (by first | exact q485 | exact of_decide_eq_true (by first | (with_reducible assumption) | assumption) | (have e_:=(Kd.V_reads' HO_8.out).1;omega))
                       obtain ⟨ua485_2,uc485_2,rfl,ul485_2,ge485_2⟩:=k25_openF hMe485
                       have hv485_2:=hcc485 2 _ rfl
                       rw [add_field _ _ 2 (by omega)] at hv485_2
                       replace hv485_2:=Option.some.inj (hv485_2.symm.trans hx485_2)
                       injection hv485_2 with hva_ hvn_ hvc_
                       rw [hva_] at ge485_2
                       rw [hvc_] at ul485_2
                       have HL485_2:=Aside0.mk (show Kd.V k25 25 _ w.heap.size _ _ ((rd_T25 x8_33 x9_7).f2) from Kd.V_mk ul485_2 ge485_2)
                       clear hva_ hvn_ hvc_ ge485_2 ul485_2
                       clear hcc485 hce485
                       have HR485_2:=Aside0.mk hi485_2
                       have HC485_2:=Aside0.mk hl485_2
                       clear hi485_2 hl485_2
                       replace p485:=eq_true p485
                       replace q485:=eq_true q485
                       obtain ⟨Ao48,co48,eo48⟩:=Kd.N_slice HO_3.out
                       subst eo48
                       go_wp2_with (first | ((with_reducible refine gate_callee (f:=63) rfl ?_);refine goesL_ (some 73) rfl rfl Tryd.func63 (by kernel_rfl) rfl #[.slice Ao48 x3_7.length co48,.agg #[.int .i64 ((rd_T25 x8_33 x9_7).f0),.int .i64 ((rd_T25 x8_33 x9_7).f1),.slice A485_2 ((rd_T25 x8_33 x9_7).f2).length c485_2]] rfl (by (try simp only [List.map_toArray,List.map_cons,List.map_nil]);first | done | rfl | (simp only [List.length_drop,List.length_take];rfl)) ?_;(with_reducible refine (spec_l20Has.calls k7 _ _ x3_7 ((rd_T25 x8_33 x9_7).f0) ((rd_T25 x8_33 x9_7).f1) _ _ ((rd_T25 x8_33 x9_7).f2) false _ ?side1 ?side2 ?side3 ?side4 A41.out).mono ?_);(case side1=>repeat (first | exact (Kd.N_reads' HO_3.out).2.2 | (with_reducible refine Kd.C_alloc ?_ _) | (with_reducible refine Kd.C_drewN ?_ _) | (with_reducible refine Kd.C_drew ?_)));(case side2=>exact (Kd.N_reads' HO_3.out).2.1);(case side3=>repeat (first | exact (by repeat (first | (with_reducible exact HR485_2.out) | (with_reducible refine Kd.C_alloc ?_ _) | (with_reducible refine Kd.C_drewN ?_ _) | (with_reducible refine Kd.C_drew ?_) | exact HR485_2.out)) | (with_reducible refine Kd.C_alloc ?_ _) | (with_reducible refine Kd.C_drewN ?_ _) | (with_reducible refine Kd.C_drew ?_)));(case side4=>exact HC485_2.out);rintro e w49 ⟨rfl,hb⟩;refine ⟨_,rfl,?_⟩;have n0_:=Aside0.mk (Kd.N_below (by (with_reducible repeat (first | apply Kd.N_alloc | apply Kd.N_drewN | apply Kd.N_drew));exact HO_3.out) hb);have n1_:=Aside0.mk (Kd.V_below (by (with_reducible repeat (first | apply Kd.V_alloc | apply Kd.V_drewN | apply Kd.V_drew));exact HO_8.out) hb);have n2_:=Aside0.mk (Kd.V_below (by (with_reducible repeat (first | apply Kd.V_alloc | apply Kd.V_drewN | apply Kd.V_drew));exact HO_475002.out) hb);have n3_:=Aside0.mk (Kd.V_below (by (with_reducible repeat (first | apply Kd.V_alloc | apply Kd.V_drewN | apply Kd.V_drew));exact HL485_2.out) hb);have n4_:=Aside0.mk (blk_below (g:=gb474) (o:=.cells #[.int .i64 ((rd_T25 x3_3 x6_3).f0),.int .i64 ((rd_T25 x3_3 x6_3).f1),.slice A473_2 ((rd_T25 x3_3 x6_3).f2).length c473_2] 25 (0,0)) (by (with_reducible repeat (first | refine blk_drewN ?_ _ | refine blk_drew ?_ | refine blk_alloc ?_ _));exact BK474.out) hb);have n5_:=Aside0.mk (Kd.C_below (by repeat (first | (with_reducible exact HR485_2.out) | (with_reducible refine Kd.C_alloc ?_ _) | (with_reducible refine Kd.C_drewN ?_ _) | (with_reducible refine Kd.C_drew ?_) | exact HR485_2.out)) hb);have n6_:=Aside0.mk (below_step (by repeat (first | (with_reducible first | exact HB.out | apply below_alloc | apply pw_below_drewN | apply below_drew1 | refine below_set ?_ GE474.out) | exact HB.out)) hb);clear HO_3;clear HO_8;clear HO_475002;clear HL485_2;clear BK474;clear HR485_2;clear HB;have HO_3:=n0_;have HO_8:=n1_;have HO_475002:=n2_;have HL485_2:=n3_;have BK474:=n4_;have HR485_2:=n5_;have HB:=n6_;clear n0_ n1_ n2_ n3_ n4_ n5_ n6_;(try clear hb);(try clear hb2);(try clear hk);(try clear hi);have p487:0 ≤ (x9_7:Int):=of_decide_eq_true (by first | (with_reducible assumption) | assumption);have q487:x9_7 < (x8_33.length:Int):=of_decide_eq_true (by first | (with_reducible assumption) | assumption);obtain ⟨ad487,A487_2,c487_2,e487,hx487_0,hx487_1,hx487_2,hl487_2,hi487_2⟩:=at_T25 (Kd.V_reads' HO_8.out).2.2 x9_7 p487 q487;obtain rfl:ad485 = ad487:=(by injection e487);obtain ⟨ce487,hce487,hMe487,hcc487⟩:=Kd.V_get HO_8.out z25 x9_7 p487 (by first | exact q487 | exact of_decide_eq_true (by first | (with_reducible assumption) | assumption) | (have e_:=(Kd.V_reads' HO_8.out).1;omega));obtain ⟨ua487_2,uc487_2,rfl,ul487_2,ge487_2⟩:=k25_openF hMe487;have hv487_2:=hcc487 2 _ rfl;rw [add_field _ _ 2 (by omega)] at hv487_2;replace hv487_2:=Option.some.inj (hv487_2.symm.trans hx487_2);injection hv487_2 with hva_ hvn_ hvc_;rw [hva_] at ge487_2;rw [hvc_] at ul487_2;have HL487_2:=Aside0.mk (show Kd.V k25 25 _ w.heap.size _ _ ((rd_T25 x8_33 x9_7).f2) from Kd.V_mk ul487_2 ge487_2);clear hva_ hvn_ hvc_ ge487_2 ul487_2;clear hcc487 hce487;have HR487_2:=Aside0.mk hi487_2;have HC487_2:=Aside0.mk hl487_2;clear hi487_2 hl487_2;replace p487:=eq_true p487;replace q487:=eq_true q487) | ((with_reducible refine gate_builtin (b:=.append) (xs:=#[.tmp 75,.tmp 80]) rfl ?_);at_builtin;refine Kd.N_append k25 (w0:=w) w.heap.size rfl (.tmp 75) (.tmp 80) 23 25 (.agg #[(.int .i64 0),(.int .i64 0),(.slice none 0 0)]) 40 rfl Tryd.underlying23 info25 rfl (by decide) (by omega) (.slice Ao48 x3_7.length co48) x3_7 (⟨(rd_T25 x8_33 x9_7).f0,(rd_T25 x8_33 x9_7).f1,(rd_T25 x8_33 x9_7).f2⟩:S25) [.int .i64 ((rd_T25 x8_33 x9_7).f0),.int .i64 ((rd_T25 x8_33 x9_7).f1),.slice A487_2 ((rd_T25 x8_33 x9_7).f2).length c487_2] (fun k_=>(P0_ k_ ∨ w.heap.size ≤ k_)∧k_ ≠ gb474) (fun k_=>((fun k_=>(P0_ k_ ∨ w.heap.size ≤ k_)∧k_ ≠ gb474)) k_∧some k_ ≠ (.slice Ao48 x3_7.length co48:Value).ownBlock) rfl rfl ?aP (fun _ hk=>hk) ?aF ?aO ?aB ?aS ?aL ?_;(case aP=>exact (k25_mkF _ _ (⟨(rd_T25 x8_33 x9_7).f0,(rd_T25 x8_33 x9_7).f1,(rd_T25 x8_33 x9_7).f2⟩:S25) (Kd.V_reads' (Kd.V_mono (ok':=(fun k_=>((fun k_=>(P0_ k_ ∨ w.heap.size ≤ k_)∧k_ ≠ gb474)) k_∧some k_ ≠ (.slice Ao48 x3_7.length co48:Value).ownBlock)) (HL487_2.out) (fun k_ hk=>⟨⟨hk.1,hk.2.2⟩,hk.2.1⟩))).2.1 (Kd.V_F (Kd.V_mono (ok':=(fun k_=>((fun k_=>(P0_ k_ ∨ w.heap.size ≤ k_)∧k_ ≠ gb474)) k_∧some k_ ≠ (.slice Ao48 x3_7.length co48:Value).ownBlock)) (HL487_2.out) (fun k_ hk=>⟨⟨hk.1,hk.2.2⟩,hk.2.1⟩)))));(case aB=>exact (by repeat (first | (with_reducible first | exact HB.out | apply below_alloc | apply pw_below_drewN | apply below_drew1 | refine below_set ?_ GE474.out) | exact HB.out)));(case aF=>exact (fun k_ hk=>⟨(.inr (Nat.le_trans (below_size (by repeat (first | (with_reducible first | exact HB.out | apply below_alloc | apply pw_below_drewN | apply below_drew1 | refine below_set ?_ GE474.out) | exact HB.out))) hk)),Kd.freshB (g:=gb474) (o:=.cells #[.int .i64 ((rd_T25 x3_3 x6_3).f0),.int .i64 ((rd_T25 x3_3 x6_3).f1),.slice A473_2 ((rd_T25 x3_3 x6_3).f2).length c473_2] 25 (0,0)) (by (with_reducible repeat (first | refine blk_drewN ?_ _ | refine blk_drew ?_ | refine blk_alloc ?_ _));exact BK474.out) k_ hk⟩));(case aO=>exact (by (with_reducible repeat (first | apply Kd.N_alloc | apply Kd.N_drewN | apply Kd.N_drew));exact HO_3.out));(case aS=>exact (below_size (by repeat (first | (with_reducible first | exact HB.out | apply below_alloc | apply pw_below_drewN | apply below_drew1 | refine below_set ?_ GE474.out) | exact HB.out))));(case aL=>have:=LMc46.out;omega);intro v489 w50 ho hb hg hat;rw [← Ny488.out] at ho;have n0_:=Aside0.mk (Kd.V_afterv (ok:=(fun k_=>(P0_ k_ ∨ w.heap.size ≤ k_)∧k_ ≠ gb474)) (by (with_reducible repeat (first | apply Kd.V_alloc | apply Kd.V_drewN | apply Kd.V_drew));exact Kd.V_mono HO_8.out (fun _ hk=>⟨⟨hk.1,hk.2.2⟩,hk.2.1⟩)) hg hat);have n1_:=Aside0.mk (Kd.V_afterv (ok:=(fun k_=>(P0_ k_ ∨ w.heap.size ≤ k_)∧k_ ≠ gb474)) (by (with_reducible repeat (first | apply Kd.V_alloc | apply Kd.V_drewN | apply Kd.V_drew));exact Kd.V_mono HO_475002.out (fun _ hk=>⟨⟨hk.1,hk.2.2⟩,hk.2.1⟩)) hg hat);have n2_:=Aside0.mk (blk_grown (g:=gb474) (o:=.cells #[.int .i64 ((rd_T25 x3_3 x6_3).f0),.int .i64 ((rd_T25 x3_3 x6_3).f1),.slice A473_2 ((rd_T25 x3_3 x6_3).f2).length c473_2] 25 (0,0)) (by (with_reducible repeat (first | refine blk_drewN ?_ _ | refine blk_drew ?_ | refine blk_alloc ?_ _));exact BK474.out) hg (Kd.N_away HO_3.out (fun _ hk=>hk.2)));have n3_:=Aside0.mk (Kd.V_afterv (ok:=(fun k_=>(P0_ k_ ∨ w.heap.size ≤ k_)∧k_ ≠ gb474)) (by (with_reducible repeat (first | apply Kd.V_alloc | apply Kd.V_drewN | apply Kd.V_drew));exact Kd.V_mono HL485_2.out (fun _ hk=>⟨⟨hk.1,hk.2.2⟩,hk.2.1⟩)) hg hat);have n4_:=Aside0.mk (Kd.V_afterv (ok:=(fun k_=>(P0_ k_ ∨ w.heap.size ≤ k_)∧k_ ≠ gb474)) (by (with_reducible repeat (first | apply Kd.V_alloc | apply Kd.V_drewN | apply Kd.V_drew));exact Kd.V_mono HL487_2.out (fun _ hk=>⟨⟨hk.1,hk.2.2⟩,hk.2.1⟩)) hg hat);have n5_:=Aside0.mk (hb);have n6_:=Aside0.mk (ho);clear HO_8;clear HO_475002;clear BK474;clear HL485_2;clear HL487_2;clear HB;clear HO_3;have HO_8:=n0_;have HO_475002:=n1_;have BK474:=n2_;have HL485_2:=n3_;have HL487_2:=n4_;have HB:=n5_;have HO490:=n6_;clear n0_ n1_ n2_ n3_ n4_ n5_ n6_;clear ho hb hg hat))
                       go_roundg k7
                       case measure=>have:=HK1.out;have:=HK2.out;have:=HK3.out;have:=HJ16.out;have:=HJ26.out;have:=HJ33.out;have:=HK7.out;omega
                       case rel=>exact ⟨(y488),(true),(wrap64 (x9_7 + 1)),(by first | rfl | (simp;done) | (simp [*];done)),(by first | rfl | (simp;done) | (simp [*];done)),H',⟨by have:=HK1.out;have:=HK2.out;have:=HK3.out;have:=HJ16.out;have:=HJ26.out;have:=HJ33.out;have:=HK7.out;omega⟩,⟨by (with_reducible repeat (first | apply Kd.N_alloc | apply Kd.N_drewN | apply Kd.N_drew));exact HO490.out⟩,⟨by (with_reducible repeat (first | apply Kd.V_alloc | apply Kd.V_drewN | apply Kd.V_drew));exact Kd.V_mono HO_8.out (fun _ hk=>⟨hk.1.1,⟨hk.2,hk.1.2⟩⟩)⟩,⟨by (with_reducible repeat (first | apply Kd.V_alloc | apply Kd.V_drewN | apply Kd.V_drew));exact Kd.V_mono HO_475002.out (fun _ hk=>⟨hk.1.1,⟨hk.2,hk.1.2⟩⟩)⟩,⟨by (with_reducible repeat (first | refine blk_drewN ?_ _ | refine blk_drew ?_ | refine blk_alloc ?_ _));exact BK474.out⟩,⟨by repeat (first | (with_reducible first | exact HB.out | apply below_alloc | apply pw_below_drewN | apply below_drew1 | refine below_set ?_ GE474.out) | exact HB.out)⟩⟩
                      ·rw [if_neg c46] at H
                       exact absurd H (by simp)
                    ·rw [if_neg c40] at H
                     exact absurd H (by simp)
                   ·rw [if_neg c39] at H
                    have c39b0:decide (x9_7 < (x8_33.length:Int)) = false:=decide_eq_false c39
                    clear c39
                    have H':=Aside0.mk H
                    clear H
                    obtain ⟨Ao51,co51,eo51⟩:=Kd.V_slice HO_8.out
                    subst eo51
                    go_wp2
                    go_roundg k7
                    case measure=>have:=HK1.out;have:=HK2.out;have:=HK3.out;have:=HJ16.out;have:=HJ26.out;have:=HJ33.out;have:=HK7.out;omega
                    case rel=>exact ⟨(x3_7),(x5_7),(wrap64 (x6_3 + 1)),(by first | rfl | (simp;done) | (simp [*];done)),(by first | rfl | (simp;done) | (simp [*];done)),H',⟨by have:=HK1.out;have:=HK2.out;have:=HK3.out;have:=HJ16.out;have:=HJ26.out;have:=HJ33.out;have:=HK7.out;omega⟩,⟨by (with_reducible repeat (first | apply Kd.N_alloc | apply Kd.N_drewN | apply Kd.N_drew));exact Kd.N_mono HO_3.out (fun _ hk=>hk.1)⟩,⟨by repeat (first | (with_reducible first | exact HB.out | apply below_alloc | apply pw_below_drewN | apply below_drew1 | refine below_set ?_ GE474.out) | exact HB.out)⟩⟩
          ·rw [if_neg c16] at H
           exact absurd H (by simp)
         ·rw [if_neg c15] at H
          have c15b0:decide (x6_3 < (x3_3.length:Int)) = false:=decide_eq_false c15
          clear c15
          have H':=Aside0.mk H
          clear H
          obtain ⟨Ao52,co52,eo52⟩:=Kd.N_slice HO_3.out
          subst eo52
          go_wp2
          go_roundg k3
          case measure=>have:=HK1.out;have:=HK2.out;have:=HK3.out;omega
          case rel=>exact ⟨(x3_3),(x5_3),(by first | rfl | (simp;done) | (simp [*];done)),H',⟨by have:=HK1.out;have:=HK2.out;have:=HK3.out;omega⟩,⟨by (with_reducible repeat (first | apply Kd.N_alloc | apply Kd.N_drewN | apply Kd.N_drew));exact HO_3.out⟩,⟨by repeat (first | (with_reducible first | exact HB.out | apply below_alloc | apply pw_below_drewN | apply below_drew1) | exact HB.out)⟩⟩
      ·replace c14:=Bool.eq_false_iff.mpr c14
       subst c14
       have H1:(some x3_2) = some r:=by rw [if_neg (show ¬ (false = true) by decide)] at H;exact H
       clear H
       have H:=H1
       clear H1
       obtain rfl:=Option.some.inj H
       go_wp2
       go_ret
       exact ⟨_,by first | rfl | (simp [errW_none,errW_some] <;> rfl) | (simp [*,errW_none,errW_some] <;> rfl),by (with_reducible repeat (first | apply Kd.N_alloc | apply Kd.N_drewN | apply Kd.N_drew));exact HO_3.out,by repeat (first | (with_reducible first | exact HB.out | apply below_alloc | apply pw_below_drewN | apply below_drew1) | exact HB.out)⟩
mutual
def spec_l92Know.j0:Nat → List (S25) → Int → List Int → Int → Option ((List (S25)) × Int)
 | 0,_,_,_,_=>none
 | k + 1,x3,x4,x1000,x1001=>spec_l92Know.l0 k x3 x4 0 x1000 x1001
def spec_l92Know.l0:Nat → List (S25) → Int → Int → List Int → Int → Option ((List (S25)) × Int)
 | 0,_,_,_,_,_=>none
 | k + 1,x3,x4,x5,x1000,x1001=>if x5 < x4 then ((spec_l6Rd_pick.f k x1000 x1001 2).bind fun bt364=>((spec_l92Seal.f k x1000 bt364.2 (wrap64 (1 + bt364.1))).bind fun bt366=>(if x3.length < 3518437208883 then (spec_l92Know.l0 k (x3 ++ [(⟨bt366.1,bt366.2.1,bt366.2.2.1⟩:S25)]) x4 (wrap64 (x5 + 1)) x1000 bt366.2.2.2) else (none)))) else (some (x3,x1001))
end
def spec_l92Know.f (k:Nat) (s0_0:List Int) (s0_1:Int):Option ((List (S25)) × Int):=(some (([]:List (S25)):List (S25))).bind fun y357=>((spec_l6Rd_pick.f k s0_0 s0_1 5).bind fun bt360=>((spec_l6Rd_pick.f k s0_0 bt360.2 20).bind fun bt362=>(if bt362.1 = 0 then (spec_l92Know.j0 k y357 7 s0_0 bt362.2) else (spec_l92Know.j0 k y357 bt360.1 s0_0 bt362.2))))
theorem spec_l92Know.mono_l:∀ k,(∀ y0 y1 y2 y3,LeO (spec_l92Know.j0 k y0 y1 y2 y3) (spec_l92Know.j0 (k + 1) y0 y1 y2 y3))∧(∀ y0 y1 y2 y3 y4,LeO (spec_l92Know.l0 k y0 y1 y2 y3 y4) (spec_l92Know.l0 (k + 1) y0 y1 y2 y3 y4))
 | 0=>⟨fun _ _ _ _ r h=>by simp [spec_l92Know.j0] at h,fun _ _ _ _ _ r h=>by simp [spec_l92Know.l0] at h⟩
 | k + 1=>by
  obtain ⟨ih0,ih1⟩:=spec_l92Know.mono_l k
  refine ⟨?_,?_⟩
  ·intro y0 y1 y2 y3
   unfold spec_l92Know.j0
   repeat' first
   | (with_reducible exact ih0 _ _ _ _)
   | (with_reducible exact ih1 _ _ _ _ _)
   | (with_reducible exact spec_l6Rd_pick.mono _ _ _ _)
   | (with_reducible exact spec_l92Seal.mono _ _ _ _)
   | (with_reducible exact LeO.refl _)
   | (with_reducible exact LeO.none _)
   | (with_reducible refine LeO.ite ?_ ?_)
   | (with_reducible refine LeO.bind ?_ (fun _=>?_))
   | exact ih0 _ _ _ _
   | exact ih1 _ _ _ _ _
   | exact spec_l6Rd_pick.mono _ _ _ _
   | exact spec_l92Seal.mono _ _ _ _
   | exact LeO.none _
   | refine LeO.ite ?_ ?_
   | refine LeO.bind ?_ (fun _=>?_)
  ·intro y0 y1 y2 y3 y4
   unfold spec_l92Know.l0
   repeat' first
   | (with_reducible exact ih0 _ _ _ _)
   | (with_reducible exact ih1 _ _ _ _ _)
   | (with_reducible exact spec_l6Rd_pick.mono _ _ _ _)
   | (with_reducible exact spec_l92Seal.mono _ _ _ _)
   | (with_reducible exact LeO.refl _)
   | (with_reducible exact LeO.none _)
   | (with_reducible refine LeO.ite ?_ ?_)
   | (with_reducible refine LeO.bind ?_ (fun _=>?_))
   | exact ih0 _ _ _ _
   | exact ih1 _ _ _ _ _
   | exact spec_l6Rd_pick.mono _ _ _ _
   | exact spec_l92Seal.mono _ _ _ _
   | exact LeO.none _
   | refine LeO.ite ?_ ?_
   | refine LeO.bind ?_ (fun _=>?_)
theorem spec_l92Know.mono:∀ a0 a1 k,LeO (spec_l92Know.f k a0 a1) (spec_l92Know.f (k + 1) a0 a1):=by
 intro a0 a1 k
 obtain ⟨ih0,ih1⟩:=spec_l92Know.mono_l k
 unfold spec_l92Know.f
 repeat' first
   | (with_reducible exact ih0 _ _ _ _)
   | (with_reducible exact ih1 _ _ _ _ _)
   | (with_reducible exact spec_l6Rd_pick.mono _ _ _ _)
   | (with_reducible exact spec_l92Seal.mono _ _ _ _)
   | (with_reducible exact LeO.refl _)
   | (with_reducible exact LeO.none _)
   | (with_reducible refine LeO.ite ?_ ?_)
   | (with_reducible refine LeO.bind ?_ (fun _=>?_))
   | exact ih0 _ _ _ _
   | exact ih1 _ _ _ _ _
   | exact spec_l6Rd_pick.mono _ _ _ _
   | exact spec_l92Seal.mono _ _ _ _
   | exact LeO.none _
   | refine LeO.ite ?_ ?_
   | refine LeO.bind ?_ (fun _=>?_)
set_option maxHeartbeats 8000000 in
set_option maxRecDepth 100000 in
theorem spec_l92Know.calls (k:Nat) (g:Nat) (s0_0:List Int) (s0_1:Int) (r1:List (S25)) (r2:Int) (w0 w:World) (hI:IsS73 w0 w g s0_0 s0_1) (hB:Below w0.heap.size w0 w) (h:spec_l92Know.f k s0_0 s0_1 = some (r1,r2)) :
  Calls Tryd.prog 56 #[.pointer (some ⟨g,0,none⟩)] w fun e w'=>∃ v0_:Value,e = .returned (v0_)∧Kd.N k25 25 w' w.heap.size (fun k_=>(w.heap.size ≤ k_)) v0_ r1∧IsS73 w0 w' g s0_0 r2∧Below w0.heap.size w0 w'∧KeepBut w w' g none:=by
 have HI0:=Aside0.mk hI
 have HK:=Aside0.mk (KeepBut.refl w g none)
 have HL:=Aside0.mk hB.size
 clear hI
 have HW0:=Aside0.mk hB.size
 have HB:=Aside0.mk hB
 clear hB
 have H:((some (([]:List (S25)):List (S25))).bind fun y357=>((spec_l6Rd_pick.f k s0_0 s0_1 5).bind fun bt360=>((spec_l6Rd_pick.f k s0_0 bt360.2 20).bind fun bt362=>(if bt362.1 = 0 then (spec_l92Know.j0 k y357 7 s0_0 bt362.2) else (spec_l92Know.j0 k y357 bt360.1 s0_0 bt362.2))))) = some (r1,r2):=h
 clear h
 obtain ⟨y357,hy357⟩:∃ y_:List (S25),y_ = (([]:List (S25))):=⟨_,rfl⟩
 replace H:((spec_l6Rd_pick.f k s0_0 s0_1 5).bind fun bt360=>((spec_l6Rd_pick.f k s0_0 bt360.2 20).bind fun bt362=>(if bt362.1 = 0 then (spec_l92Know.j0 k y357 7 s0_0 bt362.2) else (spec_l92Know.j0 k y357 bt360.1 s0_0 bt362.2)))) = some (r1,r2):=by first | (rw [hy357];with_reducible exact H) | (have H2_:=(Option.bind_some _ _).symm.trans H;rw [hy357];with_reducible exact H2_) | (have H2_:=(Option.bind_some _ _).symm.trans H;with_reducible exact H2_) | with_reducible exact H | (rw [hy357];exact H) | exact H
 have Ny357:=Aside0.mk hy357
 clear hy357
 replace H:=Option.bind_eq_some_iff.mp H
 obtain ⟨⟨t360,t361⟩,A20,H⟩:=H
 replace H:((spec_l6Rd_pick.f k s0_0 t361 20).bind fun bt362=>(if bt362.1 = 0 then (spec_l92Know.j0 k y357 7 s0_0 bt362.2) else (spec_l92Know.j0 k y357 t360 s0_0 bt362.2))) = some (r1,r2):=H
 have A2:=Aside0.mk A20
 clear A20
 replace H:=Option.bind_eq_some_iff.mp H
 obtain ⟨⟨t362,t363⟩,A30,H⟩:=H
 replace H:(if t362 = 0 then (spec_l92Know.j0 k y357 7 s0_0 t363) else (spec_l92Know.j0 k y357 t360 s0_0 t363)) = some (r1,r2):=H
 have A3:=Aside0.mk A30
 clear A30
 have HC4:=Aside0.mk H
 clear H
 go_enter Tryd.func56,Tryd.ntmps56
 go_upto_if 11 with (first | ((with_reducible refine gate_dst (N:=6) rfl ?_);refine Kd.N_lit k25 _ 25 ?hg (N':=6) ?hd (xs:=([]:List (S25))) (inner:=[]) (ok:=(fun k_=>(w.heap.size ≤ k_)∧k_ ≠ g)) (okp:=(fun k_=>(w.heap.size ≤ k_)∧k_ ≠ g)) ?hr ?hp (fun _ hk=>hk) ((show ∀ k_,w.heap.size ≤ k_ → (fun k_=>(w.heap.size ≤ k_)∧k_ ≠ g) k_ from fun k_ hk=>⟨(Nat.le_trans (keep_size (w:=w) (g:=g) (row:=none) (by repeat (first | (with_reducible first | exact HK.out | apply KeepBut.set_ | apply keep_drewN | apply keep_drew | apply keep_alloc) | exact HK.out))) hk),IsS73.fresh (by repeat (first | (with_reducible first | exact HI0.out | apply IsS73.alloc | apply IsS73.drewN | apply IsS73.drew | apply IsS73.set_1) | exact HI0.out)) k_ hk⟩) _ (Nat.le_refl _)) (Below.refl _ _) (Nat.le_refl _) (by simp) ?_;(case hd=>rfl);(case hg=>rfl);(case hr=>first | (go_simp;done) | (go_simp;rfl));(case hp=>exact (Reps.none _ _));intro v358 w5 ho6 hb hg_ hnew_;clear hg_ hnew_;(first | rw [← Ny357.out] at ho6 | (simp only [Int.reduceToNat] at ho6;rw [← Ny357.out] at ho6));have n0_:=Aside0.mk (Kd.N_lower ho6 (keep_size (w:=w) (g:=g) (row:=none) (by repeat (first | (with_reducible first | exact HK.out | apply KeepBut.set_ | apply keep_drewN | apply keep_drew | apply keep_alloc) | exact HK.out))));have n1_:=Aside0.mk (IsS73.below (by repeat (first | (with_reducible first | exact HI0.out | apply IsS73.alloc | apply IsS73.drewN | apply IsS73.drew | apply IsS73.set_1) | exact HI0.out)) hb);have n2_:=Aside0.mk (KeepBut.trans (by repeat (first | (with_reducible first | exact HK.out | apply KeepBut.set_ | apply keep_drewN | apply keep_drew | apply keep_alloc) | exact HK.out)) (KeepBut.of_below hb g none) (.inl rfl));have n3_:=Aside0.mk (below_step (by repeat (first | (with_reducible first | exact HB.out | apply below_alloc | apply pw_below_drewN | apply below_drew1 | refine below_set ?_ (IsS73.ge HI0.out)) | exact HB.out)) hb);clear HI0;clear HK;clear HB;have HO359:=n0_;have HI0:=n1_;have HK:=n2_;have HB:=n3_;clear n0_ n1_ n2_ n3_;clear hb ho6) | ((with_reducible refine gate_callee (f:=41) rfl ?_);refine goesL_ (some 8) rfl rfl Tryd.func41 (by kernel_rfl) rfl #[.pointer (some ⟨g,0,none⟩),.int .i64 5] rfl (by (try simp only [List.map_toArray,List.map_cons,List.map_nil]);first | done | rfl | (simp only [List.length_drop,List.length_take];rfl)) ?_;(with_reducible refine (spec_l6Rd_pick.calls k g s0_0 s0_1 5 t360 t361 w0 _ ?side1 ?side2 A2.out).mono ?_);(case side1=>repeat (first | (with_reducible first | exact HI0.out | apply IsS73.alloc | apply IsS73.drewN | apply IsS73.drew | apply IsS73.set_1) | exact HI0.out));(case side2=>repeat (first | (with_reducible first | exact HB.out | apply below_alloc | apply pw_below_drewN | apply below_drew1 | refine below_set ?_ (IsS73.ge HI0.out)) | exact HB.out));rintro e w7 ⟨rfl,hi,hb,hk⟩;refine ⟨_,rfl,?_⟩;have n0_:=Aside0.mk (Kd.N_mono (Kd.N_keep (Kd.N_mono (ok:=fun k_=>(((w.heap.size ≤ k_))∧k_ ≠ g)) (by (with_reducible repeat (first | apply Kd.N_alloc | apply Kd.N_drewN | apply Kd.N_drew));exact HO359.out) (fun k_ hk_=>(⟨hk_,hk_.2⟩:_∧k_ ≠ g))) hk (fun _ h=>h.2)) (fun _ h=>h.1));have n1_:=Aside0.mk (KeepBut.trans (by repeat (first | (with_reducible first | exact HK.out | apply KeepBut.set_ | apply keep_drewN | apply keep_drew | apply keep_alloc) | exact HK.out)) hk (.inl rfl));have n2_:=Aside0.mk (hb);have n3_:=Aside0.mk (hi);clear HO359;clear HK;clear HB;clear HI0;have HO359:=n0_;have HK:=n1_;have HB:=n2_;have HI0:=n3_;clear n0_ n1_ n2_ n3_;(try clear hb);(try clear hb2);(try clear hk);(try clear hi)) | ((with_reducible refine gate_callee (f:=41) rfl ?_);refine goesL_ (some 10) rfl rfl Tryd.func41 (by kernel_rfl) rfl #[.pointer (some ⟨g,0,none⟩),.int .i64 20] rfl (by (try simp only [List.map_toArray,List.map_cons,List.map_nil]);first | done | rfl | (simp only [List.length_drop,List.length_take];rfl)) ?_;(with_reducible refine (spec_l6Rd_pick.calls k g s0_0 t361 20 t362 t363 w0 _ ?side1 ?side2 A3.out).mono ?_);(case side1=>repeat (first | (with_reducible first | exact HI0.out | apply IsS73.alloc | apply IsS73.drewN | apply IsS73.drew | apply IsS73.set_1) | exact HI0.out));(case side2=>repeat (first | (with_reducible first | exact HB.out | apply below_alloc | apply pw_below_drewN | apply below_drew1 | refine below_set ?_ (IsS73.ge HI0.out)) | exact HB.out));rintro e w8 ⟨rfl,hi,hb,hk⟩;refine ⟨_,rfl,?_⟩;have n0_:=Aside0.mk (Kd.N_mono (Kd.N_keep (Kd.N_mono (ok:=fun k_=>(((w.heap.size ≤ k_))∧k_ ≠ g)) (by (with_reducible repeat (first | apply Kd.N_alloc | apply Kd.N_drewN | apply Kd.N_drew));exact HO359.out) (fun k_ hk_=>(⟨hk_,hk_.2⟩:_∧k_ ≠ g))) hk (fun _ h=>h.2)) (fun _ h=>h.1));have n1_:=Aside0.mk (KeepBut.trans (by repeat (first | (with_reducible first | exact HK.out | apply KeepBut.set_ | apply keep_drewN | apply keep_drew | apply keep_alloc) | exact HK.out)) hk (.inl rfl));have n2_:=Aside0.mk (hb);have n3_:=Aside0.mk (hi);clear HO359;clear HK;clear HB;clear HI0;have HO359:=n0_;have HK:=n1_;have HB:=n2_;have HI0:=n3_;clear n0_ n1_ n2_ n3_;(try clear hb);(try clear hb2);(try clear hk);(try clear hi)))
 (try simp only [Act.put,List.setIfInBounds_toArray,List.set_cons_zero,List.set_cons_succ])
 go_cut [4] (fun v4 wc=>∃ (kq:Nat) (x4_3:Int),v4 = .int .i64 x4_3∧Aside0 (spec_l92Know.j0 kq y357 x4_3 s0_0 t363 = some (r1,r2))∧Aside0 (kq ≤ k)∧Aside0 (Kd.N k25 25 wc w.heap.size (fun k_=>(w.heap.size ≤ k_)∧k_ ≠ g) v358 y357)∧Aside0 (IsS73 w0 wc g s0_0 t363)∧Aside0 (KeepBut w wc g none)∧Aside0 (Below w0.heap.size w0 wc))
 case first =>
  have H:=HC4.out
  clear HC4
  by_cases c9:t362 = 0
  ·rw [if_pos c9] at H
   have c9b0:(t362 == 0) = true:=beq_iff_eq.mpr c9
   have c9b1:(t362 != 0) = false:=bne_eq_false_iff_eq.mpr c9
   clear c9
   (first | rw [c9b0] | (simp only [i64_w,i32_w];rw [c9b0]) | skip)
   have H':=Aside0.mk H
   clear H
   go_wp2
   go_meet
   case rel=>exact ⟨_,(7),(by first | rfl | (simp;done) | (simp [*];done)),H',⟨by first | omega | exact Nat.le_refl _⟩,⟨by (with_reducible repeat (first | apply Kd.N_alloc | apply Kd.N_drewN | apply Kd.N_drew));exact HO359.out⟩,⟨by repeat (first | (with_reducible first | exact HI0.out | apply IsS73.alloc | apply IsS73.drewN | apply IsS73.drew | apply IsS73.set_1) | exact HI0.out)⟩,⟨by repeat (first | (with_reducible first | exact HK.out | apply KeepBut.set_ | apply keep_drewN | apply keep_drew | apply keep_alloc) | exact HK.out)⟩,⟨by repeat (first | (with_reducible first | exact HB.out | apply below_alloc | apply pw_below_drewN | apply below_drew1 | refine below_set ?_ (IsS73.ge HI0.out)) | exact HB.out)⟩⟩
  ·rw [if_neg c9] at H
   have c9b0:(t362 == 0) = false:=beq_eq_false_iff_ne.mpr c9
   have c9b1:(t362 != 0) = true:=bne_iff_ne.mpr c9
   (first | rw [c9b0] | (simp only [i64_w,i32_w];rw [c9b0]) | skip)
   have H':=Aside0.mk H
   clear H
   go_wp2
   go_meet
   case rel=>exact ⟨_,(t360),(by first | rfl | (simp;done) | (simp [*];done)),H',⟨by first | omega | exact Nat.le_refl _⟩,⟨by (with_reducible repeat (first | apply Kd.N_alloc | apply Kd.N_drewN | apply Kd.N_drew));exact HO359.out⟩,⟨by repeat (first | (with_reducible first | exact HI0.out | apply IsS73.alloc | apply IsS73.drewN | apply IsS73.drew | apply IsS73.set_1) | exact HI0.out)⟩,⟨by repeat (first | (with_reducible first | exact HK.out | apply KeepBut.set_ | apply keep_drewN | apply keep_drew | apply keep_alloc) | exact HK.out)⟩,⟨by repeat (first | (with_reducible first | exact HB.out | apply below_alloc | apply pw_below_drewN | apply below_drew1 | refine below_set ?_ (IsS73.ge HI0.out)) | exact HB.out)⟩⟩
 case rest =>
  clear HC4
  try clear p2
  try clear c4
  try clear c5
  try clear c9
  try clear c9b0
  try clear c9b1
  obtain ⟨kq,x4_3,rfl,HA,HJ3,HO_3,HI0,HK,HB⟩:=hcut
  cases kq with
  | zero=>exact absurd HA.out (by simp [spec_l92Know.j0])
  | succ kj3 =>
   have H:=HA.out
   clear HA
   simp only [spec_l92Know.j0] at H
   have H':=Aside0.mk H
   clear H
   go_wp2
   go_loopg [3,5] kj3 (fun kq v3 v5 w'=>∃ (x3_2:List (S25)) (x5_2:Int) (x1001_2:Int),v5 = .int .i64 x5_2∧Aside0 (spec_l92Know.l0 kq x3_2 x4_3 x5_2 s0_0 x1001_2 = some (r1,r2))∧Aside0 (kq ≤ kj3)∧Aside0 (Kd.N k25 25 w' w.heap.size (fun k_=>(w.heap.size ≤ k_)∧k_ ≠ g) v3 x3_2)∧Aside0 (IsS73 w0 w' g s0_0 x1001_2)∧Aside0 (KeepBut w w' g none)∧Aside0 (Below w0.heap.size w0 w'))
   case atStart=>exact ⟨(y357),(0),(t363),(by first | rfl | (simp;done) | (simp [*];done)),H',⟨Nat.le_refl _⟩,⟨by (with_reducible repeat (first | apply Kd.N_alloc | apply Kd.N_drewN | apply Kd.N_drew));exact HO_3.out⟩,⟨by repeat (first | (with_reducible first | exact HI0.out | apply IsS73.alloc | apply IsS73.drewN | apply IsS73.drew | apply IsS73.set_1) | exact HI0.out)⟩,⟨by repeat (first | (with_reducible first | exact HK.out | apply KeepBut.set_ | apply keep_drewN | apply keep_drew | apply keep_alloc) | exact HK.out)⟩,⟨by repeat (first | (with_reducible first | exact HB.out | apply below_alloc | apply pw_below_drewN | apply below_drew1 | refine below_set ?_ (IsS73.ge HI0.out)) | exact HB.out)⟩⟩
   case round =>
    clear H'
    try clear p2
    try clear c4
    try clear c5
    try clear c9
    try clear c9b0
    try clear c9b1
    try clear p2
    obtain ⟨x3_2,x5_2,x1001_2,rfl,HA,HK2,HO_3,HI0,HK,HB⟩:=hrel
    cases gk with
    | zero=>exact absurd HA.out (by simp [spec_l92Know.l0])
    | succ k2 =>
     have H:=HA.out
     clear HA
     simp only [spec_l92Know.l0] at H
     by_cases c10:x5_2 < x4_3
     ·rw [if_pos c10] at H
      have c10b0:decide (x5_2 < x4_3) = true:=decide_eq_true c10
      clear c10
      replace H:=Option.bind_eq_some_iff.mp H
      obtain ⟨⟨t364,t365⟩,A110,H⟩:=H
      replace H:((spec_l92Seal.f k2 s0_0 t365 (wrap64 (1 + t364))).bind fun bt366=>(if x3_2.length < 3518437208883 then (spec_l92Know.l0 k2 (x3_2 ++ [(⟨bt366.1,bt366.2.1,bt366.2.2.1⟩:S25)]) x4_3 (wrap64 (x5_2 + 1)) s0_0 bt366.2.2.2) else (none))) = some (r1,r2):=H
      have A11:=Aside0.mk A110
      clear A110
      replace H:=Option.bind_eq_some_iff.mp H
      obtain ⟨⟨t366,t367,t368,t371⟩,A120,H⟩:=H
      replace H:(if x3_2.length < 3518437208883 then (spec_l92Know.l0 k2 (x3_2 ++ [(⟨t366,t367,t368⟩:S25)]) x4_3 (wrap64 (x5_2 + 1)) s0_0 t371) else (none)) = some (r1,r2):=H
      have A12:=Aside0.mk A120
      clear A120
      by_cases c13:x3_2.length < 3518437208883
      ·rw [if_pos c13] at H
       have LMc13:=Aside0.mk c13
       clear c13
       obtain ⟨y372,hy372⟩:∃ y_:List (S25),y_ = (x3_2 ++ [(⟨t366,t367,t368⟩:S25)]):=⟨_,rfl⟩
       replace H:(spec_l92Know.l0 k2 y372 x4_3 (wrap64 (x5_2 + 1)) s0_0 t371) = some (r1,r2):=by first | (rw [hy372];with_reducible exact H) | (have H2_:=(Option.bind_some _ _).symm.trans H;rw [hy372];with_reducible exact H2_) | (have H2_:=(Option.bind_some _ _).symm.trans H;with_reducible exact H2_) | with_reducible exact H | (rw [hy372];exact H) | exact H
       have Ny372:=Aside0.mk hy372
       clear hy372
       have H':=Aside0.mk H
       clear H
       go_wp2_with (first | ((with_reducible refine gate_callee (f:=41) rfl ?_);refine goesL_ (some 20) rfl rfl Tryd.func41 (by kernel_rfl) rfl #[.pointer (some ⟨g,0,none⟩),.int .i64 2] rfl (by (try simp only [List.map_toArray,List.map_cons,List.map_nil]);first | done | rfl | (simp only [List.length_drop,List.length_take];rfl)) ?_;(with_reducible refine (spec_l6Rd_pick.calls k2 g s0_0 x1001_2 2 t364 t365 w0 _ ?side1 ?side2 A11.out).mono ?_);(case side1=>repeat (first | (with_reducible first | exact HI0.out | apply IsS73.alloc | apply IsS73.drewN | apply IsS73.drew | apply IsS73.set_1) | exact HI0.out));(case side2=>repeat (first | (with_reducible first | exact HB.out | apply below_alloc | apply pw_below_drewN | apply below_drew1 | refine below_set ?_ (IsS73.ge HI0.out)) | exact HB.out));rintro e w14 ⟨rfl,hi,hb,hk⟩;refine ⟨_,rfl,?_⟩;have n0_:=Aside0.mk (Kd.N_mono (Kd.N_keep (Kd.N_mono (ok:=fun k_=>(((w.heap.size ≤ k_))∧k_ ≠ g)) (by (with_reducible repeat (first | apply Kd.N_alloc | apply Kd.N_drewN | apply Kd.N_drew));exact HO_3.out) (fun k_ hk_=>(⟨hk_,hk_.2⟩:_∧k_ ≠ g))) hk (fun _ h=>h.2)) (fun _ h=>h.1));have n1_:=Aside0.mk (KeepBut.trans (by repeat (first | (with_reducible first | exact HK.out | apply KeepBut.set_ | apply keep_drewN | apply keep_drew | apply keep_alloc) | exact HK.out)) hk (.inl rfl));have n2_:=Aside0.mk (hb);have n3_:=Aside0.mk (hi);clear HO_3;clear HK;clear HB;clear HI0;have HO_3:=n0_;have HK:=n1_;have HB:=n2_;have HI0:=n3_;clear n0_ n1_ n2_ n3_;(try clear hb);(try clear hb2);(try clear hk);(try clear hi)) | ((with_reducible refine gate_callee (f:=40) rfl ?_);refine goesL_ (some 22) rfl rfl Tryd.func40 (by kernel_rfl) rfl #[.pointer (some ⟨g,0,none⟩),.int .i64 (wrap64 (1 + t364))] rfl (by (try simp only [List.map_toArray,List.map_cons,List.map_nil]);first | done | rfl | (simp only [List.length_drop,List.length_take];rfl)) ?_;(with_reducible refine (spec_l92Seal.calls k2 g s0_0 t365 (wrap64 (1 + t364)) t366 t367 t368 t371 w0 _ ?side1 ?side2 A12.out).mono ?_);(case side1=>repeat (first | (with_reducible first | exact HI0.out | apply IsS73.alloc | apply IsS73.drewN | apply IsS73.drew | apply IsS73.set_1) | exact HI0.out));(case side2=>repeat (first | (with_reducible first | exact HB.out | apply below_alloc | apply pw_below_drewN | apply below_drew1 | refine below_set ?_ (IsS73.ge HI0.out)) | exact HB.out));rintro e w15 ⟨v369,rfl,ho0,hi,hb,hk⟩;refine ⟨_,rfl,?_⟩;have n0_:=Aside0.mk (Kd.N_mono (Kd.N_told (Kd.N_oldK (Kd.N_mono (ok:=fun k_=>(((w.heap.size ≤ k_))∧k_ ≠ g)) (by (with_reducible repeat (first | apply Kd.N_alloc | apply Kd.N_drewN | apply Kd.N_drew));exact HO_3.out) (fun k_ hk_=>(⟨hk_,hk_.2⟩:_∧k_ ≠ g))) hk) (Kd.N_base ho0)) (fun _ h_=>h_.1));have n1_:=Aside0.mk (Kd.N_lower (Kd.N_mono (ok':=fun k_=>(w.heap.size ≤ k_)∧some k_ ≠ (u3:Value).ownBlock∧k_ ≠ g) ho0 (fun k_ hk_=>⟨(Nat.le_trans (keep_size (w:=w) (g:=g) (row:=none) (by repeat (first | (with_reducible first | exact HK.out | apply KeepBut.set_ | apply keep_drewN | apply keep_drew | apply keep_alloc) | exact HK.out))) hk_),(Kd.fresh' (Kd.N_lt (by (with_reducible repeat (first | apply Kd.N_alloc | apply Kd.N_drewN | apply Kd.N_drew));exact HO_3.out)) k_ hk_),(IsS73.fresh (by repeat (first | (with_reducible first | exact HI0.out | apply IsS73.alloc | apply IsS73.drewN | apply IsS73.drew | apply IsS73.set_1) | exact HI0.out)) k_ hk_)⟩)) (keep_size (w:=w) (g:=g) (row:=none) (by repeat (first | (with_reducible first | exact HK.out | apply KeepBut.set_ | apply keep_drewN | apply keep_drew | apply keep_alloc) | exact HK.out))));have n2_:=Aside0.mk (KeepBut.trans (by repeat (first | (with_reducible first | exact HK.out | apply KeepBut.set_ | apply keep_drewN | apply keep_drew | apply keep_alloc) | exact HK.out)) hk (.inl rfl));have n3_:=Aside0.mk (hb);have n4_:=Aside0.mk (hi);clear HO_3;clear HK;clear HB;clear HI0;have HO_3:=n0_;have HO370:=n1_;have HK:=n2_;have HB:=n3_;have HI0:=n4_;clear n0_ n1_ n2_ n3_ n4_;(try clear hb);(try clear hb2);(try clear hk);(try clear hi);(try clear ho0);obtain ⟨Ao17,co17,eo17⟩:=Kd.N_slice HO370.out;subst eo17) | ((with_reducible refine gate_builtin (b:=.append) (xs:=#[.tmp 17,.tmp 23]) rfl ?_);at_builtin;refine Kd.N_append k25 w.heap.size rfl (.tmp 17) (.tmp 23) 23 25 (.agg #[(.int .i64 0),(.int .i64 0),(.slice none 0 0)]) 40 rfl Tryd.underlying23 info25 rfl (by decide) (by omega) u3 x3_2 (⟨t366,t367,t368⟩:S25) [.int .i64 t366,.int .i64 t367,.slice Ao17 t368.length co17] (fun k_=>(w.heap.size ≤ k_)∧k_ ≠ g) (fun k_=>((fun k_=>(w.heap.size ≤ k_)∧k_ ≠ g)) k_∧some k_ ≠ (u3:Value).ownBlock) rfl rfl ?aP (fun _ hk=>hk) ?aF ?aO (Below.refl _ _) ?aS ?aL ?_;(case aP=>exact (k25_mkF _ _ (⟨t366,t367,t368⟩:S25) (Kd.N_reads' (Kd.N_mono (ok':=(fun k_=>((fun k_=>(w.heap.size ≤ k_)∧k_ ≠ g)) k_∧some k_ ≠ (u3:Value).ownBlock)) (HO370.out) (fun k_ hk=>⟨⟨hk.1,hk.2.2⟩,hk.2.1⟩))).2.1 (Kd.N_F (Kd.N_mono (ok':=(fun k_=>((fun k_=>(w.heap.size ≤ k_)∧k_ ≠ g)) k_∧some k_ ≠ (u3:Value).ownBlock)) (HO370.out) (fun k_ hk=>⟨⟨hk.1,hk.2.2⟩,hk.2.1⟩)))));(case aF=>exact (fun k_ hk=>⟨(Nat.le_trans (keep_size (w:=w) (g:=g) (row:=none) (by repeat (first | (with_reducible first | exact HK.out | apply KeepBut.set_ | apply keep_drewN | apply keep_drew | apply keep_alloc) | exact HK.out))) hk),IsS73.fresh (by repeat (first | (with_reducible first | exact HI0.out | apply IsS73.alloc | apply IsS73.drewN | apply IsS73.drew | apply IsS73.set_1) | exact HI0.out)) k_ hk⟩));(case aO=>exact (by (with_reducible repeat (first | apply Kd.N_alloc | apply Kd.N_drewN | apply Kd.N_drew));exact Kd.N_mono HO_3.out (fun _ hk=>⟨hk.1.1,hk.1.2⟩)));(case aS=>exact (keep_size (w:=w) (g:=g) (row:=none) (by repeat (first | (with_reducible first | exact HK.out | apply KeepBut.set_ | apply keep_drewN | apply keep_drew | apply keep_alloc) | exact HK.out))));(case aL=>have:=LMc13.out;omega);intro v373 w16 ho hb hg hat;rw [← Ny372.out] at ho;have n0_:=Aside0.mk (IsS73.grown (by repeat (first | (with_reducible first | exact HI0.out | apply IsS73.alloc | apply IsS73.drewN | apply IsS73.drew | apply IsS73.set_1) | exact HI0.out)) hg (IsS73.own_neN HI0.out HO_3.out (by decide)));have n1_:=Aside0.mk (below_weaken (by repeat (first | (with_reducible first | exact HB.out | apply below_alloc | apply pw_below_drewN | apply below_drew1 | refine below_set ?_ (IsS73.ge HI0.out)) | exact HB.out)) HL.out hb);have n2_:=Aside0.mk (KeepBut.trans (by repeat (first | (with_reducible first | exact HK.out | apply KeepBut.set_ | apply keep_drewN | apply keep_drew | apply keep_alloc) | exact HK.out)) (KeepBut.of_grown hg g) (Kd.N_base2 HO_3.out));have n3_:=Aside0.mk (ho);clear HI0;clear HB;clear HK;clear HO_3;clear HO370;have HI0:=n0_;have HB:=n1_;have HK:=n2_;have HO374:=n3_;clear n0_ n1_ n2_ n3_;clear ho hb hg hat))
       go_roundg k2
       case measure=>have:=HJ3.out;have:=HK2.out;omega
       case rel=>exact ⟨(y372),(wrap64 (x5_2 + 1)),(t371),(by first | rfl | (simp;done) | (simp [*];done)),H',⟨by have:=HJ3.out;have:=HK2.out;omega⟩,⟨by (with_reducible repeat (first | apply Kd.N_alloc | apply Kd.N_drewN | apply Kd.N_drew));exact HO374.out⟩,⟨by repeat (first | (with_reducible first | exact HI0.out | apply IsS73.alloc | apply IsS73.drewN | apply IsS73.drew | apply IsS73.set_1) | exact HI0.out)⟩,⟨by repeat (first | (with_reducible first | exact HK.out | apply KeepBut.set_ | apply keep_drewN | apply keep_drew | apply keep_alloc) | exact HK.out)⟩,⟨by repeat (first | (with_reducible first | exact HB.out | apply below_alloc | apply pw_below_drewN | apply below_drew1 | refine below_set ?_ (IsS73.ge HI0.out)) | exact HB.out)⟩⟩
      ·rw [if_neg c13] at H
       exact absurd H (by simp)
     ·rw [if_neg c10] at H
      have c10b0:decide (x5_2 < x4_3) = false:=decide_eq_false c10
      clear c10
      simp only [Option.some.injEq,Prod.mk.injEq] at H
      obtain ⟨rfl,rfl⟩:=H
      go_wp2
      go_ret
      exact ⟨_,by first | rfl | (simp [errW_none,errW_some] <;> rfl) | (simp [*,errW_none,errW_some] <;> rfl),by (with_reducible repeat (first | apply Kd.N_alloc | apply Kd.N_drewN | apply Kd.N_drew));exact Kd.N_mono HO_3.out (fun _ hk=>hk.1),by repeat (first | (with_reducible first | exact HI0.out | apply IsS73.alloc | apply IsS73.drewN | apply IsS73.drew | apply IsS73.set_1) | exact HI0.out),by repeat (first | (with_reducible first | exact HB.out | apply below_alloc | apply pw_below_drewN | apply below_drew1 | refine below_set ?_ (IsS73.ge HI0.out)) | exact HB.out),by repeat (first | (with_reducible first | exact HK.out | apply KeepBut.set_ | apply keep_drewN | apply keep_drew | apply keep_alloc) | exact HK.out)⟩
def spec_DrawSealKnown.f (k:Nat) (l0:List Int):Option ((List (S25))):=(spec_l6Open.f l0).bind fun bt618=>((spec_l92Know.f k bt618.1 bt618.2).bind fun bt621=>(some bt621.1))
theorem spec_DrawSealKnown.mono:∀ a0 k,LeO (spec_DrawSealKnown.f k a0) (spec_DrawSealKnown.f (k + 1) a0):=by
 intro a0 k
 unfold spec_DrawSealKnown.f
 repeat' first
   | (with_reducible exact spec_l92Know.mono _ _ _)
   | (with_reducible exact LeO.refl _)
   | (with_reducible exact LeO.none _)
   | (with_reducible refine LeO.ite ?_ ?_)
   | (with_reducible refine LeO.bind ?_ (fun _=>?_))
   | exact spec_l92Know.mono _ _ _
   | exact LeO.none _
   | refine LeO.ite ?_ ?_
   | refine LeO.bind ?_ (fun _=>?_)
set_option maxHeartbeats 8000000 in
set_option maxRecDepth 100000 in
theorem spec_DrawSealKnown.calls (k:Nat) (A0:Option Addr) (c0:Nat) (l0:List Int) (r:List (S25)) (w:World) (hr0:Kd.C (Kd.int .u8) w A0 l0.length l0) (hc0:l0.length ≤ c0) (h:spec_DrawSealKnown.f k l0 = some r) :
  Calls Tryd.prog 31 #[.slice A0 l0.length c0] w fun e w'=>∃ v0_:Value,e = .returned (v0_)∧Kd.N k25 25 w' w.heap.size (fun k_=>(w.heap.size ≤ k_)) v0_ r∧Below w.heap.size w w':=by
 have HR0:=Aside0.mk hr0
 have HC0:=Aside0.mk hc0
 clear hr0 hc0
 have HB:=Aside0.mk (Below.refl w.heap.size w)
 have H:((spec_l6Open.f l0).bind fun bt618=>((spec_l92Know.f k bt618.1 bt618.2).bind fun bt621=>(some bt621.1))) = some r:=h
 clear h
 replace H:=Option.bind_eq_some_iff.mp H
 obtain ⟨⟨t618,t619⟩,A20,H⟩:=H
 replace H:((spec_l92Know.f k t618 t619).bind fun bt621=>(some bt621.1)) = some r:=H
 have A2:=Aside0.mk A20
 clear A20
 replace H:=Option.bind_eq_some_iff.mp H
 obtain ⟨⟨t621,t624⟩,A30,H⟩:=H
 replace H:(some t621) = some r:=H
 have A3:=Aside0.mk A30
 clear A30
 obtain rfl:=Option.some.inj H
 go_enter Tryd.func31,Tryd.ntmps31
 go_wp2_with (first | ((with_reducible refine gate_callee (f:=39) rfl ?_);refine goesL_ (some 6) rfl rfl Tryd.func39 (by kernel_rfl) rfl #[.slice A0 l0.length c0] rfl (by (try simp only [List.map_toArray,List.map_cons,List.map_nil]);first | done | rfl | (simp only [List.length_drop,List.length_take];rfl)) ?_;(with_reducible refine (spec_l6Open.calls _ _ l0 t618 t619 w _ ?side1 ?side2 ?side3 A2.out).mono ?_);(case side1=>repeat (first | (with_reducible first | exact HB.out | apply below_alloc | apply pw_below_drewN | apply below_drew1) | exact HB.out));(case side2=>exact HR0.out);(case side3=>exact HC0.out);rintro e w4 ⟨g620,rfl,hi,hb,hb2⟩;refine ⟨_,rfl,?_⟩;have n0_:=Aside0.mk (hb);have n1_:=Aside0.mk (hi);clear HB;have HB:=n0_;have HI620:=n1_;clear n0_ n1_;(try clear hb);(try clear hb2);(try clear hk);(try clear hi)) | ((with_reducible refine gate_callee (f:=56) rfl ?_);refine goesL_ (some 8) rfl rfl Tryd.func56 (by kernel_rfl) rfl #[.pointer (some ⟨g620,0,none⟩)] rfl (by (try simp only [List.map_toArray,List.map_cons,List.map_nil]);first | done | rfl | (simp only [List.length_drop,List.length_take];rfl)) ?_;(with_reducible refine (spec_l92Know.calls k g620 t618 t619 t621 t624 w _ ?side1 ?side2 A3.out).mono ?_);(case side1=>repeat (first | (with_reducible first | exact HI620.out | apply IsS73.alloc | apply IsS73.drewN | apply IsS73.drew | apply IsS73.set_1) | exact HI620.out));(case side2=>repeat (first | (with_reducible first | exact HB.out | apply below_alloc | apply pw_below_drewN | apply below_drew1 | refine below_set ?_ (IsS73.ge HI620.out)) | exact HB.out));rintro e w5 ⟨v622,rfl,ho0,hi,hb,hk⟩;refine ⟨_,rfl,?_⟩;have n0_:=Aside0.mk (Kd.N_lower (Kd.N_mono (ok':=fun k_=>(w.heap.size ≤ k_)∧k_ ≠ g620) ho0 (fun k_ hk_=>⟨(Nat.le_trans (below_size (by repeat (first | (with_reducible first | exact HB.out | apply below_alloc | apply pw_below_drewN | apply below_drew1 | refine below_set ?_ (IsS73.ge HI620.out)) | exact HB.out))) hk_),(IsS73.fresh (by repeat (first | (with_reducible first | exact HI620.out | apply IsS73.alloc | apply IsS73.drewN | apply IsS73.drew | apply IsS73.set_1) | exact HI620.out)) k_ hk_)⟩)) (below_size (by repeat (first | (with_reducible first | exact HB.out | apply below_alloc | apply pw_below_drewN | apply below_drew1 | refine below_set ?_ (IsS73.ge HI620.out)) | exact HB.out))));have n1_:=Aside0.mk (hb);have n2_:=Aside0.mk (hi);clear HB;clear HI620;have HO623:=n0_;have HB:=n1_;have HI620:=n2_;clear n0_ n1_ n2_;(try clear hb);(try clear hb2);(try clear hk);(try clear hi);(try clear ho0)))
 go_ret
 exact ⟨_,by first | rfl | (simp [errW_none,errW_some] <;> rfl) | (simp [*,errW_none,errW_some] <;> rfl),by (with_reducible repeat (first | apply Kd.N_alloc | apply Kd.N_drewN | apply Kd.N_drew));exact Kd.N_mono HO623.out (fun _ hk=>hk.1),by repeat (first | (with_reducible first | exact HB.out | apply below_alloc | apply pw_below_drewN | apply below_drew1 | refine below_set ?_ (IsS73.ge HI620.out)) | exact HB.out)⟩
end Go.Proofs.YtbcjpdahdecehaaDoor.P
