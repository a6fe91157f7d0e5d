/- What the Go functions that the laws reach compute, and that their calls come to just that: told by a program of this session (aprint.py). No condition. -/
import Derived.Test.YtnkgcjdlfenepaaP0
import Derived.Test.YtnkgcjdlfenepaaP1
import Derived.Test.YtnkgcjdlfenepaaP2
import Derived.Test.YtnkgcjdlfenepaaHShape
import Derived.Test.YtnkgcjdlfenepaaCut
namespace Go.Proofs.Ytnkgcjdlfenepaa.P
open Go.RowKit Go.Proofs.YtnkgcjdlfenepaaW.PrintWords Go.Proofs.YtnkgcjdlfenepaaW.PrintLast Go.Proofs.YtnkgcjdlfenepaaW.PrintMore
attribute [local go_sem] max2_int min2_int max_two min_two max_three min_three max_four min_four
set_option linter.unusedVariables false
set_option linter.unusedSimpArgs false
def spec_l92Clock.f:Nat → List Int → Int → Int → Option (Int × Int × (List (S29)) × Int)
 | 0,_,_,_=>none
 | k + 1,s0_0,s0_1,a1=>if a1 = 0 then (some (0,0,([]:List (S29)),s0_1)) else ((spec_l6Rd_pick.f k s0_0 s0_1 9).bind fun bt213=>(if bt213.1 < 3 then ((spec_l91Act.f k s0_0 bt213.2).bind fun bt215=>((spec_l92Clock.f k s0_0 bt215.2 (wrap64 (a1 - 1))).bind fun bt217=>(some (1,bt215.1,(([(⟨bt217.1,bt217.2.1,bt217.2.2.1⟩:S29)]:List (S29))),bt217.2.2.2)))) else (if bt213.1 < 6 then ((spec_l6Rd_pick.f k s0_0 bt213.2 4).bind fun bt226=>((spec_l6Rd_pick.f k s0_0 bt226.2 30).bind fun bt228=>(if bt228.1 = 0 then ((some (([0,10,9]:List Int):List Int)).bind fun y230=>((spec_l6Rd_pick.f k s0_0 bt228.2 3).bind fun bt233=>(if 0 ≤ bt233.1 then (if bt233.1 < (y230.length:Int) then ((spec_l92Clock.f k s0_0 bt233.2 (wrap64 (a1 - 1))).bind fun bt236=>(some (2,rd y230 bt233.1,(([(⟨bt236.1,bt236.2.1,bt236.2.2.1⟩:S29)]:List (S29))),bt236.2.2.2))) else (none)) else (none)))) else ((spec_l92Clock.f k s0_0 bt228.2 (wrap64 (a1 - 1))).bind fun bt245=>(some (2,wrap64 (1 + bt226.1),(([(⟨bt245.1,bt245.2.1,bt245.2.2.1⟩:S29)]:List (S29))),bt245.2.2.2)))))) else (if bt213.1 = 6 then (some (0,0,([]:List (S29)),bt213.2)) else (if bt213.1 = 8 then ((spec_l92Clock.f k s0_0 bt213.2 (wrap64 (a1 - 1))).bind fun bt254=>((spec_l92Clock.f k s0_0 bt254.2.2.2 (wrap64 (a1 - 1))).bind fun bt261=>(some (4,0,(([(⟨bt254.1,bt254.2.1,bt254.2.2.1⟩:S29),(⟨bt261.1,bt261.2.1,bt261.2.2.1⟩:S29)]:List (S29))),bt261.2.2.2)))) else ((spec_l92Clock.f k s0_0 bt213.2 (wrap64 (a1 - 1))).bind fun bt270=>((spec_l92Clock.f k s0_0 bt270.2.2.2 (wrap64 (a1 - 1))).bind fun bt277=>(some (3,0,(([(⟨bt270.1,bt270.2.1,bt270.2.2.1⟩:S29),(⟨bt277.1,bt277.2.1,bt277.2.2.1⟩:S29)]:List (S29))),bt277.2.2.2)))))))))
theorem spec_l92Clock.mono_l:∀ k,(∀ y0 y1 y2,LeO (spec_l92Clock.f k y0 y1 y2) (spec_l92Clock.f (k + 1) y0 y1 y2))
 | 0=>fun _ _ _ r h=>by simp [spec_l92Clock.f] at h
 | k + 1=>by
  have ih0:=spec_l92Clock.mono_l k
  ·intro y0 y1 y2
   unfold spec_l92Clock.f
   repeat' first
   | (with_reducible exact ih0 _ _ _)
   | (with_reducible exact spec_l6Rd_pick.mono _ _ _ _)
   | (with_reducible exact spec_l91Act.mono _ _ _)
   | (with_reducible exact LeO.refl _)
   | (with_reducible exact LeO.none _)
   | (with_reducible refine LeO.ite ?_ ?_)
   | (with_reducible refine LeO.bind ?_ (fun _=>?_))
   | exact ih0 _ _ _
   | exact spec_l6Rd_pick.mono _ _ _ _
   | exact spec_l91Act.mono _ _ _
   | exact LeO.none _
   | refine LeO.ite ?_ ?_
   | refine LeO.bind ?_ (fun _=>?_)
theorem spec_l92Clock.mono:∀ a0 a1 a2 k,LeO (spec_l92Clock.f k a0 a1 a2) (spec_l92Clock.f (k + 1) a0 a1 a2):=by
 intro a0 a1 a2 k
 have ih0:=spec_l92Clock.mono_l k
 exact ih0 a0 a1 a2
def spec_l92Clock.T18:Bool × List (List Nat × List Nat):=(true,[([],[]),([],[]),([],[]),([],[]),([3],[3]),([2,4],[2,4]),([1,5],[1,5]),([0,6],[0,6]),([7,5,0,1,2,3,4,5,6,7],[7])])
def spec_l92Clock.B18:List Nat:=[0,0,0,0,8,28,62,127,255]
theorem spec_l92Clock.tab18:rtab .any (opsOf Try.f61 18) = spec_l92Clock.T18:=by kernel_rfl
theorem spec_l92Clock.bits18:waitsOk spec_l92Clock.T18.2 spec_l92Clock.B18 = true:=by kernel_rfl
set_option maxHeartbeats 8000000 in
set_option maxRecDepth 100000 in
theorem spec_l92Clock.calls (k:Nat):∀ (g:Nat) (s0_0:List Int) (s0_1:Int) (a1:Int) (r1:Int) (r2:Int) (r3:List (S29)) (r4:Int) (w0 w:World) (hI:IsS67 w0 w g s0_0 s0_1) (hB:Below w0.heap.size w0 w) (h:spec_l92Clock.f k s0_0 s0_1 a1 = some (r1,r2,r3,r4)),
  Calls Try.prog 61 #[.pointer (some ⟨g,0,none⟩),.int .i64 a1] w fun e w'=>∃ v2_:Value,e = .returned (.agg #[.int .i64 r1,.int .i64 r2,v2_])∧Kd.N k29 29 w' w.heap.size (fun k_=>(w.heap.size ≤ k_)) v2_ r3∧IsS67 w0 w' g s0_0 r4∧Below w0.heap.size w0 w'∧KeepBut w w' g none:=by
 induction k using Nat.strongRecOn with
 | _ k ih =>
 intro g s0_0 s0_1 a1 r1 r2 r3 r4 w0 w hI hB h
 cases k with
 | zero=>exact absurd h (by simp [spec_l92Clock.f])
 | succ k =>
 simp only [spec_l92Clock.f] at h
 have hu29:=Try.underlying29
 have HI0:=aQ hI
 have HK:=aQ (KeepBut.refl w g none)
 have HL:=aQ hB.size
 clear hI
 have HW0:=aQ hB.size
 have HB:=aQ hB
 clear hB
 have H:=h
 clear h
 by_cases c3:a1 = 0
 ·rw [if_pos c3] at H
  have c3b0:(a1 == 0) = true:=beq_iff_eq.mpr c3
  have c3b1:(a1 != 0) = false:=bne_eq_false_iff_eq.mpr c3
  clear c3
  simp only [Option.some.injEq,Prod.mk.injEq] at H
  obtain ⟨rfl,rfl,rfl,rfl⟩:=H
  go_enter Try.func61,Try.ntmps61
  go_wp2_with (first | ((with_reducible refine gate_dst (N:=4) rfl ?_);refine box1 (N:=4) (cs:=#[.int .i64 0,.int .i64 0,.slice none 0 0]) (t:=29) ?_;intro gb212 hg w4 hbox hb;replace HB:=aQ (below_step bB hb);have BK212:=aQ (hbox);have GW212:=aQ ((by rw [hg];exact (keep_size (w:=w) (g:=g) (row:=none) bK):w.heap.size ≤ gb212));have GE212:=aQ ((Nat.le_trans HW0.out (by rw [hg];exact (keep_size (w:=w) (g:=g) (row:=none) bK):w.heap.size ≤ gb212):w0.heap.size ≤ gb212));replace HK:=aQ (KeepBut.trans bK (KeepBut.of_below hb g none) (.inl rfl));have NB0_212:=aQ ((by rw [hg];exact Nat.ne_of_lt (IsS67.lt (show IsS67 w0 _ g s0_0 s0_1 from bI)):g ≠ gb212));have NB212_0:=aQ ((by rw [hg];exact Nat.ne_of_gt (IsS67.lt (show IsS67 w0 _ g s0_0 s0_1 from bI)):gb212 ≠ g));replace HI0:=aQ (IsS67.below bI hb);clear hb hbox hg;have hnb5:=NB212_0.out;have hnc5:=NB0_212.out;have hcz6_0:w4.cell? ⟨gb212,0,none⟩ = some (.int .i64 0):=(blk_cell BK212.out 0).trans rfl;have hcz6_1:w4.cell? ⟨gb212,1,none⟩ = some (.int .i64 0):=(blk_cell BK212.out 1).trans rfl;have hcz6_2:w4.cell? ⟨gb212,2,none⟩ = some (.slice none 0 0):=(blk_cell BK212.out 2).trans rfl;have hfz6_0:=blk_frozen BK212.out 0;have hfz6_1:=blk_frozen BK212.out 1;have hfz6_2:=blk_frozen BK212.out 2))
  refine bodyPost_ret (results_cell_row rfl _ _ gb212 29 #[.int .i64 0,.int .i64 0,.slice none 0 0] (0,0) _ rfl (by (with_reducible repeat (first | refine blk_drewN ?_ _ | refine blk_drew ?_ | refine blk_alloc ?_ _));refine blk_put (cs:=#[.int .i64 0,.int .i64 0,.slice none 0 0]) ?_ 2 _ rfl;(with_reducible repeat (first | refine blk_drewN ?_ _ | refine blk_drew ?_ | refine blk_alloc ?_ _));refine blk_put (cs:=#[.int .i64 0,.int .i64 0,.slice none 0 0]) ?_ 1 _ rfl;(with_reducible repeat (first | refine blk_drewN ?_ _ | refine blk_drew ?_ | refine blk_alloc ?_ _));refine blk_put (cs:=#[.int .i64 0,.int .i64 0,.slice none 0 0]) ?_ 0 _ rfl;(with_reducible repeat (first | refine blk_drewN ?_ _ | refine blk_drew ?_ | refine blk_alloc ?_ _));exact BK212.out) Try.underlying29 rfl (by kernel_rfl)) rfl ?_
  exact ⟨_,rfl,by first | exact Kd.R_nil _ _ _ _ _ | exact Kd.N_nil _ _ _ _ _ | exact Kd.V_nil _ _ _ _ _ | exact Kd.Q_nil _ _ _ _ _ | exact Kd.S_nil _ _ _ _ _,bI,bB,bK⟩
 rw [if_neg c3] at H
 have c3b0:(a1 == 0) = false:=beq_eq_false_iff_ne.mpr c3
 have c3b1:(a1 != 0) = true:=bne_iff_ne.mpr c3
 obtain ⟨⟨t213,t214⟩,A7,H⟩:=bQ H
 dsimp only at H
 by_cases c8:t213 < 3
 ·rw [if_pos c8] at H
  have c8b0:decide (t213 < 3) = true:=decide_eq_true c8
  clear c8
  obtain ⟨⟨t215,t216⟩,A9,H⟩:=bQ H
  dsimp only at H
  obtain ⟨⟨t217,t218,t219,t222⟩,A10,H⟩:=bQ H
  dsimp only at H
  obtain ⟨y223,hy223⟩:∃ y_:List (S29),y_ = (([(⟨t217,t218,t219⟩:S29)]:List (S29))):=⟨_,rfl⟩
  replace H:(some (1,t215,y223,t222)) = some (r1,r2,r3,r4):=by rw [hy223];exact H
  have Ny223:=aQ hy223
  clear hy223
  simp only [Option.some.injEq,Prod.mk.injEq] at H
  obtain ⟨rfl,rfl,rfl,rfl⟩:=H
  go_enter Try.func61,Try.ntmps61
  go_wp2_with (first | ((with_reducible refine gate_dst (N:=4) rfl ?_);refine box1 (N:=4) (cs:=#[.int .i64 0,.int .i64 0,.slice none 0 0]) (t:=29) ?_;intro gb212 hg w11 hbox hb;replace HB:=aQ (below_step bB hb);have BK212:=aQ (hbox);have GW212:=aQ ((by rw [hg];exact (keep_size (w:=w) (g:=g) (row:=none) bK):w.heap.size ≤ gb212));have GE212:=aQ ((Nat.le_trans HW0.out (by rw [hg];exact (keep_size (w:=w) (g:=g) (row:=none) bK):w.heap.size ≤ gb212):w0.heap.size ≤ gb212));replace HK:=aQ (KeepBut.trans bK (KeepBut.of_below hb g none) (.inl rfl));have NB0_212:=aQ ((by rw [hg];exact Nat.ne_of_lt (IsS67.lt (show IsS67 w0 _ g s0_0 s0_1 from bI)):g ≠ gb212));have NB212_0:=aQ ((by rw [hg];exact Nat.ne_of_gt (IsS67.lt (show IsS67 w0 _ g s0_0 s0_1 from bI)):gb212 ≠ g));replace HI0:=aQ (IsS67.below bI hb);clear hb hbox hg) | ((with_reducible refine gate_callee (f:=56) rfl ?_);refine goesL_ (some 14) rfl rfl Try.func56 (by kernel_rfl) rfl #[.pointer (some ⟨g,0,none⟩),.int .i64 9] rfl mP ?_;(with_reducible refine (spec_l6Rd_pick.calls k g s0_0 s0_1 9 t213 t214 w0 _ ?side1 ?side2 A7.out).mono ?_);(case side1=>exact bI);(case side2=>exact bB);rintro e w12 ⟨rfl,hi,hb,hk⟩;refine ⟨_,rfl,?_⟩;replace BK212:=aQ (KeepBut.blk hk (g':=gb212) (o:=.cells #[.int .i64 0,.int .i64 0,.slice none 0 0] 29 (0,0)) (nB BK212.out) NB212_0.out (by simp));replace HK:=aQ (KeepBut.trans bK hk (.inl rfl));replace HB:=aQ (hb);replace HI0:=aQ (hi);(try clear hb);(try clear hk);(try clear hi)) | ((with_reducible refine gate_callee (f:=68) rfl ?_);refine goesL_ (some 19) rfl rfl Try.func68 (by kernel_rfl) rfl #[.pointer (some ⟨g,0,none⟩)] rfl mP ?_;(with_reducible refine (spec_l91Act.calls k g s0_0 t214 t215 t216 w0 _ ?side1 ?side2 A9.out).mono ?_);(case side1=>exact bI);(case side2=>exact bB);rintro e w13 ⟨rfl,hi,hb,hk⟩;refine ⟨_,rfl,?_⟩;replace BK212:=aQ (KeepBut.blk hk (g':=gb212) (o:=.cells #[.int .i64 0,.int .i64 0,.slice none 0 0] 29 (0,0)) (nB BK212.out) NB212_0.out (by simp));replace HK:=aQ (KeepBut.trans bK hk (.inl rfl));replace HB:=aQ (hb);replace HI0:=aQ (hi);(try clear hb);(try clear hk);(try clear hi)) | ((with_reducible refine gate_callee (f:=61) rfl ?_);refine goesL_ (some 24) rfl rfl Try.func61 (by kernel_rfl) rfl #[.pointer (some ⟨g,0,none⟩),.int .i64 (wrap64 (a1 - 1))] rfl mP ?_;(with_reducible refine (ih k (by omega) g s0_0 t216 (wrap64 (a1 - 1)) t217 t218 t219 t222 w0 _ ?side1 ?side2 A10.out).mono ?_);(case side1=>exact bI);(case side2=>exact bB);rintro e w14 ⟨v220,rfl,ho0,hi,hb,hk⟩;refine ⟨_,rfl,?_⟩;have HO221:=aQ (Kd.N_lower (Kd.N_mono (ok':=fun k_=>(w.heap.size ≤ k_)∧k_ ≠ gb212∧k_ ≠ g) ho0 (fun k_ hk_=>⟨(Nat.le_trans (keep_size (w:=w) (g:=g) (row:=none) bK) hk_),(Kd.freshB (g:=gb212) (o:=.cells #[.int .i64 0,.int .i64 0,.slice none 0 0] 29 (0,0)) (nB BK212.out) k_ hk_),(IsS67.fresh bI k_ hk_)⟩)) (keep_size (w:=w) (g:=g) (row:=none) bK));replace BK212:=aQ (KeepBut.blk hk (g':=gb212) (o:=.cells #[.int .i64 0,.int .i64 0,.slice none 0 0] 29 (0,0)) (nB BK212.out) NB212_0.out (by simp));replace HK:=aQ (KeepBut.trans bK hk (.inl rfl));replace HB:=aQ (hb);replace HI0:=aQ (hi);(try clear hb);(try clear hk);(try clear hi);(try clear ho0);obtain ⟨Ao15,co15,eo15⟩:=Kd.N_slice HO221.out;subst eo15) | ((with_reducible refine gate_dst (N:=25) rfl ?_);refine Kd.N_lit k29 _ 29 ?hg (N':=25) ?hd (xs:=([(⟨t217,t218,t219⟩:S29)]:List (S29))) (inner:=[.int .i64 t217,.int .i64 t218,.slice Ao15 t219.length co15]) (ok:=(fun k_=>(w.heap.size ≤ k_)∧k_ ≠ gb212∧k_ ≠ g)) (okp:=(fun k_=>(w.heap.size ≤ k_)∧k_ ≠ gb212∧k_ ≠ g)) ?hr ?hp (fun _ hk=>hk) ((show ∀ k_,w14.heap.size ≤ k_ → (fun k_=>(w.heap.size ≤ k_)∧k_ ≠ gb212∧k_ ≠ g) k_ from fun k_ hk=>⟨(Nat.le_trans (keep_size (w:=w) (g:=g) (row:=none) bK) hk),Kd.freshB (g:=gb212) (o:=.cells #[.int .i64 0,.int .i64 0,.slice none 0 0] 29 (0,0)) (nB BK212.out) k_ hk,IsS67.fresh bI k_ hk⟩) _ (Nat.le_refl _)) (Below.refl _ _) (Nat.le_refl _) (by simp) ?_;(case hd=>rfl);(case hg=>rfl);(case hr=>first | (go_simp;done) | (go_simp;rfl));(case hp=>exact (Reps.c3 (show Kd.FK k29 _ _ (⟨t217,t218,t219⟩:S29) [.int .i64 t217,.int .i64 t218,.slice Ao15 t219.length co15] from (k29_mkF _ _ (⟨t217,t218,t219⟩:S29) (Kd.N_reads' (Kd.N_mono (ok':=(fun k_=>(w.heap.size ≤ k_)∧k_ ≠ gb212∧k_ ≠ g)) (HO221.out) (fun k_ hk=>⟨hk.1,⟨hk.2.1,hk.2.2⟩⟩))).2.1 (Kd.N_F (Kd.N_mono (ok':=(fun k_=>(w.heap.size ≤ k_)∧k_ ≠ gb212∧k_ ≠ g)) (HO221.out) (fun k_ hk=>⟨hk.1,⟨hk.2.1,hk.2.2⟩⟩))))) (Reps.none _ _)));intro v224 w16 ho17 hb hg_ hnew_;clear hg_ hnew_;(first | rw [← Ny223.out] at ho17 | (simp only [Int.reduceToNat] at ho17;rw [← Ny223.out] at ho17));have n0_:=aQ (Kd.N_lower ho17 (keep_size (w:=w) (g:=g) (row:=none) bK));have n1_:=aQ (IsS67.below bI hb);have n2_:=aQ (blk_below (g:=gb212) (o:=.cells #[.int .i64 0,.int .i64 0,.slice none 0 0] 29 (0,0)) (nB BK212.out) hb);have n3_:=aQ (KeepBut.trans bK (KeepBut.of_below hb g none) (.inl rfl));have n4_:=aQ (below_step bB hb);clear HI0;clear BK212;clear HK;clear HB;clear HO221;have HO225:=n0_;have HI0:=n1_;have BK212:=n2_;have HK:=n3_;have HB:=n4_;clear n0_ n1_ n2_ n3_ n4_;clear hb ho17;obtain ⟨Ao18,co18,eo18⟩:=Kd.N_slice HO225.out;subst eo18;have hnb19:=NB212_0.out;have hnc19:=NB0_212.out;have hcz20_0:w16.cell? ⟨gb212,0,none⟩ = some (.int .i64 0):=(blk_cell BK212.out 0).trans rfl;have hcz20_1:w16.cell? ⟨gb212,1,none⟩ = some (.int .i64 0):=(blk_cell BK212.out 1).trans rfl;have hcz20_2:w16.cell? ⟨gb212,2,none⟩ = some (.slice none 0 0):=(blk_cell BK212.out 2).trans rfl;have hfz20_0:=blk_frozen BK212.out 0;have hfz20_1:=blk_frozen BK212.out 1;have hfz20_2:=blk_frozen BK212.out 2))
  refine bodyPost_ret (results_cell_row rfl _ _ gb212 29 #[.int .i64 1,.int .i64 t215,.slice Ao18 y223.length co18] (0,0) _ rfl (by (with_reducible repeat (first | refine blk_drewN ?_ _ | refine blk_drew ?_ | refine blk_alloc ?_ _));refine blk_put (cs:=#[.int .i64 1,.int .i64 t215,.slice none 0 0]) ?_ 2 _ rfl;(with_reducible repeat (first | refine blk_drewN ?_ _ | refine blk_drew ?_ | refine blk_alloc ?_ _));refine blk_put (cs:=#[.int .i64 1,.int .i64 0,.slice none 0 0]) ?_ 1 _ rfl;(with_reducible repeat (first | refine blk_drewN ?_ _ | refine blk_drew ?_ | refine blk_alloc ?_ _));refine blk_put (cs:=#[.int .i64 0,.int .i64 0,.slice none 0 0]) ?_ 0 _ rfl;(with_reducible repeat (first | refine blk_drewN ?_ _ | refine blk_drew ?_ | refine blk_alloc ?_ _));exact BK212.out) Try.underlying29 rfl (by kernel_rfl)) rfl ?_
  exact ⟨_,rfl,by (with_reducible repeat (first | apply Kd.N_alloc | apply Kd.N_drewN | apply Kd.N_drew));exact Kd.N_mono (nFN (g:=gb212) HO225.out (fun k_ hk=>hk.2.1)) (fun _ hk=>hk.1),bI,bB,bK⟩
 rw [if_neg c8] at H
 have c8b0:decide (t213 < 3) = false:=decide_eq_false c8
 clear c8
 by_cases c21:t213 < 6
 ·rw [if_pos c21] at H
  have c21b0:decide (t213 < 6) = true:=decide_eq_true c21
  clear c21
  obtain ⟨⟨t226,t227⟩,A22,H⟩:=bQ H
  dsimp only at H
  obtain ⟨⟨t228,t229⟩,A23,H⟩:=bQ H
  dsimp only at H
  by_cases c24:t228 = 0;rotate_left
  ·rw [if_neg c24] at H
   have c24b0:(t228 == 0) = false:=beq_eq_false_iff_ne.mpr c24
   have c24b1:(t228 != 0) = true:=bne_iff_ne.mpr c24
   obtain ⟨⟨t245,t246,t247,t250⟩,A44,H⟩:=bQ H
   dsimp only at H
   obtain ⟨y251,hy251⟩:∃ y_:List (S29),y_ = (([(⟨t245,t246,t247⟩:S29)]:List (S29))):=⟨_,rfl⟩
   replace H:(some (2,wrap64 (1 + t226),y251,t250)) = some (r1,r2,r3,r4):=by rw [hy251];exact H
   have Ny251:=aQ hy251
   clear hy251
   simp only [Option.some.injEq,Prod.mk.injEq] at H
   obtain ⟨rfl,rfl,rfl,rfl⟩:=H
   go_enter Try.func61,Try.ntmps61
   go_wp2_with (first | ((with_reducible refine gate_dst (N:=4) rfl ?_);refine box1 (N:=4) (cs:=#[.int .i64 0,.int .i64 0,.slice none 0 0]) (t:=29) ?_;intro gb212 hg w45 hbox hb;replace HB:=aQ (below_step bB hb);have BK212:=aQ (hbox);have GW212:=aQ ((by rw [hg];exact (keep_size (w:=w) (g:=g) (row:=none) bK):w.heap.size ≤ gb212));have GE212:=aQ ((Nat.le_trans HW0.out (by rw [hg];exact (keep_size (w:=w) (g:=g) (row:=none) bK):w.heap.size ≤ gb212):w0.heap.size ≤ gb212));replace HK:=aQ (KeepBut.trans bK (KeepBut.of_below hb g none) (.inl rfl));have NB0_212:=aQ ((by rw [hg];exact Nat.ne_of_lt (IsS67.lt (show IsS67 w0 _ g s0_0 s0_1 from bI)):g ≠ gb212));have NB212_0:=aQ ((by rw [hg];exact Nat.ne_of_gt (IsS67.lt (show IsS67 w0 _ g s0_0 s0_1 from bI)):gb212 ≠ g));replace HI0:=aQ (IsS67.below bI hb);clear hb hbox hg) | ((with_reducible refine gate_callee (f:=56) rfl ?_);refine goesL_ (some 14) rfl rfl Try.func56 (by kernel_rfl) rfl #[.pointer (some ⟨g,0,none⟩),.int .i64 9] rfl mP ?_;(with_reducible refine (spec_l6Rd_pick.calls k g s0_0 s0_1 9 t213 t214 w0 _ ?side1 ?side2 A7.out).mono ?_);(case side1=>exact bI);(case side2=>exact bB);rintro e w46 ⟨rfl,hi,hb,hk⟩;refine ⟨_,rfl,?_⟩;replace BK212:=aQ (KeepBut.blk hk (g':=gb212) (o:=.cells #[.int .i64 0,.int .i64 0,.slice none 0 0] 29 (0,0)) (nB BK212.out) NB212_0.out (by simp));replace HK:=aQ (KeepBut.trans bK hk (.inl rfl));replace HB:=aQ (hb);replace HI0:=aQ (hi);(try clear hb);(try clear hk);(try clear hi)) | ((with_reducible refine gate_callee (f:=56) rfl ?_);refine goesL_ (some 31) rfl rfl Try.func56 (by kernel_rfl) rfl #[.pointer (some ⟨g,0,none⟩),.int .i64 4] rfl mP ?_;(with_reducible refine (spec_l6Rd_pick.calls k g s0_0 t214 4 t226 t227 w0 _ ?side1 ?side2 A22.out).mono ?_);(case side1=>exact bI);(case side2=>exact bB);rintro e w47 ⟨rfl,hi,hb,hk⟩;refine ⟨_,rfl,?_⟩;replace BK212:=aQ (KeepBut.blk hk (g':=gb212) (o:=.cells #[.int .i64 0,.int .i64 0,.slice none 0 0] 29 (0,0)) (nB BK212.out) NB212_0.out (by simp));replace HK:=aQ (KeepBut.trans bK hk (.inl rfl));replace HB:=aQ (hb);replace HI0:=aQ (hi);(try clear hb);(try clear hk);(try clear hi)) | ((with_reducible refine gate_callee (f:=56) rfl ?_);refine goesL_ (some 34) rfl rfl Try.func56 (by kernel_rfl) rfl #[.pointer (some ⟨g,0,none⟩),.int .i64 30] rfl mP ?_;(with_reducible refine (spec_l6Rd_pick.calls k g s0_0 t227 30 t228 t229 w0 _ ?side1 ?side2 A23.out).mono ?_);(case side1=>exact bI);(case side2=>exact bB);rintro e w48 ⟨rfl,hi,hb,hk⟩;refine ⟨_,rfl,?_⟩;replace BK212:=aQ (KeepBut.blk hk (g':=gb212) (o:=.cells #[.int .i64 0,.int .i64 0,.slice none 0 0] 29 (0,0)) (nB BK212.out) NB212_0.out (by simp));replace HK:=aQ (KeepBut.trans bK hk (.inl rfl));replace HB:=aQ (hb);replace HI0:=aQ (hi);(try clear hb);(try clear hk);(try clear hi)) | ((with_reducible refine gate_callee (f:=61) rfl ?_);refine goesL_ (some 45) rfl rfl Try.func61 (by kernel_rfl) rfl #[.pointer (some ⟨g,0,none⟩),.int .i64 (wrap64 (a1 - 1))] rfl mP ?_;(with_reducible refine (ih k (by omega) g s0_0 t229 (wrap64 (a1 - 1)) t245 t246 t247 t250 w0 _ ?side1 ?side2 A44.out).mono ?_);(case side1=>exact bI);(case side2=>exact bB);rintro e w49 ⟨v248,rfl,ho0,hi,hb,hk⟩;refine ⟨_,rfl,?_⟩;have HO249:=aQ (Kd.N_lower (Kd.N_mono (ok':=fun k_=>(w.heap.size ≤ k_)∧k_ ≠ gb212∧k_ ≠ g) ho0 (fun k_ hk_=>⟨(Nat.le_trans (keep_size (w:=w) (g:=g) (row:=none) bK) hk_),(Kd.freshB (g:=gb212) (o:=.cells #[.int .i64 0,.int .i64 0,.slice none 0 0] 29 (0,0)) (nB BK212.out) k_ hk_),(IsS67.fresh bI k_ hk_)⟩)) (keep_size (w:=w) (g:=g) (row:=none) bK));replace BK212:=aQ (KeepBut.blk hk (g':=gb212) (o:=.cells #[.int .i64 0,.int .i64 0,.slice none 0 0] 29 (0,0)) (nB BK212.out) NB212_0.out (by simp));replace HK:=aQ (KeepBut.trans bK hk (.inl rfl));replace HB:=aQ (hb);replace HI0:=aQ (hi);(try clear hb);(try clear hk);(try clear hi);(try clear ho0);obtain ⟨Ao50,co50,eo50⟩:=Kd.N_slice HO249.out;subst eo50) | ((with_reducible refine gate_dst (N:=46) rfl ?_);refine Kd.N_lit k29 _ 29 ?hg (N':=46) ?hd (xs:=([(⟨t245,t246,t247⟩:S29)]:List (S29))) (inner:=[.int .i64 t245,.int .i64 t246,.slice Ao50 t247.length co50]) (ok:=(fun k_=>(w.heap.size ≤ k_)∧k_ ≠ gb212∧k_ ≠ g)) (okp:=(fun k_=>(w.heap.size ≤ k_)∧k_ ≠ gb212∧k_ ≠ g)) ?hr ?hp (fun _ hk=>hk) ((show ∀ k_,w49.heap.size ≤ k_ → (fun k_=>(w.heap.size ≤ k_)∧k_ ≠ gb212∧k_ ≠ g) k_ from fun k_ hk=>⟨(Nat.le_trans (keep_size (w:=w) (g:=g) (row:=none) bK) hk),Kd.freshB (g:=gb212) (o:=.cells #[.int .i64 0,.int .i64 0,.slice none 0 0] 29 (0,0)) (nB BK212.out) k_ hk,IsS67.fresh bI k_ hk⟩) _ (Nat.le_refl _)) (Below.refl _ _) (Nat.le_refl _) (by simp) ?_;(case hd=>rfl);(case hg=>rfl);(case hr=>first | (go_simp;done) | (go_simp;rfl));(case hp=>exact (Reps.c3 (show Kd.FK k29 _ _ (⟨t245,t246,t247⟩:S29) [.int .i64 t245,.int .i64 t246,.slice Ao50 t247.length co50] from (k29_mkF _ _ (⟨t245,t246,t247⟩:S29) (Kd.N_reads' (Kd.N_mono (ok':=(fun k_=>(w.heap.size ≤ k_)∧k_ ≠ gb212∧k_ ≠ g)) (HO249.out) (fun k_ hk=>⟨hk.1,⟨hk.2.1,hk.2.2⟩⟩))).2.1 (Kd.N_F (Kd.N_mono (ok':=(fun k_=>(w.heap.size ≤ k_)∧k_ ≠ gb212∧k_ ≠ g)) (HO249.out) (fun k_ hk=>⟨hk.1,⟨hk.2.1,hk.2.2⟩⟩))))) (Reps.none _ _)));intro v252 w51 ho52 hb hg_ hnew_;clear hg_ hnew_;(first | rw [← Ny251.out] at ho52 | (simp only [Int.reduceToNat] at ho52;rw [← Ny251.out] at ho52));have n0_:=aQ (Kd.N_lower ho52 (keep_size (w:=w) (g:=g) (row:=none) bK));have n1_:=aQ (IsS67.below bI hb);have n2_:=aQ (blk_below (g:=gb212) (o:=.cells #[.int .i64 0,.int .i64 0,.slice none 0 0] 29 (0,0)) (nB BK212.out) hb);have n3_:=aQ (KeepBut.trans bK (KeepBut.of_below hb g none) (.inl rfl));have n4_:=aQ (below_step bB hb);clear HI0;clear BK212;clear HK;clear HB;clear HO249;have HO253:=n0_;have HI0:=n1_;have BK212:=n2_;have HK:=n3_;have HB:=n4_;clear n0_ n1_ n2_ n3_ n4_;clear hb ho52;obtain ⟨Ao53,co53,eo53⟩:=Kd.N_slice HO253.out;subst eo53;have hnb54:=NB212_0.out;have hnc54:=NB0_212.out;have hcz55_0:w51.cell? ⟨gb212,0,none⟩ = some (.int .i64 0):=(blk_cell BK212.out 0).trans rfl;have hcz55_1:w51.cell? ⟨gb212,1,none⟩ = some (.int .i64 0):=(blk_cell BK212.out 1).trans rfl;have hcz55_2:w51.cell? ⟨gb212,2,none⟩ = some (.slice none 0 0):=(blk_cell BK212.out 2).trans rfl;have hfz55_0:=blk_frozen BK212.out 0;have hfz55_1:=blk_frozen BK212.out 1;have hfz55_2:=blk_frozen BK212.out 2))
   refine bodyPost_ret (results_cell_row rfl _ _ gb212 29 #[.int .i64 2,.int .i64 (wrap64 (1 + t226)),.slice Ao53 y251.length co53] (0,0) _ rfl (by (with_reducible repeat (first | refine blk_drewN ?_ _ | refine blk_drew ?_ | refine blk_alloc ?_ _));refine blk_put (cs:=#[.int .i64 2,.int .i64 (wrap64 (1 + t226)),.slice none 0 0]) ?_ 2 _ rfl;(with_reducible repeat (first | refine blk_drewN ?_ _ | refine blk_drew ?_ | refine blk_alloc ?_ _));refine blk_put (cs:=#[.int .i64 2,.int .i64 0,.slice none 0 0]) ?_ 1 _ rfl;(with_reducible repeat (first | refine blk_drewN ?_ _ | refine blk_drew ?_ | refine blk_alloc ?_ _));refine blk_put (cs:=#[.int .i64 0,.int .i64 0,.slice none 0 0]) ?_ 0 _ rfl;(with_reducible repeat (first | refine blk_drewN ?_ _ | refine blk_drew ?_ | refine blk_alloc ?_ _));exact BK212.out) Try.underlying29 rfl (by kernel_rfl)) rfl ?_
   exact ⟨_,rfl,by (with_reducible repeat (first | apply Kd.N_alloc | apply Kd.N_drewN | apply Kd.N_drew));exact Kd.N_mono (nFN (g:=gb212) HO253.out (fun k_ hk=>hk.2.1)) (fun _ hk=>hk.1),bI,bB,bK⟩
  rw [if_pos c24] at H
  have c24b0:(t228 == 0) = true:=beq_iff_eq.mpr c24
  have c24b1:(t228 != 0) = false:=bne_eq_false_iff_eq.mpr c24
  clear c24
  obtain ⟨y230,hy230⟩:∃ y_:List Int,y_ = (([0,10,9]:List Int)):=⟨_,rfl⟩
  replace H:((spec_l6Rd_pick.f k s0_0 t229 3).bind fun bt233=>(if 0 ≤ bt233.1 then (if bt233.1 < (y230.length:Int) then ((spec_l92Clock.f k s0_0 bt233.2 (wrap64 (a1 - 1))).bind fun bt236=>(some (2,rd y230 bt233.1,(([(⟨bt236.1,bt236.2.1,bt236.2.2.1⟩:S29)]:List (S29))),bt236.2.2.2))) else (none)) else (none))) = some (r1,r2,r3,r4):=by rw [hy230];exact H
  have Ny230:=aQ hy230
  clear hy230
  obtain ⟨⟨t233,t234⟩,A25,H⟩:=bQ H
  dsimp only at H
  by_cases c26:0 ≤ t233;rotate_left
  ·rw [if_neg c26] at H
   exact absurd H (by simp)
  rw [if_pos c26] at H
  have c26b0:decide (0 ≤ t233) = true:=decide_eq_true c26
  clear c26
  by_cases c27:t233 < (y230.length:Int);rotate_left
  ·rw [if_neg c27] at H
   exact absurd H (by simp)
  rw [if_pos c27] at H
  have c27b0:decide (t233 < (y230.length:Int)) = true:=decide_eq_true c27
  clear c27
  obtain ⟨⟨t236,t237,t238,t241⟩,A28,H⟩:=bQ H
  dsimp only at H
  obtain ⟨y242,hy242⟩:∃ y_:List (S29),y_ = (([(⟨t236,t237,t238⟩:S29)]:List (S29))):=⟨_,rfl⟩
  replace H:(some (2,rd y230 t233,y242,t241)) = some (r1,r2,r3,r4):=by rw [hy242];exact H
  have Ny242:=aQ hy242
  clear hy242
  simp only [Option.some.injEq,Prod.mk.injEq] at H
  obtain ⟨rfl,rfl,rfl,rfl⟩:=H
  go_enter Try.func61,Try.ntmps61
  go_wp2_with (first | ((with_reducible refine gate_dst (N:=4) rfl ?_);refine box1 (N:=4) (cs:=#[.int .i64 0,.int .i64 0,.slice none 0 0]) (t:=29) ?_;intro gb212 hg w29 hbox hb;replace HB:=aQ (below_step bB hb);have BK212:=aQ (hbox);have GW212:=aQ ((by rw [hg];exact (keep_size (w:=w) (g:=g) (row:=none) bK):w.heap.size ≤ gb212));have GE212:=aQ ((Nat.le_trans HW0.out (by rw [hg];exact (keep_size (w:=w) (g:=g) (row:=none) bK):w.heap.size ≤ gb212):w0.heap.size ≤ gb212));replace HK:=aQ (KeepBut.trans bK (KeepBut.of_below hb g none) (.inl rfl));have NB0_212:=aQ ((by rw [hg];exact Nat.ne_of_lt (IsS67.lt (show IsS67 w0 _ g s0_0 s0_1 from bI)):g ≠ gb212));have NB212_0:=aQ ((by rw [hg];exact Nat.ne_of_gt (IsS67.lt (show IsS67 w0 _ g s0_0 s0_1 from bI)):gb212 ≠ g));replace HI0:=aQ (IsS67.below bI hb);clear hb hbox hg) | ((with_reducible refine gate_callee (f:=56) rfl ?_);refine goesL_ (some 14) rfl rfl Try.func56 (by kernel_rfl) rfl #[.pointer (some ⟨g,0,none⟩),.int .i64 9] rfl mP ?_;(with_reducible refine (spec_l6Rd_pick.calls k g s0_0 s0_1 9 t213 t214 w0 _ ?side1 ?side2 A7.out).mono ?_);(case side1=>exact bI);(case side2=>exact bB);rintro e w30 ⟨rfl,hi,hb,hk⟩;refine ⟨_,rfl,?_⟩;replace BK212:=aQ (KeepBut.blk hk (g':=gb212) (o:=.cells #[.int .i64 0,.int .i64 0,.slice none 0 0] 29 (0,0)) (nB BK212.out) NB212_0.out (by simp));replace HK:=aQ (KeepBut.trans bK hk (.inl rfl));replace HB:=aQ (hb);replace HI0:=aQ (hi);(try clear hb);(try clear hk);(try clear hi)) | ((with_reducible refine gate_callee (f:=56) rfl ?_);refine goesL_ (some 31) rfl rfl Try.func56 (by kernel_rfl) rfl #[.pointer (some ⟨g,0,none⟩),.int .i64 4] rfl mP ?_;(with_reducible refine (spec_l6Rd_pick.calls k g s0_0 t214 4 t226 t227 w0 _ ?side1 ?side2 A22.out).mono ?_);(case side1=>exact bI);(case side2=>exact bB);rintro e w31 ⟨rfl,hi,hb,hk⟩;refine ⟨_,rfl,?_⟩;replace BK212:=aQ (KeepBut.blk hk (g':=gb212) (o:=.cells #[.int .i64 0,.int .i64 0,.slice none 0 0] 29 (0,0)) (nB BK212.out) NB212_0.out (by simp));replace HK:=aQ (KeepBut.trans bK hk (.inl rfl));replace HB:=aQ (hb);replace HI0:=aQ (hi);(try clear hb);(try clear hk);(try clear hi)) | ((with_reducible refine gate_callee (f:=56) rfl ?_);refine goesL_ (some 34) rfl rfl Try.func56 (by kernel_rfl) rfl #[.pointer (some ⟨g,0,none⟩),.int .i64 30] rfl mP ?_;(with_reducible refine (spec_l6Rd_pick.calls k g s0_0 t227 30 t228 t229 w0 _ ?side1 ?side2 A23.out).mono ?_);(case side1=>exact bI);(case side2=>exact bB);rintro e w32 ⟨rfl,hi,hb,hk⟩;refine ⟨_,rfl,?_⟩;replace BK212:=aQ (KeepBut.blk hk (g':=gb212) (o:=.cells #[.int .i64 0,.int .i64 0,.slice none 0 0] 29 (0,0)) (nB BK212.out) NB212_0.out (by simp));replace HK:=aQ (KeepBut.trans bK hk (.inl rfl));replace HB:=aQ (hb);replace HI0:=aQ (hi);(try clear hb);(try clear hk);(try clear hi)) | ((with_reducible refine gate_dst (N:=36) rfl ?_);refine Kd.R_lit (Kd.int .i64) _ 3 ?hg (N:=36) ?hd (xs:=([0,10,9]:List Int)) (inner:=[.int .i64 0,.int .i64 10,.int .i64 9]) (ok:=fun _=>True) (okp:=fun _=>True) ?hr ?hp (fun _ hk=>hk) trivial (Below.refl _ _) (Nat.le_refl _) (by simp) ?_;(case hd=>rfl);(case hg=>rfl);(case hr=>first | (go_simp;done) | (go_simp;rfl));(case hp=>exact (Reps.one (show Kd.M (Kd.int .i64) _ _ _ 0 [.int .i64 0] from rfl) (Reps.one (show Kd.M (Kd.int .i64) _ _ _ 10 [.int .i64 10] from rfl) (Reps.one (show Kd.M (Kd.int .i64) _ _ _ 9 [.int .i64 9] from rfl) (Reps.none _ _)))));intro v231 w33 ho34 hb hg_ hnew_;clear hg_ hnew_;(first | rw [← Ny230.out] at ho34 | (simp only [Int.reduceToNat] at ho34;rw [← Ny230.out] at ho34));have HO232:=aQ (Kd.R_lower (Kd.R_newM (M:=fun k_=>(w.heap.size ≤ k_)) ho34 (keep_size (w:=w) (g:=g) (row:=none) bK) (fun k_ h_=>h_)) (keep_size (w:=w) (g:=g) (row:=none) bK));replace HI0:=aQ (IsS67.below bI hb);replace BK212:=aQ (blk_below (g:=gb212) (o:=.cells #[.int .i64 0,.int .i64 0,.slice none 0 0] 29 (0,0)) (nB BK212.out) hb);replace HK:=aQ (KeepBut.trans bK (KeepBut.of_below hb g none) (.inl rfl));replace HB:=aQ (below_step bB hb);clear hb ho34) | ((with_reducible refine gate_callee (f:=56) rfl ?_);refine goesL_ (some 38) rfl rfl Try.func56 (by kernel_rfl) rfl #[.pointer (some ⟨g,0,none⟩),.int .i64 3] rfl mP ?_;(with_reducible refine (spec_l6Rd_pick.calls k g s0_0 t229 3 t233 t234 w0 _ ?side1 ?side2 A25.out).mono ?_);(case side1=>exact bI);(case side2=>exact bB);rintro e w35 ⟨rfl,hi,hb,hk⟩;refine ⟨_,rfl,?_⟩;replace BK212:=aQ (KeepBut.blk hk (g':=gb212) (o:=.cells #[.int .i64 0,.int .i64 0,.slice none 0 0] 29 (0,0)) (nB BK212.out) NB212_0.out (by simp));replace HO232:=aQ (Kd.R_mono (Kd.R_keep (IsS67.apart (show IsS67 w0 _ g s0_0 t229 from bI) (nR HO232.out) (by decide)) hk (fun _ h=>h.2)) (fun _ h=>h.1));replace HK:=aQ (KeepBut.trans bK hk (.inl rfl));replace HB:=aQ (hb);replace HI0:=aQ (hi);(try clear hb);(try clear hk);(try clear hi);obtain ⟨Ao36,co36,eo36⟩:=Kd.R_slice HO232.out;subst eo36;have p235:0 ≤ (t233:Int):=of_decide_eq_true (by first | (with_reducible assumption) | assumption);have q235:t233 < (y230.length:Int):=of_decide_eq_true (by first | (with_reducible assumption) | assumption);obtain ⟨ad235,e235,hx235_0⟩:=Kd.at_int (Kd.R_reads' HO232.out).2.2 t233 p235 q235;cases e235;replace p235:=eq_true p235;replace q235:=eq_true q235) | ((with_reducible refine gate_callee (f:=61) rfl ?_);refine goesL_ (some 45) rfl rfl Try.func61 (by kernel_rfl) rfl #[.pointer (some ⟨g,0,none⟩),.int .i64 (wrap64 (a1 - 1))] rfl mP ?_;(with_reducible refine (ih k (by omega) g s0_0 t234 (wrap64 (a1 - 1)) t236 t237 t238 t241 w0 _ ?side1 ?side2 A28.out).mono ?_);(case side1=>exact bI);(case side2=>exact bB);rintro e w37 ⟨v239,rfl,ho0,hi,hb,hk⟩;refine ⟨_,rfl,?_⟩;have HO240:=aQ (Kd.N_lower (Kd.N_mono (ok':=fun k_=>(w.heap.size ≤ k_)∧some k_ ≠ (.slice (some ad235) y230.length co36:Value).ownBlock∧k_ ≠ gb212∧k_ ≠ g) ho0 (fun k_ hk_=>⟨(Nat.le_trans (keep_size (w:=w) (g:=g) (row:=none) bK) hk_),(Kd.fresh' (Kd.R_lt (nR HO232.out)) k_ hk_),(Kd.freshB (g:=gb212) (o:=.cells #[.int .i64 0,.int .i64 0,.slice none 0 0] 29 (0,0)) (nB BK212.out) k_ hk_),(IsS67.fresh bI k_ hk_)⟩)) (keep_size (w:=w) (g:=g) (row:=none) bK));replace BK212:=aQ (KeepBut.blk hk (g':=gb212) (o:=.cells #[.int .i64 0,.int .i64 0,.slice none 0 0] 29 (0,0)) (nB BK212.out) NB212_0.out (by simp));replace HO232:=aQ (Kd.R_mono (Kd.R_keep (IsS67.apart (show IsS67 w0 _ g s0_0 t234 from bI) (nR HO232.out) (by decide)) hk (fun _ h=>h.2)) (fun _ h=>h.1));replace HK:=aQ (KeepBut.trans bK hk (.inl rfl));replace HB:=aQ (hb);replace HI0:=aQ (hi);(try clear hb);(try clear hk);(try clear hi);(try clear ho0);obtain ⟨Ao38,co38,eo38⟩:=Kd.N_slice HO240.out;subst eo38) | ((with_reducible refine gate_dst (N:=46) rfl ?_);refine Kd.N_lit k29 _ 29 ?hg (N':=46) ?hd (xs:=([(⟨t236,t237,t238⟩:S29)]:List (S29))) (inner:=[.int .i64 t236,.int .i64 t237,.slice Ao38 t238.length co38]) (ok:=(fun k_=>(w.heap.size ≤ k_)∧some k_ ≠ (.slice (some ad235) y230.length co36:Value).ownBlock∧k_ ≠ gb212∧k_ ≠ g)) (okp:=(fun k_=>(w.heap.size ≤ k_)∧some k_ ≠ (.slice (some ad235) y230.length co36:Value).ownBlock∧k_ ≠ gb212∧k_ ≠ g)) ?hr ?hp (fun _ hk=>hk) ((show ∀ k_,w37.heap.size ≤ k_ → (fun k_=>(w.heap.size ≤ k_)∧some k_ ≠ (.slice (some ad235) y230.length co36:Value).ownBlock∧k_ ≠ gb212∧k_ ≠ g) k_ from fun k_ hk=>⟨(Nat.le_trans (keep_size (w:=w) (g:=g) (row:=none) bK) hk),Kd.fresh' (Kd.R_lt (nR HO232.out)) k_ hk,Kd.freshB (g:=gb212) (o:=.cells #[.int .i64 0,.int .i64 0,.slice none 0 0] 29 (0,0)) (nB BK212.out) k_ hk,IsS67.fresh bI k_ hk⟩) _ (Nat.le_refl _)) (Below.refl _ _) (Nat.le_refl _) (by simp) ?_;(case hd=>rfl);(case hg=>rfl);(case hr=>first | (go_simp;done) | (go_simp;rfl));(case hp=>exact (Reps.c3 (show Kd.FK k29 _ _ (⟨t236,t237,t238⟩:S29) [.int .i64 t236,.int .i64 t237,.slice Ao38 t238.length co38] from (k29_mkF _ _ (⟨t236,t237,t238⟩:S29) (Kd.N_reads' (Kd.N_mono (ok':=(fun k_=>(w.heap.size ≤ k_)∧some k_ ≠ (.slice (some ad235) y230.length co36:Value).ownBlock∧k_ ≠ gb212∧k_ ≠ g)) (HO240.out) (fun k_ hk=>⟨hk.1,⟨hk.2.1,⟨hk.2.2.1,hk.2.2.2⟩⟩⟩))).2.1 (Kd.N_F (Kd.N_mono (ok':=(fun k_=>(w.heap.size ≤ k_)∧some k_ ≠ (.slice (some ad235) y230.length co36:Value).ownBlock∧k_ ≠ gb212∧k_ ≠ g)) (HO240.out) (fun k_ hk=>⟨hk.1,⟨hk.2.1,⟨hk.2.2.1,hk.2.2.2⟩⟩⟩))))) (Reps.none _ _)));intro v243 w39 ho40 hb hg_ hnew_;clear hg_ hnew_;(first | rw [← Ny242.out] at ho40 | (simp only [Int.reduceToNat] at ho40;rw [← Ny242.out] at ho40));have n0_:=aQ (Kd.R_below (nR HO232.out) hb);have n1_:=aQ (Kd.N_lower ho40 (keep_size (w:=w) (g:=g) (row:=none) bK));have n2_:=aQ (IsS67.below bI hb);have n3_:=aQ (blk_below (g:=gb212) (o:=.cells #[.int .i64 0,.int .i64 0,.slice none 0 0] 29 (0,0)) (nB BK212.out) hb);have n4_:=aQ (KeepBut.trans bK (KeepBut.of_below hb g none) (.inl rfl));have n5_:=aQ (below_step bB hb);clear HO232;clear HI0;clear BK212;clear HK;clear HB;clear HO240;have HO232:=n0_;have HO244:=n1_;have HI0:=n2_;have BK212:=n3_;have HK:=n4_;have HB:=n5_;clear n0_ n1_ n2_ n3_ n4_ n5_;clear hb ho40;obtain ⟨Ao41,co41,eo41⟩:=Kd.N_slice HO244.out;subst eo41;have hnb42:=NB212_0.out;have hnc42:=NB0_212.out;have hcz43_0:w39.cell? ⟨gb212,0,none⟩ = some (.int .i64 0):=(blk_cell BK212.out 0).trans rfl;have hcz43_1:w39.cell? ⟨gb212,1,none⟩ = some (.int .i64 0):=(blk_cell BK212.out 1).trans rfl;have hcz43_2:w39.cell? ⟨gb212,2,none⟩ = some (.slice none 0 0):=(blk_cell BK212.out 2).trans rfl;have hfz43_0:=blk_frozen BK212.out 0;have hfz43_1:=blk_frozen BK212.out 1;have hfz43_2:=blk_frozen BK212.out 2))
  refine bodyPost_ret (results_cell_row rfl _ _ gb212 29 #[.int .i64 2,.int .i64 (rd y230 t233),.slice Ao41 y242.length co41] (0,0) _ rfl (by (with_reducible repeat (first | refine blk_drewN ?_ _ | refine blk_drew ?_ | refine blk_alloc ?_ _));refine blk_put (cs:=#[.int .i64 2,.int .i64 (rd y230 t233),.slice none 0 0]) ?_ 2 _ rfl;(with_reducible repeat (first | refine blk_drewN ?_ _ | refine blk_drew ?_ | refine blk_alloc ?_ _));refine blk_put (cs:=#[.int .i64 2,.int .i64 0,.slice none 0 0]) ?_ 1 _ rfl;(with_reducible repeat (first | refine blk_drewN ?_ _ | refine blk_drew ?_ | refine blk_alloc ?_ _));refine blk_put (cs:=#[.int .i64 0,.int .i64 0,.slice none 0 0]) ?_ 0 _ rfl;(with_reducible repeat (first | refine blk_drewN ?_ _ | refine blk_drew ?_ | refine blk_alloc ?_ _));exact BK212.out) Try.underlying29 rfl (by kernel_rfl)) rfl ?_
  exact ⟨_,rfl,by (with_reducible repeat (first | apply Kd.N_alloc | apply Kd.N_drewN | apply Kd.N_drew));exact Kd.N_mono (nFN (g:=gb212) HO244.out (fun k_ hk=>hk.2.2.1)) (fun _ hk=>hk.1),bI,bB,bK⟩
 rw [if_neg c21] at H
 have c21b0:decide (t213 < 6) = false:=decide_eq_false c21
 clear c21
 by_cases c56:t213 = 6
 ·rw [if_pos c56] at H
  have c56b0:(t213 == 6) = true:=beq_iff_eq.mpr c56
  have c56b1:(t213 != 6) = false:=bne_eq_false_iff_eq.mpr c56
  clear c56
  simp only [Option.some.injEq,Prod.mk.injEq] at H
  obtain ⟨rfl,rfl,rfl,rfl⟩:=H
  go_enter Try.func61,Try.ntmps61
  go_wp2_with (first | ((with_reducible refine gate_dst (N:=4) rfl ?_);refine box1 (N:=4) (cs:=#[.int .i64 0,.int .i64 0,.slice none 0 0]) (t:=29) ?_;intro gb212 hg w57 hbox hb;replace HB:=aQ (below_step bB hb);have BK212:=aQ (hbox);have GW212:=aQ ((by rw [hg];exact (keep_size (w:=w) (g:=g) (row:=none) bK):w.heap.size ≤ gb212));have GE212:=aQ ((Nat.le_trans HW0.out (by rw [hg];exact (keep_size (w:=w) (g:=g) (row:=none) bK):w.heap.size ≤ gb212):w0.heap.size ≤ gb212));replace HK:=aQ (KeepBut.trans bK (KeepBut.of_below hb g none) (.inl rfl));have NB0_212:=aQ ((by rw [hg];exact Nat.ne_of_lt (IsS67.lt (show IsS67 w0 _ g s0_0 s0_1 from bI)):g ≠ gb212));have NB212_0:=aQ ((by rw [hg];exact Nat.ne_of_gt (IsS67.lt (show IsS67 w0 _ g s0_0 s0_1 from bI)):gb212 ≠ g));replace HI0:=aQ (IsS67.below bI hb);clear hb hbox hg) | ((with_reducible refine gate_callee (f:=56) rfl ?_);refine goesL_ (some 14) rfl rfl Try.func56 (by kernel_rfl) rfl #[.pointer (some ⟨g,0,none⟩),.int .i64 9] rfl mP ?_;(with_reducible refine (spec_l6Rd_pick.calls k g s0_0 s0_1 9 t213 t214 w0 _ ?side1 ?side2 A7.out).mono ?_);(case side1=>exact bI);(case side2=>exact bB);rintro e w58 ⟨rfl,hi,hb,hk⟩;refine ⟨_,rfl,?_⟩;replace BK212:=aQ (KeepBut.blk hk (g':=gb212) (o:=.cells #[.int .i64 0,.int .i64 0,.slice none 0 0] 29 (0,0)) (nB BK212.out) NB212_0.out (by simp));replace HK:=aQ (KeepBut.trans bK hk (.inl rfl));replace HB:=aQ (hb);replace HI0:=aQ (hi);(try clear hb);(try clear hk);(try clear hi);have hnb59:=NB212_0.out;have hnc59:=NB0_212.out;have hcz60_0:w58.cell? ⟨gb212,0,none⟩ = some (.int .i64 0):=(blk_cell BK212.out 0).trans rfl;have hcz60_1:w58.cell? ⟨gb212,1,none⟩ = some (.int .i64 0):=(blk_cell BK212.out 1).trans rfl;have hcz60_2:w58.cell? ⟨gb212,2,none⟩ = some (.slice none 0 0):=(blk_cell BK212.out 2).trans rfl;have hfz60_0:=blk_frozen BK212.out 0;have hfz60_1:=blk_frozen BK212.out 1;have hfz60_2:=blk_frozen BK212.out 2))
  refine bodyPost_ret (results_cell_row rfl _ _ gb212 29 #[.int .i64 0,.int .i64 0,.slice none 0 0] (0,0) _ rfl (by (with_reducible repeat (first | refine blk_drewN ?_ _ | refine blk_drew ?_ | refine blk_alloc ?_ _));refine blk_put (cs:=#[.int .i64 0,.int .i64 0,.slice none 0 0]) ?_ 2 _ rfl;(with_reducible repeat (first | refine blk_drewN ?_ _ | refine blk_drew ?_ | refine blk_alloc ?_ _));refine blk_put (cs:=#[.int .i64 0,.int .i64 0,.slice none 0 0]) ?_ 1 _ rfl;(with_reducible repeat (first | refine blk_drewN ?_ _ | refine blk_drew ?_ | refine blk_alloc ?_ _));refine blk_put (cs:=#[.int .i64 0,.int .i64 0,.slice none 0 0]) ?_ 0 _ rfl;(with_reducible repeat (first | refine blk_drewN ?_ _ | refine blk_drew ?_ | refine blk_alloc ?_ _));exact BK212.out) Try.underlying29 rfl (by kernel_rfl)) rfl ?_
  exact ⟨_,rfl,by first | exact Kd.R_nil _ _ _ _ _ | exact Kd.N_nil _ _ _ _ _ | exact Kd.V_nil _ _ _ _ _ | exact Kd.Q_nil _ _ _ _ _ | exact Kd.S_nil _ _ _ _ _,bI,bB,bK⟩
 rw [if_neg c56] at H
 have c56b0:(t213 == 6) = false:=beq_eq_false_iff_ne.mpr c56
 have c56b1:(t213 != 6) = true:=bne_iff_ne.mpr c56
 by_cases c61:t213 = 8;rotate_left
 ·rw [if_neg c61] at H
  have c61b0:(t213 == 8) = false:=beq_eq_false_iff_ne.mpr c61
  have c61b1:(t213 != 8) = true:=bne_iff_ne.mpr c61
  obtain ⟨⟨t270,t271,t272,t275⟩,A82,H⟩:=bQ H
  dsimp only at H
  obtain ⟨⟨t277,t278,t279,t282⟩,A83,H⟩:=bQ H
  dsimp only at H
  obtain ⟨y283,hy283⟩:∃ y_:List (S29),y_ = (([(⟨t270,t271,t272⟩:S29),(⟨t277,t278,t279⟩:S29)]:List (S29))):=⟨_,rfl⟩
  replace H:(some (3,0,y283,t282)) = some (r1,r2,r3,r4):=by rw [hy283];exact H
  have Ny283:=aQ hy283
  clear hy283
  simp only [Option.some.injEq,Prod.mk.injEq] at H
  obtain ⟨rfl,rfl,rfl,rfl⟩:=H
  go_enter Try.func61,Try.ntmps61
  try go_wp2_with (first | ((with_reducible refine gate_dst (N:=4) rfl ?_);refine box1 (N:=4) (cs:=#[.int .i64 0,.int .i64 0,.slice none 0 0]) (t:=29) ?_;intro gb212 hg w84 hbox hb;replace HB:=aQ (below_step bB hb);have BK212:=aQ (hbox);have GW212:=aQ ((by rw [hg];exact (keep_size (w:=w) (g:=g) (row:=none) bK):w.heap.size ≤ gb212));have GE212:=aQ ((Nat.le_trans HW0.out (by rw [hg];exact (keep_size (w:=w) (g:=g) (row:=none) bK):w.heap.size ≤ gb212):w0.heap.size ≤ gb212));replace HK:=aQ (KeepBut.trans bK (KeepBut.of_below hb g none) (.inl rfl));have NB0_212:=aQ ((by rw [hg];exact Nat.ne_of_lt (IsS67.lt (show IsS67 w0 _ g s0_0 s0_1 from bI)):g ≠ gb212));have NB212_0:=aQ ((by rw [hg];exact Nat.ne_of_gt (IsS67.lt (show IsS67 w0 _ g s0_0 s0_1 from bI)):gb212 ≠ g));replace HI0:=aQ (IsS67.below bI hb);clear hb hbox hg) | ((with_reducible refine gate_callee (f:=56) rfl ?_);refine goesL_ (some 14) rfl rfl Try.func56 (by kernel_rfl) rfl #[.pointer (some ⟨g,0,none⟩),.int .i64 9] rfl mP ?_;(with_reducible refine (spec_l6Rd_pick.calls k g s0_0 s0_1 9 t213 t214 w0 _ ?side1 ?side2 A7.out).mono ?_);(case side1=>exact bI);(case side2=>exact bB);rintro e w85 ⟨rfl,hi,hb,hk⟩;refine ⟨_,rfl,?_⟩;replace BK212:=aQ (KeepBut.blk hk (g':=gb212) (o:=.cells #[.int .i64 0,.int .i64 0,.slice none 0 0] 29 (0,0)) (nB BK212.out) NB212_0.out (by simp));replace HK:=aQ (KeepBut.trans bK hk (.inl rfl));replace HB:=aQ (hb);replace HI0:=aQ (hi);(try clear hb);(try clear hk);(try clear hi)) | ((with_reducible refine gate_callee (f:=61) rfl ?_);refine goesL_ (some 57) rfl rfl Try.func61 (by kernel_rfl) rfl #[.pointer (some ⟨g,0,none⟩),.int .i64 (wrap64 (a1 - 1))] rfl mP ?_;(with_reducible refine (ih k (by omega) g s0_0 t214 (wrap64 (a1 - 1)) t270 t271 t272 t275 w0 _ ?side1 ?side2 A82.out).mono ?_);(case side1=>exact bI);(case side2=>exact bB);rintro e w86 ⟨v273,rfl,ho0,hi,hb,hk⟩;refine ⟨_,rfl,?_⟩;have HO274:=aQ (Kd.N_lower (Kd.N_mono (ok':=fun k_=>(w.heap.size ≤ k_)∧k_ ≠ gb212∧k_ ≠ g) ho0 (fun k_ hk_=>⟨(Nat.le_trans (keep_size (w:=w) (g:=g) (row:=none) bK) hk_),(Kd.freshB (g:=gb212) (o:=.cells #[.int .i64 0,.int .i64 0,.slice none 0 0] 29 (0,0)) (nB BK212.out) k_ hk_),(IsS67.fresh bI k_ hk_)⟩)) (keep_size (w:=w) (g:=g) (row:=none) bK));replace BK212:=aQ (KeepBut.blk hk (g':=gb212) (o:=.cells #[.int .i64 0,.int .i64 0,.slice none 0 0] 29 (0,0)) (nB BK212.out) NB212_0.out (by simp));replace HK:=aQ (KeepBut.trans bK hk (.inl rfl));replace HB:=aQ (hb);replace HI0:=aQ (hi);(try clear hb);(try clear hk);(try clear hi);(try clear ho0)) | ((with_reducible refine gate_dst (N:=9) rfl ?_);refine box1 (N:=9) (cs:=#[.int .i64 0,.int .i64 0,.slice none 0 0]) (t:=29) ?_;intro gb276 hg w87 hbox hb;replace HO274:=aQ (Kd.N_below (Kd.N_elderB (nN HO274.out) gb276 (Nat.le_of_eq hg.symm)) hb);replace HB:=aQ (below_step bB hb);have BK276:=aQ (hbox);have GW276:=aQ ((by rw [hg];exact (keep_size (w:=w) (g:=g) (row:=none) bK):w.heap.size ≤ gb276));have GE276:=aQ ((Nat.le_trans HW0.out (by rw [hg];exact (keep_size (w:=w) (g:=g) (row:=none) bK):w.heap.size ≤ gb276):w0.heap.size ≤ gb276));replace HK:=aQ (KeepBut.trans bK (KeepBut.of_below hb g none) (.inl rfl));have NB212_276:=aQ ((by rw [hg];exact Nat.ne_of_lt (blk_lt (g:=gb212) (o:=.cells #[.int .i64 0,.int .i64 0,.slice none 0 0] 29 (0,0)) (nB BK212.out)):gb212 ≠ gb276));have NB276_212:=aQ ((by rw [hg];exact Nat.ne_of_gt (blk_lt (g:=gb212) (o:=.cells #[.int .i64 0,.int .i64 0,.slice none 0 0] 29 (0,0)) (nB BK212.out)):gb276 ≠ gb212));replace BK212:=aQ (blk_below (g:=gb212) (o:=.cells #[.int .i64 0,.int .i64 0,.slice none 0 0] 29 (0,0)) (nB BK212.out) hb);have NB0_276:=aQ ((by rw [hg];exact Nat.ne_of_lt (IsS67.lt (show IsS67 w0 _ g s0_0 t275 from bI)):g ≠ gb276));have NB276_0:=aQ ((by rw [hg];exact Nat.ne_of_gt (IsS67.lt (show IsS67 w0 _ g s0_0 t275 from bI)):gb276 ≠ g));replace HI0:=aQ (IsS67.below bI hb);clear hb hbox hg;have hnb88:=NB276_212.out;have hnc88:=NB212_276.out;have hnb89:=NB276_0.out;have hnc89:=NB0_276.out;have hcz90_0:w87.cell? ⟨gb276,0,none⟩ = some (.int .i64 0):=(blk_cell BK276.out 0).trans rfl;have hcz90_1:w87.cell? ⟨gb276,1,none⟩ = some (.int .i64 0):=(blk_cell BK276.out 1).trans rfl;have hcz90_2:w87.cell? ⟨gb276,2,none⟩ = some (.slice none 0 0):=(blk_cell BK276.out 2).trans rfl;have hfz90_0:=blk_frozen BK276.out 0;have hfz90_1:=blk_frozen BK276.out 1;have hfz90_2:=blk_frozen BK276.out 2;obtain ⟨Ao91,co91,eo91⟩:=Kd.N_slice HO274.out;subst eo91))
  have n0_:Aside0 (Kd.N k29 29 (((w87.setCell ⟨gb276,0,none⟩ (.int .i64 t270)).setCell ⟨gb276,1,none⟩ (.int .i64 t271)).setCell ⟨gb276,2,none⟩ (.slice Ao91 t272.length co91)) w.heap.size (fun k_=>(w.heap.size ≤ k_)∧k_ ≠ gb212∧k_ ≠ g∧k_ ≠ gb276) (.slice Ao91 t272.length co91) t272):=⟨Kd.N_mono (nFN (g:=gb276) HO274.out (fun k_ hk=>hk.2)) (fun _ hk=>⟨hk.1.1,⟨hk.1.2.1,⟨hk.1.2.2,hk.2⟩⟩⟩)⟩
  have n1_:Aside0 ((((w87.setCell ⟨gb276,0,none⟩ (.int .i64 t270)).setCell ⟨gb276,1,none⟩ (.int .i64 t271)).setCell ⟨gb276,2,none⟩ (.slice Ao91 t272.length co91)).heap[gb212]? = some (.cells #[.int .i64 0,.int .i64 0,.slice none 0 0] 29 (0,0))):=⟨bF⟩
  have n2_:Aside0 ((((w87.setCell ⟨gb276,0,none⟩ (.int .i64 t270)).setCell ⟨gb276,1,none⟩ (.int .i64 t271)).setCell ⟨gb276,2,none⟩ (.slice Ao91 t272.length co91)).heap[gb276]? = some (.cells #[.int .i64 t270,.int .i64 t271,.slice Ao91 t272.length co91] 29 (0,0))):=⟨by (with_reducible repeat (first | refine blk_drewN ?_ _ | refine blk_drew ?_ | refine blk_alloc ?_ _));refine blk_put (cs:=#[.int .i64 t270,.int .i64 t271,.slice none 0 0]) ?_ 2 _ rfl;(with_reducible repeat (first | refine blk_drewN ?_ _ | refine blk_drew ?_ | refine blk_alloc ?_ _));refine blk_put (cs:=#[.int .i64 t270,.int .i64 0,.slice none 0 0]) ?_ 1 _ rfl;(with_reducible repeat (first | refine blk_drewN ?_ _ | refine blk_drew ?_ | refine blk_alloc ?_ _));refine blk_put (cs:=#[.int .i64 0,.int .i64 0,.slice none 0 0]) ?_ 0 _ rfl;(with_reducible repeat (first | refine blk_drewN ?_ _ | refine blk_drew ?_ | refine blk_alloc ?_ _));exact BK276.out⟩
  have n3_:Aside0 (IsS67 w0 (((w87.setCell ⟨gb276,0,none⟩ (.int .i64 t270)).setCell ⟨gb276,1,none⟩ (.int .i64 t271)).setCell ⟨gb276,2,none⟩ (.slice Ao91 t272.length co91)) g s0_0 t275):=⟨bI⟩
  have n4_:Aside0 (KeepBut w (((w87.setCell ⟨gb276,0,none⟩ (.int .i64 t270)).setCell ⟨gb276,1,none⟩ (.int .i64 t271)).setCell ⟨gb276,2,none⟩ (.slice Ao91 t272.length co91)) g none):=⟨bK⟩
  have n5_:Aside0 (Below w0.heap.size w0 (((w87.setCell ⟨gb276,0,none⟩ (.int .i64 t270)).setCell ⟨gb276,1,none⟩ (.int .i64 t271)).setCell ⟨gb276,2,none⟩ (.slice Ao91 t272.length co91))):=⟨bB⟩
  (try clear HO274)
  (try clear BK212)
  (try clear BK276)
  (try clear HI0)
  (try clear HK)
  (try clear HB)
  generalize (((w87.setCell ⟨gb276,0,none⟩ (.int .i64 t270)).setCell ⟨gb276,1,none⟩ (.int .i64 t271)).setCell ⟨gb276,2,none⟩ (.slice Ao91 t272.length co91)) = w92 at n0_ n1_ n2_ n3_ n4_ n5_ ⊢
  have HO274:=n0_
  have BK212:=n1_
  have BK276:=n2_
  have HI0:=n3_
  have HK:=n4_
  have HB:=n5_
  clear n0_ n1_ n2_ n3_ n4_ n5_
  replace HO274:=aQ (Kd.N_drew HO274.out)
  replace BK212:=aQ (blk_drew BK212.out)
  replace BK276:=aQ (blk_drew BK276.out)
  replace HI0:=aQ (IsS67.drew HI0.out)
  replace HK:=aQ (keep_drew HK.out)
  replace HB:=aQ (below_drew1 HB.out)
  refine start_ (n:=9) (S:=fun w'=>w'.cell? ⟨gb276,0,none⟩ = some (.int .i64 t270)∧w'.cell? ⟨gb276,1,none⟩ = some (.int .i64 t271)∧w'.cell? ⟨gb276,2,none⟩ = some (.slice Ao91 t272.length co91)) (ds:=[]) #[false,false,false,false,false,false,false,false,false] (by kernel_rfl) rfl rfl ⟨(blk_cell BK276.out 0).trans rfl,(blk_cell BK276.out 1).trans rfl,(blk_cell BK276.out 2).trans rfl⟩ (fun hHeld=>?_);refine with_tabW spec_l92Clock.tab18 spec_l92Clock.bits18 (fun HT_ HW_=>?_)
  generalize w92.drew = w93 at HO274 BK212 BK276 HI0 HK HB hHeld ⊢
  refine pur (i:=0) (N:=some 58) #[true,false,false,false,false,false,false,false,false] ?_
  refine pur (i:=2) (N:=some 60) #[true,false,true,false,false,false,false,false,false] ?_
  refine pur (i:=3) (N:=some 61) #[true,false,true,true,false,false,false,false,false] ?_
  refine pur (i:=4) (N:=some 62) #[true,false,true,true,true,false,false,false,false] ?_
  refine tak (i:=1) (N:=some 59) #[true,true,true,true,true,false,false,false,false] ?_
  refine one_ (i:=5) (N:=some 63) #[true,true,true,true,true,true,false,false,false] rfl rfl (one_of HT_.out (by kernel_rfl)) (by decide) (fun K hK=>?_)
  refine goes1 Try.func61 #[.pointer (some ⟨g,0,none⟩),.int .i64 (wrap64 (a1 - 1))] ?_
  with_reducible refine (ih k (by omega) g s0_0 t275 (wrap64 (a1 - 1)) t277 t278 t279 t282 w0 _ ?side1 ?side2 A83.out).mono ?_
  (case side1=>exact bI)
  (case side2=>exact bB)
  rintro e w94 ⟨v280,rfl,ho0,hi,hb,hk⟩
  refine ⟨_,rfl,?_⟩
  have HO281:=aQ (Kd.N_lower (Kd.N_mono (ok':=fun k_=>(w.heap.size ≤ k_)∧some k_ ≠ (.slice Ao91 t272.length co91:Value).ownBlock∧k_ ≠ gb212∧k_ ≠ gb276∧k_ ≠ g) ho0 (fun k_ hk_=>⟨(Nat.le_trans (keep_size (w:=w) (g:=g) (row:=none) bK) hk_),(Kd.fresh' (Kd.N_lt (nN HO274.out)) k_ hk_),(Kd.freshB (g:=gb212) (o:=.cells #[.int .i64 0,.int .i64 0,.slice none 0 0] 29 (0,0)) (nB BK212.out) k_ hk_),(Kd.freshB (g:=gb276) (o:=.cells #[.int .i64 t270,.int .i64 t271,.slice Ao91 t272.length co91] 29 (0,0)) (nB BK276.out) k_ hk_),(IsS67.fresh bI k_ hk_)⟩)) (keep_size (w:=w) (g:=g) (row:=none) bK))
  replace BK212:=aQ (KeepBut.blk hk (g':=gb212) (o:=.cells #[.int .i64 0,.int .i64 0,.slice none 0 0] 29 (0,0)) (nB BK212.out) NB212_0.out (by simp))
  replace HO274:=aQ (Kd.N_mono (Kd.N_told (Kd.N_oldK (Kd.N_mono (ok:=fun k_=>(((w.heap.size ≤ k_))∧(k_ ≠ gb212∧(k_ ≠ g∧k_ ≠ gb276)))) (nN HO274.out) (fun k_ hk_=>(⟨hk_,hk_.2.2.1⟩:_∧k_ ≠ g))) hk) (Kd.N_base ho0)) (fun _ h_=>h_.1))
  replace BK276:=aQ (KeepBut.blk hk (g':=gb276) (o:=.cells #[.int .i64 t270,.int .i64 t271,.slice Ao91 t272.length co91] 29 (0,0)) (nB BK276.out) NB276_0.out (by simp))
  replace HK:=aQ (KeepBut.trans bK hk (.inl rfl))
  replace HB:=aQ (hb)
  replace HI0:=aQ (hi)
  (try clear hb)
  (try clear hk)
  (try clear hi)
  (try clear ho0)
  obtain ⟨Ao95,co95,eo95⟩:=Kd.N_slice HO281.out
  (first | subst eo95 | (injection eo95 with f1_ f2_ f3_;have f4_:=f1_.symm;have f5_:=f3_.symm;clear f1_ f2_ f3_;subst f4_;subst f5_))
  refine hK.out _ _ ⟨(blk_cell BK276.out 0).trans rfl,(blk_cell BK276.out 1).trans rfl,(blk_cell BK276.out 2).trans rfl⟩ (fun hHeld=>?_)
  clear hK K
  refine nrm (N:=some 63) ?_
  refine one_ (i:=6) (N:=some 64) #[true,true,true,true,true,true,true,false,false] rfl rfl (one_of HT_.out (by kernel_rfl)) (by decide) (fun K hK=>?_)
  refine Kd.N_lit_step k29 _ 29 ?hg (N':=64) ?hd (xs:=([(⟨t270,t271,t272⟩:S29),(⟨t277,t278,t279⟩:S29)]:List (S29))) (inner:=[.int .i64 t270,.int .i64 t271,.slice Ao91 t272.length co91,.int .i64 t277,.int .i64 t278,.slice Ao95 t279.length co95]) (ok:=(fun k_=>(w.heap.size ≤ k_)∧k_ ≠ gb212∧k_ ≠ gb276∧k_ ≠ g)) (okp:=(fun k_=>(w.heap.size ≤ k_)∧k_ ≠ gb212∧k_ ≠ gb276∧k_ ≠ g)) ?hr ?hp (fun _ hk=>hk) ((show ∀ k_,w94.heap.size ≤ k_ → (fun k_=>(w.heap.size ≤ k_)∧k_ ≠ gb212∧k_ ≠ gb276∧k_ ≠ g) k_ from fun k_ hk=>⟨(Nat.le_trans (keep_size (w:=w) (g:=g) (row:=none) bK) hk),Kd.freshB (g:=gb212) (o:=.cells #[.int .i64 0,.int .i64 0,.slice none 0 0] 29 (0,0)) (nB BK212.out) k_ hk,Kd.freshB (g:=gb276) (o:=.cells #[.int .i64 t270,.int .i64 t271,.slice Ao91 t272.length co91] 29 (0,0)) (nB BK276.out) k_ hk,IsS67.fresh bI k_ hk⟩) _ (Nat.le_refl _)) (Below.refl _ _) (Nat.le_refl _) (by simp) ?_;(case hd=>rfl);(case hg=>rfl);(case hr=>first | (go_simp;done) | (go_simp;rfl));(case hp=>exact (Reps.c3 (show Kd.FK k29 _ _ (⟨t270,t271,t272⟩:S29) [.int .i64 t270,.int .i64 t271,.slice Ao91 t272.length co91] from (k29_mkF _ _ (⟨t270,t271,t272⟩:S29) (Kd.N_reads' (Kd.N_mono (ok':=(fun k_=>(w.heap.size ≤ k_)∧k_ ≠ gb212∧k_ ≠ gb276∧k_ ≠ g)) (HO274.out) (fun k_ hk=>⟨hk.1.1,⟨hk.1.2.1,⟨hk.1.2.2.2,hk.1.2.2.1⟩⟩⟩))).2.1 (Kd.N_F (Kd.N_mono (ok':=(fun k_=>(w.heap.size ≤ k_)∧k_ ≠ gb212∧k_ ≠ gb276∧k_ ≠ g)) (HO274.out) (fun k_ hk=>⟨hk.1.1,⟨hk.1.2.1,⟨hk.1.2.2.2,hk.1.2.2.1⟩⟩⟩))))) (Reps.c3 (show Kd.FK k29 _ _ (⟨t277,t278,t279⟩:S29) [.int .i64 t277,.int .i64 t278,.slice Ao95 t279.length co95] from (k29_mkF _ _ (⟨t277,t278,t279⟩:S29) (Kd.N_reads' (Kd.N_mono (ok':=(fun k_=>(w.heap.size ≤ k_)∧k_ ≠ gb212∧k_ ≠ gb276∧k_ ≠ g)) (HO281.out) (fun k_ hk=>⟨hk.1,⟨hk.2.2.1,⟨hk.2.2.2.1,hk.2.2.2.2⟩⟩⟩))).2.1 (Kd.N_F (Kd.N_mono (ok':=(fun k_=>(w.heap.size ≤ k_)∧k_ ≠ gb212∧k_ ≠ gb276∧k_ ≠ g)) (HO281.out) (fun k_ hk=>⟨hk.1,⟨hk.2.2.1,⟨hk.2.2.2.1,hk.2.2.2.2⟩⟩⟩))))) (Reps.none _ _))))
  intro v284 w96 ho97 hb hg_ hnew_
  clear hg_ hnew_
  (first | rw [← Ny283.out] at ho97 | (simp only [Int.reduceToNat] at ho97;rw [← Ny283.out] at ho97))
  have n0_:=aQ (Kd.N_lower ho97 (keep_size (w:=w) (g:=g) (row:=none) bK))
  have n1_:=aQ (IsS67.below bI hb)
  have n2_:=aQ (blk_below (g:=gb212) (o:=.cells #[.int .i64 0,.int .i64 0,.slice none 0 0] 29 (0,0)) (nB BK212.out) hb)
  have n3_:=aQ (blk_below (g:=gb276) (o:=.cells #[.int .i64 t270,.int .i64 t271,.slice Ao91 t272.length co91] 29 (0,0)) (nB BK276.out) hb)
  have n4_:=aQ (KeepBut.trans bK (KeepBut.of_below hb g none) (.inl rfl))
  have n5_:=aQ (below_step bB hb)
  clear HI0 BK212 BK276 HK HB HO274 HO281
  have HO285:=n0_
  have HI0:=n1_
  have BK212:=n2_
  have BK276:=n3_
  have HK:=n4_
  have HB:=n5_
  clear n0_ n1_ n2_ n3_ n4_ n5_
  clear hb ho97
  obtain ⟨Ao98,co98,eo98⟩:=Kd.N_slice HO285.out
  (first | subst eo98 | (injection eo98 with f1_ f2_ f3_;have f4_:=f1_.symm;have f5_:=f3_.symm;clear f1_ f2_ f3_;subst f4_;subst f5_))
  refine hK.out _ _ ⟨(blk_cell BK276.out 0).trans rfl,(blk_cell BK276.out 1).trans rfl,(blk_cell BK276.out 2).trans rfl⟩ (fun hHeld=>?_)
  clear hK K
  refine nrm (N:=some 64) ?_
  refine pur (i:=7) (N:=some 65) #[true,true,true,true,true,true,true,true,false] ?_
  refine one_ (i:=8) (N:=none) #[true,true,true,true,true,true,true,true,true] rfl rfl (one_of HT_.out (by kernel_rfl)) (by decide) (fun K hK=>?_)
  have hs99:w96.cell? ⟨gb212,0,none⟩ = some (.int .i64 0):=(blk_cell BK212.out 0).trans rfl
  have hfs99:=blk_frozen BK212.out 0
  have hns99_1:=NB276_212.out
  have hms99_1:=NB212_276.out
  have hs100:w96.cell? ⟨gb212,1,none⟩ = some (.int .i64 0):=(blk_cell BK212.out 1).trans rfl
  have hfs100:=blk_frozen BK212.out 1
  have hns100_1:=NB276_212.out
  have hms100_1:=NB212_276.out
  have hs101:w96.cell? ⟨gb212,2,none⟩ = some (.slice none 0 0):=(blk_cell BK212.out 2).trans rfl
  have hfs101:=blk_frozen BK212.out 2
  have hns101_1:=NB276_212.out
  have hms101_1:=NB212_276.out
  refine skip_ (w1:=?_) (by rfl) rfl ?_ ?_
  rotate_left
  ·go_simp
   rfl
  refine hK.out _ _ ⟨((cell_far (p:=⟨gb212,_,none⟩) NB276_212.out _).trans (((cell_far (p:=⟨gb212,_,none⟩) NB276_212.out _).trans (((cell_far (p:=⟨gb212,_,none⟩) NB276_212.out _).trans (hHeld.1)))))),((cell_far (p:=⟨gb212,_,none⟩) NB276_212.out _).trans (((cell_far (p:=⟨gb212,_,none⟩) NB276_212.out _).trans (((cell_far (p:=⟨gb212,_,none⟩) NB276_212.out _).trans (hHeld.2.1)))))),((cell_far (p:=⟨gb212,_,none⟩) NB276_212.out _).trans (((cell_far (p:=⟨gb212,_,none⟩) NB276_212.out _).trans (((cell_far (p:=⟨gb212,_,none⟩) NB276_212.out _).trans (hHeld.2.2))))))⟩ (fun hHeld=>?_)
  clear hK K
  refine done_ (done_of HT_.out (by kernel_rfl)) ?_
  try go_wp2
  refine bodyPost_ret (results_cell_row rfl _ _ gb212 29 #[.int .i64 3,.int .i64 0,.slice Ao98 y283.length co98] (0,0) _ rfl (by (with_reducible repeat (first | refine blk_drewN ?_ _ | refine blk_drew ?_ | refine blk_alloc ?_ _));refine blk_put (cs:=#[.int .i64 3,.int .i64 0,.slice none 0 0]) ?_ 2 _ rfl;(with_reducible repeat (first | refine blk_drewN ?_ _ | refine blk_drew ?_ | refine blk_alloc ?_ _));refine blk_put (cs:=#[.int .i64 3,.int .i64 0,.slice none 0 0]) ?_ 1 _ rfl;(with_reducible repeat (first | refine blk_drewN ?_ _ | refine blk_drew ?_ | refine blk_alloc ?_ _));refine blk_put (cs:=#[.int .i64 0,.int .i64 0,.slice none 0 0]) ?_ 0 _ rfl;(with_reducible repeat (first | refine blk_drewN ?_ _ | refine blk_drew ?_ | refine blk_alloc ?_ _));exact BK212.out) Try.underlying29 rfl (by kernel_rfl)) rfl ?_
  exact ⟨_,rfl,by (with_reducible repeat (first | apply Kd.N_alloc | apply Kd.N_drewN | apply Kd.N_drew));exact Kd.N_mono (nFN (g:=gb212) HO285.out (fun k_ hk=>hk.2.1)) (fun _ hk=>hk.1),bI,bB,bK⟩
 rw [if_pos c61] at H
 have c61b0:(t213 == 8) = true:=beq_iff_eq.mpr c61
 have c61b1:(t213 != 8) = false:=bne_eq_false_iff_eq.mpr c61
 clear c61
 obtain ⟨⟨t254,t255,t256,t259⟩,A62,H⟩:=bQ H
 dsimp only at H
 obtain ⟨⟨t261,t262,t263,t266⟩,A63,H⟩:=bQ H
 dsimp only at H
 obtain ⟨y267,hy267⟩:∃ y_:List (S29),y_ = (([(⟨t254,t255,t256⟩:S29),(⟨t261,t262,t263⟩:S29)]:List (S29))):=⟨_,rfl⟩
 replace H:(some (4,0,y267,t266)) = some (r1,r2,r3,r4):=by rw [hy267];exact H
 have Ny267:=aQ hy267
 clear hy267
 simp only [Option.some.injEq,Prod.mk.injEq] at H
 obtain ⟨rfl,rfl,rfl,rfl⟩:=H
 go_enter Try.func61,Try.ntmps61
 try go_wp2_with (first | ((with_reducible refine gate_dst (N:=4) rfl ?_);refine box1 (N:=4) (cs:=#[.int .i64 0,.int .i64 0,.slice none 0 0]) (t:=29) ?_;intro gb212 hg w64 hbox hb;replace HB:=aQ (below_step bB hb);have BK212:=aQ (hbox);have GW212:=aQ ((by rw [hg];exact (keep_size (w:=w) (g:=g) (row:=none) bK):w.heap.size ≤ gb212));have GE212:=aQ ((Nat.le_trans HW0.out (by rw [hg];exact (keep_size (w:=w) (g:=g) (row:=none) bK):w.heap.size ≤ gb212):w0.heap.size ≤ gb212));replace HK:=aQ (KeepBut.trans bK (KeepBut.of_below hb g none) (.inl rfl));have NB0_212:=aQ ((by rw [hg];exact Nat.ne_of_lt (IsS67.lt (show IsS67 w0 _ g s0_0 s0_1 from bI)):g ≠ gb212));have NB212_0:=aQ ((by rw [hg];exact Nat.ne_of_gt (IsS67.lt (show IsS67 w0 _ g s0_0 s0_1 from bI)):gb212 ≠ g));replace HI0:=aQ (IsS67.below bI hb);clear hb hbox hg) | ((with_reducible refine gate_callee (f:=56) rfl ?_);refine goesL_ (some 14) rfl rfl Try.func56 (by kernel_rfl) rfl #[.pointer (some ⟨g,0,none⟩),.int .i64 9] rfl mP ?_;(with_reducible refine (spec_l6Rd_pick.calls k g s0_0 s0_1 9 t213 t214 w0 _ ?side1 ?side2 A7.out).mono ?_);(case side1=>exact bI);(case side2=>exact bB);rintro e w65 ⟨rfl,hi,hb,hk⟩;refine ⟨_,rfl,?_⟩;replace BK212:=aQ (KeepBut.blk hk (g':=gb212) (o:=.cells #[.int .i64 0,.int .i64 0,.slice none 0 0] 29 (0,0)) (nB BK212.out) NB212_0.out (by simp));replace HK:=aQ (KeepBut.trans bK hk (.inl rfl));replace HB:=aQ (hb);replace HI0:=aQ (hi);(try clear hb);(try clear hk);(try clear hi)) | ((with_reducible refine gate_callee (f:=61) rfl ?_);refine goesL_ (some 57) rfl rfl Try.func61 (by kernel_rfl) rfl #[.pointer (some ⟨g,0,none⟩),.int .i64 (wrap64 (a1 - 1))] rfl mP ?_;(with_reducible refine (ih k (by omega) g s0_0 t214 (wrap64 (a1 - 1)) t254 t255 t256 t259 w0 _ ?side1 ?side2 A62.out).mono ?_);(case side1=>exact bI);(case side2=>exact bB);rintro e w66 ⟨v257,rfl,ho0,hi,hb,hk⟩;refine ⟨_,rfl,?_⟩;have HO258:=aQ (Kd.N_lower (Kd.N_mono (ok':=fun k_=>(w.heap.size ≤ k_)∧k_ ≠ gb212∧k_ ≠ g) ho0 (fun k_ hk_=>⟨(Nat.le_trans (keep_size (w:=w) (g:=g) (row:=none) bK) hk_),(Kd.freshB (g:=gb212) (o:=.cells #[.int .i64 0,.int .i64 0,.slice none 0 0] 29 (0,0)) (nB BK212.out) k_ hk_),(IsS67.fresh bI k_ hk_)⟩)) (keep_size (w:=w) (g:=g) (row:=none) bK));replace BK212:=aQ (KeepBut.blk hk (g':=gb212) (o:=.cells #[.int .i64 0,.int .i64 0,.slice none 0 0] 29 (0,0)) (nB BK212.out) NB212_0.out (by simp));replace HK:=aQ (KeepBut.trans bK hk (.inl rfl));replace HB:=aQ (hb);replace HI0:=aQ (hi);(try clear hb);(try clear hk);(try clear hi);(try clear ho0)) | ((with_reducible refine gate_dst (N:=9) rfl ?_);refine box1 (N:=9) (cs:=#[.int .i64 0,.int .i64 0,.slice none 0 0]) (t:=29) ?_;intro gb260 hg w67 hbox hb;replace HO258:=aQ (Kd.N_below (Kd.N_elderB (nN HO258.out) gb260 (Nat.le_of_eq hg.symm)) hb);replace HB:=aQ (below_step bB hb);have BK260:=aQ (hbox);have GW260:=aQ ((by rw [hg];exact (keep_size (w:=w) (g:=g) (row:=none) bK):w.heap.size ≤ gb260));have GE260:=aQ ((Nat.le_trans HW0.out (by rw [hg];exact (keep_size (w:=w) (g:=g) (row:=none) bK):w.heap.size ≤ gb260):w0.heap.size ≤ gb260));replace HK:=aQ (KeepBut.trans bK (KeepBut.of_below hb g none) (.inl rfl));have NB212_260:=aQ ((by rw [hg];exact Nat.ne_of_lt (blk_lt (g:=gb212) (o:=.cells #[.int .i64 0,.int .i64 0,.slice none 0 0] 29 (0,0)) (nB BK212.out)):gb212 ≠ gb260));have NB260_212:=aQ ((by rw [hg];exact Nat.ne_of_gt (blk_lt (g:=gb212) (o:=.cells #[.int .i64 0,.int .i64 0,.slice none 0 0] 29 (0,0)) (nB BK212.out)):gb260 ≠ gb212));replace BK212:=aQ (blk_below (g:=gb212) (o:=.cells #[.int .i64 0,.int .i64 0,.slice none 0 0] 29 (0,0)) (nB BK212.out) hb);have NB0_260:=aQ ((by rw [hg];exact Nat.ne_of_lt (IsS67.lt (show IsS67 w0 _ g s0_0 t259 from bI)):g ≠ gb260));have NB260_0:=aQ ((by rw [hg];exact Nat.ne_of_gt (IsS67.lt (show IsS67 w0 _ g s0_0 t259 from bI)):gb260 ≠ g));replace HI0:=aQ (IsS67.below bI hb);clear hb hbox hg;have hnb68:=NB260_212.out;have hnc68:=NB212_260.out;have hnb69:=NB260_0.out;have hnc69:=NB0_260.out;have hcz70_0:w67.cell? ⟨gb260,0,none⟩ = some (.int .i64 0):=(blk_cell BK260.out 0).trans rfl;have hcz70_1:w67.cell? ⟨gb260,1,none⟩ = some (.int .i64 0):=(blk_cell BK260.out 1).trans rfl;have hcz70_2:w67.cell? ⟨gb260,2,none⟩ = some (.slice none 0 0):=(blk_cell BK260.out 2).trans rfl;have hfz70_0:=blk_frozen BK260.out 0;have hfz70_1:=blk_frozen BK260.out 1;have hfz70_2:=blk_frozen BK260.out 2;obtain ⟨Ao71,co71,eo71⟩:=Kd.N_slice HO258.out;subst eo71))
 have n0_:Aside0 (Kd.N k29 29 (((w67.setCell ⟨gb260,0,none⟩ (.int .i64 t254)).setCell ⟨gb260,1,none⟩ (.int .i64 t255)).setCell ⟨gb260,2,none⟩ (.slice Ao71 t256.length co71)) w.heap.size (fun k_=>(w.heap.size ≤ k_)∧k_ ≠ gb212∧k_ ≠ g∧k_ ≠ gb260) (.slice Ao71 t256.length co71) t256):=⟨Kd.N_mono (nFN (g:=gb260) HO258.out (fun k_ hk=>hk.2)) (fun _ hk=>⟨hk.1.1,⟨hk.1.2.1,⟨hk.1.2.2,hk.2⟩⟩⟩)⟩
 have n1_:Aside0 ((((w67.setCell ⟨gb260,0,none⟩ (.int .i64 t254)).setCell ⟨gb260,1,none⟩ (.int .i64 t255)).setCell ⟨gb260,2,none⟩ (.slice Ao71 t256.length co71)).heap[gb212]? = some (.cells #[.int .i64 0,.int .i64 0,.slice none 0 0] 29 (0,0))):=⟨bF⟩
 have n2_:Aside0 ((((w67.setCell ⟨gb260,0,none⟩ (.int .i64 t254)).setCell ⟨gb260,1,none⟩ (.int .i64 t255)).setCell ⟨gb260,2,none⟩ (.slice Ao71 t256.length co71)).heap[gb260]? = some (.cells #[.int .i64 t254,.int .i64 t255,.slice Ao71 t256.length co71] 29 (0,0))):=⟨by (with_reducible repeat (first | refine blk_drewN ?_ _ | refine blk_drew ?_ | refine blk_alloc ?_ _));refine blk_put (cs:=#[.int .i64 t254,.int .i64 t255,.slice none 0 0]) ?_ 2 _ rfl;(with_reducible repeat (first | refine blk_drewN ?_ _ | refine blk_drew ?_ | refine blk_alloc ?_ _));refine blk_put (cs:=#[.int .i64 t254,.int .i64 0,.slice none 0 0]) ?_ 1 _ rfl;(with_reducible repeat (first | refine blk_drewN ?_ _ | refine blk_drew ?_ | refine blk_alloc ?_ _));refine blk_put (cs:=#[.int .i64 0,.int .i64 0,.slice none 0 0]) ?_ 0 _ rfl;(with_reducible repeat (first | refine blk_drewN ?_ _ | refine blk_drew ?_ | refine blk_alloc ?_ _));exact BK260.out⟩
 have n3_:Aside0 (IsS67 w0 (((w67.setCell ⟨gb260,0,none⟩ (.int .i64 t254)).setCell ⟨gb260,1,none⟩ (.int .i64 t255)).setCell ⟨gb260,2,none⟩ (.slice Ao71 t256.length co71)) g s0_0 t259):=⟨bI⟩
 have n4_:Aside0 (KeepBut w (((w67.setCell ⟨gb260,0,none⟩ (.int .i64 t254)).setCell ⟨gb260,1,none⟩ (.int .i64 t255)).setCell ⟨gb260,2,none⟩ (.slice Ao71 t256.length co71)) g none):=⟨bK⟩
 have n5_:Aside0 (Below w0.heap.size w0 (((w67.setCell ⟨gb260,0,none⟩ (.int .i64 t254)).setCell ⟨gb260,1,none⟩ (.int .i64 t255)).setCell ⟨gb260,2,none⟩ (.slice Ao71 t256.length co71))):=⟨bB⟩
 (try clear HO258)
 (try clear BK212)
 (try clear BK260)
 (try clear HI0)
 (try clear HK)
 (try clear HB)
 generalize (((w67.setCell ⟨gb260,0,none⟩ (.int .i64 t254)).setCell ⟨gb260,1,none⟩ (.int .i64 t255)).setCell ⟨gb260,2,none⟩ (.slice Ao71 t256.length co71)) = w72 at n0_ n1_ n2_ n3_ n4_ n5_ ⊢
 have HO258:=n0_
 have BK212:=n1_
 have BK260:=n2_
 have HI0:=n3_
 have HK:=n4_
 have HB:=n5_
 clear n0_ n1_ n2_ n3_ n4_ n5_
 replace HO258:=aQ (Kd.N_drew HO258.out)
 replace BK212:=aQ (blk_drew BK212.out)
 replace BK260:=aQ (blk_drew BK260.out)
 replace HI0:=aQ (IsS67.drew HI0.out)
 replace HK:=aQ (keep_drew HK.out)
 replace HB:=aQ (below_drew1 HB.out)
 refine start_ (n:=9) (S:=fun w'=>w'.cell? ⟨gb260,0,none⟩ = some (.int .i64 t254)∧w'.cell? ⟨gb260,1,none⟩ = some (.int .i64 t255)∧w'.cell? ⟨gb260,2,none⟩ = some (.slice Ao71 t256.length co71)) (ds:=[]) #[false,false,false,false,false,false,false,false,false] (by kernel_rfl) rfl rfl ⟨(blk_cell BK260.out 0).trans rfl,(blk_cell BK260.out 1).trans rfl,(blk_cell BK260.out 2).trans rfl⟩ (fun hHeld=>?_);refine with_tabW spec_l92Clock.tab18 spec_l92Clock.bits18 (fun HT_ HW_=>?_)
 generalize w72.drew = w73 at HO258 BK212 BK260 HI0 HK HB hHeld ⊢
 refine pur (i:=0) (N:=some 58) #[true,false,false,false,false,false,false,false,false] ?_
 refine pur (i:=2) (N:=some 60) #[true,false,true,false,false,false,false,false,false] ?_
 refine pur (i:=3) (N:=some 61) #[true,false,true,true,false,false,false,false,false] ?_
 refine pur (i:=4) (N:=some 62) #[true,false,true,true,true,false,false,false,false] ?_
 refine tak (i:=1) (N:=some 59) #[true,true,true,true,true,false,false,false,false] ?_
 refine one_ (i:=5) (N:=some 63) #[true,true,true,true,true,true,false,false,false] rfl rfl (one_of HT_.out (by kernel_rfl)) (by decide) (fun K hK=>?_)
 refine goes1 Try.func61 #[.pointer (some ⟨g,0,none⟩),.int .i64 (wrap64 (a1 - 1))] ?_
 with_reducible refine (ih k (by omega) g s0_0 t259 (wrap64 (a1 - 1)) t261 t262 t263 t266 w0 _ ?side1 ?side2 A63.out).mono ?_
 (case side1=>exact bI)
 (case side2=>exact bB)
 rintro e w74 ⟨v264,rfl,ho0,hi,hb,hk⟩
 refine ⟨_,rfl,?_⟩
 have HO265:=aQ (Kd.N_lower (Kd.N_mono (ok':=fun k_=>(w.heap.size ≤ k_)∧some k_ ≠ (.slice Ao71 t256.length co71:Value).ownBlock∧k_ ≠ gb212∧k_ ≠ gb260∧k_ ≠ g) ho0 (fun k_ hk_=>⟨(Nat.le_trans (keep_size (w:=w) (g:=g) (row:=none) bK) hk_),(Kd.fresh' (Kd.N_lt (nN HO258.out)) k_ hk_),(Kd.freshB (g:=gb212) (o:=.cells #[.int .i64 0,.int .i64 0,.slice none 0 0] 29 (0,0)) (nB BK212.out) k_ hk_),(Kd.freshB (g:=gb260) (o:=.cells #[.int .i64 t254,.int .i64 t255,.slice Ao71 t256.length co71] 29 (0,0)) (nB BK260.out) k_ hk_),(IsS67.fresh bI k_ hk_)⟩)) (keep_size (w:=w) (g:=g) (row:=none) bK))
 replace BK212:=aQ (KeepBut.blk hk (g':=gb212) (o:=.cells #[.int .i64 0,.int .i64 0,.slice none 0 0] 29 (0,0)) (nB BK212.out) NB212_0.out (by simp))
 replace HO258:=aQ (Kd.N_mono (Kd.N_told (Kd.N_oldK (Kd.N_mono (ok:=fun k_=>(((w.heap.size ≤ k_))∧(k_ ≠ gb212∧(k_ ≠ g∧k_ ≠ gb260)))) (nN HO258.out) (fun k_ hk_=>(⟨hk_,hk_.2.2.1⟩:_∧k_ ≠ g))) hk) (Kd.N_base ho0)) (fun _ h_=>h_.1))
 replace BK260:=aQ (KeepBut.blk hk (g':=gb260) (o:=.cells #[.int .i64 t254,.int .i64 t255,.slice Ao71 t256.length co71] 29 (0,0)) (nB BK260.out) NB260_0.out (by simp))
 replace HK:=aQ (KeepBut.trans bK hk (.inl rfl))
 replace HB:=aQ (hb)
 replace HI0:=aQ (hi)
 (try clear hb)
 (try clear hk)
 (try clear hi)
 (try clear ho0)
 obtain ⟨Ao75,co75,eo75⟩:=Kd.N_slice HO265.out
 (first | subst eo75 | (injection eo75 with f1_ f2_ f3_;have f4_:=f1_.symm;have f5_:=f3_.symm;clear f1_ f2_ f3_;subst f4_;subst f5_))
 refine hK.out _ _ ⟨(blk_cell BK260.out 0).trans rfl,(blk_cell BK260.out 1).trans rfl,(blk_cell BK260.out 2).trans rfl⟩ (fun hHeld=>?_)
 clear hK K
 refine nrm (N:=some 63) ?_
 refine one_ (i:=6) (N:=some 64) #[true,true,true,true,true,true,true,false,false] rfl rfl (one_of HT_.out (by kernel_rfl)) (by decide) (fun K hK=>?_)
 refine Kd.N_lit_step k29 _ 29 ?hg (N':=64) ?hd (xs:=([(⟨t254,t255,t256⟩:S29),(⟨t261,t262,t263⟩:S29)]:List (S29))) (inner:=[.int .i64 t254,.int .i64 t255,.slice Ao71 t256.length co71,.int .i64 t261,.int .i64 t262,.slice Ao75 t263.length co75]) (ok:=(fun k_=>(w.heap.size ≤ k_)∧k_ ≠ gb212∧k_ ≠ gb260∧k_ ≠ g)) (okp:=(fun k_=>(w.heap.size ≤ k_)∧k_ ≠ gb212∧k_ ≠ gb260∧k_ ≠ g)) ?hr ?hp (fun _ hk=>hk) ((show ∀ k_,w74.heap.size ≤ k_ → (fun k_=>(w.heap.size ≤ k_)∧k_ ≠ gb212∧k_ ≠ gb260∧k_ ≠ g) k_ from fun k_ hk=>⟨(Nat.le_trans (keep_size (w:=w) (g:=g) (row:=none) bK) hk),Kd.freshB (g:=gb212) (o:=.cells #[.int .i64 0,.int .i64 0,.slice none 0 0] 29 (0,0)) (nB BK212.out) k_ hk,Kd.freshB (g:=gb260) (o:=.cells #[.int .i64 t254,.int .i64 t255,.slice Ao71 t256.length co71] 29 (0,0)) (nB BK260.out) k_ hk,IsS67.fresh bI k_ hk⟩) _ (Nat.le_refl _)) (Below.refl _ _) (Nat.le_refl _) (by simp) ?_;(case hd=>rfl);(case hg=>rfl);(case hr=>first | (go_simp;done) | (go_simp;rfl));(case hp=>exact (Reps.c3 (show Kd.FK k29 _ _ (⟨t254,t255,t256⟩:S29) [.int .i64 t254,.int .i64 t255,.slice Ao71 t256.length co71] from (k29_mkF _ _ (⟨t254,t255,t256⟩:S29) (Kd.N_reads' (Kd.N_mono (ok':=(fun k_=>(w.heap.size ≤ k_)∧k_ ≠ gb212∧k_ ≠ gb260∧k_ ≠ g)) (HO258.out) (fun k_ hk=>⟨hk.1.1,⟨hk.1.2.1,⟨hk.1.2.2.2,hk.1.2.2.1⟩⟩⟩))).2.1 (Kd.N_F (Kd.N_mono (ok':=(fun k_=>(w.heap.size ≤ k_)∧k_ ≠ gb212∧k_ ≠ gb260∧k_ ≠ g)) (HO258.out) (fun k_ hk=>⟨hk.1.1,⟨hk.1.2.1,⟨hk.1.2.2.2,hk.1.2.2.1⟩⟩⟩))))) (Reps.c3 (show Kd.FK k29 _ _ (⟨t261,t262,t263⟩:S29) [.int .i64 t261,.int .i64 t262,.slice Ao75 t263.length co75] from (k29_mkF _ _ (⟨t261,t262,t263⟩:S29) (Kd.N_reads' (Kd.N_mono (ok':=(fun k_=>(w.heap.size ≤ k_)∧k_ ≠ gb212∧k_ ≠ gb260∧k_ ≠ g)) (HO265.out) (fun k_ hk=>⟨hk.1,⟨hk.2.2.1,⟨hk.2.2.2.1,hk.2.2.2.2⟩⟩⟩))).2.1 (Kd.N_F (Kd.N_mono (ok':=(fun k_=>(w.heap.size ≤ k_)∧k_ ≠ gb212∧k_ ≠ gb260∧k_ ≠ g)) (HO265.out) (fun k_ hk=>⟨hk.1,⟨hk.2.2.1,⟨hk.2.2.2.1,hk.2.2.2.2⟩⟩⟩))))) (Reps.none _ _))))
 intro v268 w76 ho77 hb hg_ hnew_
 clear hg_ hnew_
 (first | rw [← Ny267.out] at ho77 | (simp only [Int.reduceToNat] at ho77;rw [← Ny267.out] at ho77))
 have n0_:=aQ (Kd.N_lower ho77 (keep_size (w:=w) (g:=g) (row:=none) bK))
 have n1_:=aQ (IsS67.below bI hb)
 have n2_:=aQ (blk_below (g:=gb212) (o:=.cells #[.int .i64 0,.int .i64 0,.slice none 0 0] 29 (0,0)) (nB BK212.out) hb)
 have n3_:=aQ (blk_below (g:=gb260) (o:=.cells #[.int .i64 t254,.int .i64 t255,.slice Ao71 t256.length co71] 29 (0,0)) (nB BK260.out) hb)
 have n4_:=aQ (KeepBut.trans bK (KeepBut.of_below hb g none) (.inl rfl))
 have n5_:=aQ (below_step bB hb)
 clear HI0 BK212 BK260 HK HB HO258 HO265
 have HO269:=n0_
 have HI0:=n1_
 have BK212:=n2_
 have BK260:=n3_
 have HK:=n4_
 have HB:=n5_
 clear n0_ n1_ n2_ n3_ n4_ n5_
 clear hb ho77
 obtain ⟨Ao78,co78,eo78⟩:=Kd.N_slice HO269.out
 (first | subst eo78 | (injection eo78 with f1_ f2_ f3_;have f4_:=f1_.symm;have f5_:=f3_.symm;clear f1_ f2_ f3_;subst f4_;subst f5_))
 refine hK.out _ _ ⟨(blk_cell BK260.out 0).trans rfl,(blk_cell BK260.out 1).trans rfl,(blk_cell BK260.out 2).trans rfl⟩ (fun hHeld=>?_)
 clear hK K
 refine nrm (N:=some 64) ?_
 refine pur (i:=7) (N:=some 65) #[true,true,true,true,true,true,true,true,false] ?_
 refine one_ (i:=8) (N:=none) #[true,true,true,true,true,true,true,true,true] rfl rfl (one_of HT_.out (by kernel_rfl)) (by decide) (fun K hK=>?_)
 have hs79:w76.cell? ⟨gb212,0,none⟩ = some (.int .i64 0):=(blk_cell BK212.out 0).trans rfl
 have hfs79:=blk_frozen BK212.out 0
 have hns79_1:=NB260_212.out
 have hms79_1:=NB212_260.out
 have hs80:w76.cell? ⟨gb212,1,none⟩ = some (.int .i64 0):=(blk_cell BK212.out 1).trans rfl
 have hfs80:=blk_frozen BK212.out 1
 have hns80_1:=NB260_212.out
 have hms80_1:=NB212_260.out
 have hs81:w76.cell? ⟨gb212,2,none⟩ = some (.slice none 0 0):=(blk_cell BK212.out 2).trans rfl
 have hfs81:=blk_frozen BK212.out 2
 have hns81_1:=NB260_212.out
 have hms81_1:=NB212_260.out
 refine skip_ (w1:=?_) (by rfl) rfl ?_ ?_
 rotate_left
 ·go_simp
  rfl
 refine hK.out _ _ ⟨((cell_far (p:=⟨gb212,_,none⟩) NB260_212.out _).trans (((cell_far (p:=⟨gb212,_,none⟩) NB260_212.out _).trans (((cell_far (p:=⟨gb212,_,none⟩) NB260_212.out _).trans (hHeld.1)))))),((cell_far (p:=⟨gb212,_,none⟩) NB260_212.out _).trans (((cell_far (p:=⟨gb212,_,none⟩) NB260_212.out _).trans (((cell_far (p:=⟨gb212,_,none⟩) NB260_212.out _).trans (hHeld.2.1)))))),((cell_far (p:=⟨gb212,_,none⟩) NB260_212.out _).trans (((cell_far (p:=⟨gb212,_,none⟩) NB260_212.out _).trans (((cell_far (p:=⟨gb212,_,none⟩) NB260_212.out _).trans (hHeld.2.2))))))⟩ (fun hHeld=>?_)
 clear hK K
 refine done_ (done_of HT_.out (by kernel_rfl)) ?_
 try go_wp2
 refine bodyPost_ret (results_cell_row rfl _ _ gb212 29 #[.int .i64 4,.int .i64 0,.slice Ao78 y267.length co78] (0,0) _ rfl (by (with_reducible repeat (first | refine blk_drewN ?_ _ | refine blk_drew ?_ | refine blk_alloc ?_ _));refine blk_put (cs:=#[.int .i64 4,.int .i64 0,.slice none 0 0]) ?_ 2 _ rfl;(with_reducible repeat (first | refine blk_drewN ?_ _ | refine blk_drew ?_ | refine blk_alloc ?_ _));refine blk_put (cs:=#[.int .i64 4,.int .i64 0,.slice none 0 0]) ?_ 1 _ rfl;(with_reducible repeat (first | refine blk_drewN ?_ _ | refine blk_drew ?_ | refine blk_alloc ?_ _));refine blk_put (cs:=#[.int .i64 0,.int .i64 0,.slice none 0 0]) ?_ 0 _ rfl;(with_reducible repeat (first | refine blk_drewN ?_ _ | refine blk_drew ?_ | refine blk_alloc ?_ _));exact BK212.out) Try.underlying29 rfl (by kernel_rfl)) rfl ?_
 exact ⟨_,rfl,by (with_reducible repeat (first | apply Kd.N_alloc | apply Kd.N_drewN | apply Kd.N_drew));exact Kd.N_mono (nFN (g:=gb212) HO269.out (fun k_ hk=>hk.2.1)) (fun _ hk=>hk.1),bI,bB,bK⟩
def spec_l92Timed.f (k:Nat) (s0_0:List Int) (s0_1:Int):Option (Int × Int × (List (S29)) × Int):=(spec_l6Rd_pick.f k s0_0 s0_1 4).bind fun bt287=>((spec_l92Clock.f k s0_0 bt287.2 (wrap64 (1 + bt287.1))).bind fun bt289=>((spec_l6Rd_pick.f k s0_0 bt289.2.2.2 30).bind fun bt296=>(if bt296.1 = 0 then ((spec_l6Rd_pick.f k s0_0 bt296.2 7).bind fun bt298=>(some (bt298.1,bt289.2.1,bt289.2.2.1,bt298.2))) else (if bt296.1 = 1 then (some (bt289.1,(-1),bt289.2.2.1,bt296.2)) else (some (bt289.1,bt289.2.1,bt289.2.2.1,bt296.2))))))
theorem spec_l92Timed.mono:∀ a0 a1 k,LeO (spec_l92Timed.f k a0 a1) (spec_l92Timed.f (k + 1) a0 a1):=by
 intro a0 a1 k
 unfold spec_l92Timed.f
 repeat' first
   | (with_reducible exact spec_l6Rd_pick.mono _ _ _ _)
   | (with_reducible exact spec_l92Clock.mono _ _ _ _)
   | (with_reducible exact LeO.refl _)
   | (with_reducible exact LeO.none _)
   | (with_reducible refine LeO.ite ?_ ?_)
   | (with_reducible refine LeO.bind ?_ (fun _=>?_))
   | exact spec_l6Rd_pick.mono _ _ _ _
   | exact spec_l92Clock.mono _ _ _ _
   | exact LeO.none _
   | refine LeO.ite ?_ ?_
   | refine LeO.bind ?_ (fun _=>?_)
set_option maxHeartbeats 8000000 in
set_option maxRecDepth 100000 in
theorem spec_l92Timed.calls (k:Nat) (g:Nat) (s0_0:List Int) (s0_1:Int) (r1:Int) (r2:Int) (r3:List (S29)) (r4:Int) (w0 w:World) (hI:IsS67 w0 w g s0_0 s0_1) (hB:Below w0.heap.size w0 w) (h:spec_l92Timed.f k s0_0 s0_1 = some (r1,r2,r3,r4)) :
  Calls Try.prog 46 #[.pointer (some ⟨g,0,none⟩)] w fun e w'=>∃ v2_:Value,e = .returned (.agg #[.int .i64 r1,.int .i64 r2,v2_])∧Kd.N k29 29 w' w.heap.size (fun k_=>(w.heap.size ≤ k_)) v2_ r3∧IsS67 w0 w' g s0_0 r4∧Below w0.heap.size w0 w'∧KeepBut w w' g none:=by
 have hu29:=Try.underlying29
 have HI0:=aQ hI
 have HK:=aQ (KeepBut.refl w g none)
 have HL:=aQ hB.size
 clear hI
 have HW0:=aQ hB.size
 have HB:=aQ hB
 clear hB
 have H:((spec_l6Rd_pick.f k s0_0 s0_1 4).bind fun bt287=>((spec_l92Clock.f k s0_0 bt287.2 (wrap64 (1 + bt287.1))).bind fun bt289=>((spec_l6Rd_pick.f k s0_0 bt289.2.2.2 30).bind fun bt296=>(if bt296.1 = 0 then ((spec_l6Rd_pick.f k s0_0 bt296.2 7).bind fun bt298=>(some (bt298.1,bt289.2.1,bt289.2.2.1,bt298.2))) else (if bt296.1 = 1 then (some (bt289.1,(-1),bt289.2.2.1,bt296.2)) else (some (bt289.1,bt289.2.1,bt289.2.2.1,bt296.2))))))) = some (r1,r2,r3,r4):=h
 clear h
 obtain ⟨⟨t287,t288⟩,A2,H⟩:=bQ H
 replace H:((spec_l92Clock.f k s0_0 t288 (wrap64 (1 + t287))).bind fun bt289=>((spec_l6Rd_pick.f k s0_0 bt289.2.2.2 30).bind fun bt296=>(if bt296.1 = 0 then ((spec_l6Rd_pick.f k s0_0 bt296.2 7).bind fun bt298=>(some (bt298.1,bt289.2.1,bt289.2.2.1,bt298.2))) else (if bt296.1 = 1 then (some (bt289.1,(-1),bt289.2.2.1,bt296.2)) else (some (bt289.1,bt289.2.1,bt289.2.2.1,bt296.2)))))) = some (r1,r2,r3,r4):=H
 obtain ⟨⟨t289,t290,t291,t294⟩,A3,H⟩:=bQ H
 replace H:((spec_l6Rd_pick.f k s0_0 t294 30).bind fun bt296=>(if bt296.1 = 0 then ((spec_l6Rd_pick.f k s0_0 bt296.2 7).bind fun bt298=>(some (bt298.1,t290,t291,bt298.2))) else (if bt296.1 = 1 then (some (t289,(-1),t291,bt296.2)) else (some (t289,t290,t291,bt296.2))))) = some (r1,r2,r3,r4):=H
 obtain ⟨⟨t296,t297⟩,A4,H⟩:=bQ H
 replace H:(if t296 = 0 then ((spec_l6Rd_pick.f k s0_0 t297 7).bind fun bt298=>(some (bt298.1,t290,t291,bt298.2))) else (if t296 = 1 then (some (t289,(-1),t291,t297)) else (some (t289,t290,t291,t297)))) = some (r1,r2,r3,r4):=H
 by_cases c5:t296 = 0
 ·rw [if_pos c5] at H
  have c5b0:(t296 == 0) = true:=beq_iff_eq.mpr c5
  have c5b1:(t296 != 0) = false:=bne_eq_false_iff_eq.mpr c5
  clear c5
  obtain ⟨⟨t298,t299⟩,A6,H⟩:=bQ H
  replace H:(some (t298,t290,t291,t299)) = some (r1,r2,r3,r4):=H
  simp only [Option.some.injEq,Prod.mk.injEq] at H
  obtain ⟨rfl,rfl,rfl,rfl⟩:=H
  go_enter Try.func46,Try.ntmps46
  go_wp2_with (first | ((with_reducible refine gate_dst (N:=2) rfl ?_);refine box_event ?hg (N:=2) ?hd (cs:=#[.int .i64 0,.int .i64 0,.slice none 0 0]) (t:=29) ?hr ?_;(case hd=>rfl);(case hg=>rfl);(case hr=>first | (go_simp;done) | (go_simp;rfl));intro gb286 hg w7 hbox hb;have n0_:=aQ (IsS67.below (by repeat (first | (with_reducible first | exact HI0.out | apply IsS67.alloc | apply IsS67.drewN | apply IsS67.drew | apply IsS67.set_1) | exact HI0.out)) hb);have n1_:=aQ (KeepBut.trans (by repeat (first | (with_reducible first | exact HK.out | apply KeepBut.set_ | apply keep_drewN | apply keep_drew | apply keep_alloc) | exact HK.out)) (KeepBut.of_below hb g none) (.inl rfl));have n2_:=aQ (below_step (by repeat (first | (with_reducible first | exact HB.out | apply below_alloc | apply pw_below_drewN | apply below_drew1 | refine below_set ?_ (IsS67.ge HI0.out)) | exact HB.out)) hb);have n3_:=aQ (hbox);have n4_:=aQ ((by rw [hg];exact (keep_size (w:=w) (g:=g) (row:=none) (by repeat (first | (with_reducible first | exact HK.out | apply KeepBut.set_ | apply keep_drewN | apply keep_drew | apply keep_alloc) | exact HK.out))):w.heap.size ≤ gb286));have n5_:=aQ ((Nat.le_trans HW0.out (by rw [hg];exact (keep_size (w:=w) (g:=g) (row:=none) (by repeat (first | (with_reducible first | exact HK.out | apply KeepBut.set_ | apply keep_drewN | apply keep_drew | apply keep_alloc) | exact HK.out))):w.heap.size ≤ gb286):w0.heap.size ≤ gb286));have n6_:=aQ ((by rw [hg];exact Nat.ne_of_lt (IsS67.lt (show IsS67 w0 _ g s0_0 s0_1 from by repeat (first | (with_reducible first | exact HI0.out | apply IsS67.alloc | apply IsS67.drewN | apply IsS67.drew | apply IsS67.set_1) | exact HI0.out))):g ≠ gb286));have n7_:=aQ ((by rw [hg];exact Nat.ne_of_gt (IsS67.lt (show IsS67 w0 _ g s0_0 s0_1 from by repeat (first | (with_reducible first | exact HI0.out | apply IsS67.alloc | apply IsS67.drewN | apply IsS67.drew | apply IsS67.set_1) | exact HI0.out))):gb286 ≠ g));clear HI0;clear HK;clear HB;have HI0:=n0_;have HK:=n1_;have HB:=n2_;have BK286:=n3_;have GW286:=n4_;have GE286:=n5_;have NB0_286:=n6_;have NB286_0:=n7_;clear n0_ n1_ n2_ n3_ n4_ n5_ n6_ n7_;clear hb hbox hg) | ((with_reducible refine gate_callee (f:=56) rfl ?_);refine goesL_ (some 6) rfl rfl Try.func56 (by kernel_rfl) rfl #[.pointer (some ⟨g,0,none⟩),.int .i64 4] rfl (by (try simp only [List.map_toArray,List.map_cons,List.map_nil]);first | done | rfl | (simp only [List.length_drop,List.length_take];rfl)) ?_;(with_reducible refine (spec_l6Rd_pick.calls k g s0_0 s0_1 4 t287 t288 w0 _ ?side1 ?side2 A2.out).mono ?_);(case side1=>repeat (first | (with_reducible first | exact HI0.out | apply IsS67.alloc | apply IsS67.drewN | apply IsS67.drew | apply IsS67.set_1 | refine IsS67.far ?_ NB0_286.out _) | exact HI0.out));(case side2=>repeat (first | (with_reducible first | exact HB.out | apply below_alloc | apply pw_below_drewN | apply below_drew1 | refine below_set ?_ (IsS67.ge HI0.out) | refine below_set ?_ GE286.out) | exact HB.out));rintro e w8 ⟨rfl,hi,hb,hk⟩;refine ⟨_,rfl,?_⟩;have n0_:=aQ (KeepBut.blk hk (g':=gb286) (o:=.cells #[.int .i64 0,.int .i64 0,.slice none 0 0] 29 (0,0)) (by (with_reducible repeat (first | refine blk_drewN ?_ _ | refine blk_drew ?_ | refine blk_alloc ?_ _));exact BK286.out) NB286_0.out (by simp));have n1_:=aQ (KeepBut.trans (by repeat (first | (with_reducible first | exact HK.out | apply KeepBut.set_ | apply keep_drewN | apply keep_drew | apply keep_alloc | refine keep_far ?_ GW286.out _) | exact HK.out)) hk (.inl rfl));have n2_:=aQ (hb);have n3_:=aQ (hi);clear BK286;clear HK;clear HB;clear HI0;have BK286:=n0_;have HK:=n1_;have HB:=n2_;have HI0:=n3_;clear n0_ n1_ n2_ n3_;(try clear hb);(try clear hk);(try clear hi)) | ((with_reducible refine gate_callee (f:=61) rfl ?_);refine goesL_ (some 8) rfl rfl Try.func61 (by kernel_rfl) rfl #[.pointer (some ⟨g,0,none⟩),.int .i64 (wrap64 (1 + t287))] rfl (by (try simp only [List.map_toArray,List.map_cons,List.map_nil]);first | done | rfl | (simp only [List.length_drop,List.length_take];rfl)) ?_;(with_reducible refine (spec_l92Clock.calls k g s0_0 t288 (wrap64 (1 + t287)) t289 t290 t291 t294 w0 _ ?side1 ?side2 A3.out).mono ?_);(case side1=>repeat (first | (with_reducible first | exact HI0.out | apply IsS67.alloc | apply IsS67.drewN | apply IsS67.drew | apply IsS67.set_1 | refine IsS67.far ?_ NB0_286.out _) | exact HI0.out));(case side2=>repeat (first | (with_reducible first | exact HB.out | apply below_alloc | apply pw_below_drewN | apply below_drew1 | refine below_set ?_ (IsS67.ge HI0.out) | refine below_set ?_ GE286.out) | exact HB.out));rintro e w9 ⟨v292,rfl,ho0,hi,hb,hk⟩;refine ⟨_,rfl,?_⟩;have n0_:=aQ (KeepBut.blk hk (g':=gb286) (o:=.cells #[.int .i64 0,.int .i64 0,.slice none 0 0] 29 (0,0)) (by (with_reducible repeat (first | refine blk_drewN ?_ _ | refine blk_drew ?_ | refine blk_alloc ?_ _));exact BK286.out) NB286_0.out (by simp));have n1_:=aQ (Kd.N_lower (Kd.N_mono (ok':=fun k_=>(w.heap.size ≤ k_)∧k_ ≠ gb286∧k_ ≠ g) ho0 (fun k_ hk_=>⟨(Nat.le_trans (keep_size (w:=w) (g:=g) (row:=none) (by repeat (first | (with_reducible first | exact HK.out | apply KeepBut.set_ | apply keep_drewN | apply keep_drew | apply keep_alloc | refine keep_far ?_ GW286.out _) | exact HK.out))) hk_),(Kd.freshB (g:=gb286) (o:=.cells #[.int .i64 0,.int .i64 0,.slice none 0 0] 29 (0,0)) (by (with_reducible repeat (first | refine blk_drewN ?_ _ | refine blk_drew ?_ | refine blk_alloc ?_ _));exact BK286.out) k_ hk_),(IsS67.fresh (by repeat (first | (with_reducible first | exact HI0.out | apply IsS67.alloc | apply IsS67.drewN | apply IsS67.drew | apply IsS67.set_1 | refine IsS67.far ?_ NB0_286.out _) | exact HI0.out)) k_ hk_)⟩)) (keep_size (w:=w) (g:=g) (row:=none) (by repeat (first | (with_reducible first | exact HK.out | apply KeepBut.set_ | apply keep_drewN | apply keep_drew | apply keep_alloc | refine keep_far ?_ GW286.out _) | exact HK.out))));have n2_:=aQ (KeepBut.trans (by repeat (first | (with_reducible first | exact HK.out | apply KeepBut.set_ | apply keep_drewN | apply keep_drew | apply keep_alloc | refine keep_far ?_ GW286.out _) | exact HK.out)) hk (.inl rfl));have n3_:=aQ (hb);have n4_:=aQ (hi);clear BK286;clear HK;clear HB;clear HI0;have BK286:=n0_;have HO293:=n1_;have HK:=n2_;have HB:=n3_;have HI0:=n4_;clear n0_ n1_ n2_ n3_ n4_;(try clear hb);(try clear hk);(try clear hi);(try clear ho0)) | ((with_reducible refine gate_dst (N:=3) rfl ?_);refine box_event ?hg (N:=3) ?hd (cs:=#[.int .i64 0,.int .i64 0,.slice none 0 0]) (t:=29) ?hr ?_;(case hd=>rfl);(case hg=>rfl);(case hr=>first | (go_simp;done) | (go_simp;rfl));intro gb295 hg w10 hbox hb;have n0_:=aQ (Kd.N_below (Kd.N_elderB (by (with_reducible repeat (first | apply Kd.N_alloc | apply Kd.N_drewN | apply Kd.N_drew));exact HO293.out) gb295 (Nat.le_of_eq hg.symm)) hb);have n1_:=aQ (IsS67.below (by repeat (first | (with_reducible first | exact HI0.out | apply IsS67.alloc | apply IsS67.drewN | apply IsS67.drew | apply IsS67.set_1 | refine IsS67.far ?_ NB0_286.out _) | exact HI0.out)) hb);have n2_:=aQ (blk_below (g:=gb286) (o:=.cells #[.int .i64 0,.int .i64 0,.slice none 0 0] 29 (0,0)) (by (with_reducible repeat (first | refine blk_drewN ?_ _ | refine blk_drew ?_ | refine blk_alloc ?_ _));exact BK286.out) hb);have n3_:=aQ (KeepBut.trans (by repeat (first | (with_reducible first | exact HK.out | apply KeepBut.set_ | apply keep_drewN | apply keep_drew | apply keep_alloc | refine keep_far ?_ GW286.out _) | exact HK.out)) (KeepBut.of_below hb g none) (.inl rfl));have n4_:=aQ (below_step (by repeat (first | (with_reducible first | exact HB.out | apply below_alloc | apply pw_below_drewN | apply below_drew1 | refine below_set ?_ (IsS67.ge HI0.out) | refine below_set ?_ GE286.out) | exact HB.out)) hb);have n5_:=aQ (hbox);have n6_:=aQ ((by rw [hg];exact (keep_size (w:=w) (g:=g) (row:=none) (by repeat (first | (with_reducible first | exact HK.out | apply KeepBut.set_ | apply keep_drewN | apply keep_drew | apply keep_alloc | refine keep_far ?_ GW286.out _) | exact HK.out))):w.heap.size ≤ gb295));have n7_:=aQ ((Nat.le_trans HW0.out (by rw [hg];exact (keep_size (w:=w) (g:=g) (row:=none) (by repeat (first | (with_reducible first | exact HK.out | apply KeepBut.set_ | apply keep_drewN | apply keep_drew | apply keep_alloc | refine keep_far ?_ GW286.out _) | exact HK.out))):w.heap.size ≤ gb295):w0.heap.size ≤ gb295));have n8_:=aQ ((by rw [hg];exact Nat.ne_of_lt (blk_lt (g:=gb286) (o:=.cells #[.int .i64 0,.int .i64 0,.slice none 0 0] 29 (0,0)) (by (with_reducible repeat (first | refine blk_drewN ?_ _ | refine blk_drew ?_ | refine blk_alloc ?_ _));exact BK286.out)):gb286 ≠ gb295));have n9_:=aQ ((by rw [hg];exact Nat.ne_of_gt (blk_lt (g:=gb286) (o:=.cells #[.int .i64 0,.int .i64 0,.slice none 0 0] 29 (0,0)) (by (with_reducible repeat (first | refine blk_drewN ?_ _ | refine blk_drew ?_ | refine blk_alloc ?_ _));exact BK286.out)):gb295 ≠ gb286));have n10_:=aQ ((by rw [hg];exact Nat.ne_of_lt (IsS67.lt (show IsS67 w0 _ g s0_0 t294 from by repeat (first | (with_reducible first | exact HI0.out | apply IsS67.alloc | apply IsS67.drewN | apply IsS67.drew | apply IsS67.set_1 | refine IsS67.far ?_ NB0_286.out _) | exact HI0.out))):g ≠ gb295));have n11_:=aQ ((by rw [hg];exact Nat.ne_of_gt (IsS67.lt (show IsS67 w0 _ g s0_0 t294 from by repeat (first | (with_reducible first | exact HI0.out | apply IsS67.alloc | apply IsS67.drewN | apply IsS67.drew | apply IsS67.set_1 | refine IsS67.far ?_ NB0_286.out _) | exact HI0.out))):gb295 ≠ g));clear HO293;clear HI0;clear BK286;clear HK;clear HB;have HO293:=n0_;have HI0:=n1_;have BK286:=n2_;have HK:=n3_;have HB:=n4_;have BK295:=n5_;have GW295:=n6_;have GE295:=n7_;have NB286_295:=n8_;have NB295_286:=n9_;have NB0_295:=n10_;have NB295_0:=n11_;clear n0_ n1_ n2_ n3_ n4_ n5_ n6_ n7_ n8_ n9_ n10_ n11_;clear hb hbox hg;have hnb11:=NB295_286.out;have hnc11:=NB286_295.out;have hnb12:=NB295_0.out;have hnc12:=NB0_295.out;have hcz13_0:w10.cell? ⟨gb295,0,none⟩ = some (.int .i64 0):=(blk_cell BK295.out 0).trans rfl;have hcz13_1:w10.cell? ⟨gb295,1,none⟩ = some (.int .i64 0):=(blk_cell BK295.out 1).trans rfl;have hcz13_2:w10.cell? ⟨gb295,2,none⟩ = some (.slice none 0 0):=(blk_cell BK295.out 2).trans rfl;have hfz13_0:=blk_frozen BK295.out 0;have hfz13_1:=blk_frozen BK295.out 1;have hfz13_2:=blk_frozen BK295.out 2;obtain ⟨Ao14,co14,eo14⟩:=Kd.N_slice HO293.out;subst eo14) | ((with_reducible refine gate_callee (f:=56) rfl ?_);refine goesL_ (some 10) rfl rfl Try.func56 (by kernel_rfl) rfl #[.pointer (some ⟨g,0,none⟩),.int .i64 30] rfl (by (try simp only [List.map_toArray,List.map_cons,List.map_nil]);first | done | rfl | (simp only [List.length_drop,List.length_take];rfl)) ?_;(with_reducible refine (spec_l6Rd_pick.calls k g s0_0 t294 30 t296 t297 w0 _ ?side1 ?side2 A4.out).mono ?_);(case side1=>repeat (first | (with_reducible first | exact HI0.out | apply IsS67.alloc | apply IsS67.drewN | apply IsS67.drew | apply IsS67.set_1 | refine IsS67.far ?_ NB0_286.out _ | refine IsS67.far ?_ NB0_295.out _) | exact HI0.out));(case side2=>repeat (first | (with_reducible first | exact HB.out | apply below_alloc | apply pw_below_drewN | apply below_drew1 | refine below_set ?_ (IsS67.ge HI0.out) | refine below_set ?_ GE286.out | refine below_set ?_ GE295.out) | exact HB.out));rintro e w15 ⟨rfl,hi,hb,hk⟩;refine ⟨_,rfl,?_⟩;have n0_:=aQ (KeepBut.blk hk (g':=gb286) (o:=.cells #[.int .i64 0,.int .i64 0,.slice none 0 0] 29 (0,0)) (by (with_reducible repeat (first | refine blk_drewN ?_ _ | refine blk_drew ?_ | refine blk_alloc ?_ _));refine blk_far ?_ NB286_295.out _;(with_reducible repeat (first | refine blk_drewN ?_ _ | refine blk_drew ?_ | refine blk_alloc ?_ _));refine blk_far ?_ NB286_295.out _;(with_reducible repeat (first | refine blk_drewN ?_ _ | refine blk_drew ?_ | refine blk_alloc ?_ _));refine blk_far ?_ NB286_295.out _;(with_reducible repeat (first | refine blk_drewN ?_ _ | refine blk_drew ?_ | refine blk_alloc ?_ _));exact BK286.out) NB286_0.out (by simp));have n1_:=aQ (Kd.N_mono (Kd.N_keep (Kd.N_mono (ok:=fun k_=>((((w.heap.size ≤ k_))∧(k_ ≠ gb286∧k_ ≠ g))∧k_ ≠ gb295)) (by (with_reducible repeat (first | apply Kd.N_alloc | apply Kd.N_drewN | apply Kd.N_drew));exact (Kd.N_mono (Kd.N_far (p:=⟨gb295,2,none⟩) (Kd.N_far (p:=⟨gb295,1,none⟩) (Kd.N_far (p:=⟨gb295,0,none⟩) (Kd.N_mono HO293.out (fun k_ hk=>(⟨hk,hk.2⟩:_∧k_ ≠ gb295))) (fun _ hk=>hk.2) (.int .i64 t289)) (fun _ hk=>hk.2) (.int .i64 t290)) (fun _ hk=>hk.2) (.slice Ao14 t291.length co14)) (fun _ h_=>h_.1))) (fun k_ hk_=>(⟨hk_,hk_.1.2.2⟩:_∧k_ ≠ g))) hk (fun _ h=>h.2)) (fun _ h=>h.1));have n2_:=aQ (KeepBut.blk hk (g':=gb295) (o:=.cells #[.int .i64 t289,.int .i64 t290,.slice Ao14 t291.length co14] 29 (0,0)) (by (with_reducible repeat (first | refine blk_drewN ?_ _ | refine blk_drew ?_ | refine blk_alloc ?_ _));refine blk_put (cs:=#[.int .i64 t289,.int .i64 t290,.slice none 0 0]) ?_ 2 _ rfl;(with_reducible repeat (first | refine blk_drewN ?_ _ | refine blk_drew ?_ | refine blk_alloc ?_ _));refine blk_put (cs:=#[.int .i64 t289,.int .i64 0,.slice none 0 0]) ?_ 1 _ rfl;(with_reducible repeat (first | refine blk_drewN ?_ _ | refine blk_drew ?_ | refine blk_alloc ?_ _));refine blk_put (cs:=#[.int .i64 0,.int .i64 0,.slice none 0 0]) ?_ 0 _ rfl;(with_reducible repeat (first | refine blk_drewN ?_ _ | refine blk_drew ?_ | refine blk_alloc ?_ _));exact BK295.out) NB295_0.out (by simp));have n3_:=aQ (KeepBut.trans (by repeat (first | (with_reducible first | exact HK.out | apply KeepBut.set_ | apply keep_drewN | apply keep_drew | apply keep_alloc | refine keep_far ?_ GW286.out _ | refine keep_far ?_ GW295.out _) | exact HK.out)) hk (.inl rfl));have n4_:=aQ (hb);have n5_:=aQ (hi);clear BK286;clear HO293;clear BK295;clear HK;clear HB;clear HI0;have BK286:=n0_;have HO293:=n1_;have BK295:=n2_;have HK:=n3_;have HB:=n4_;have HI0:=n5_;clear n0_ n1_ n2_ n3_ n4_ n5_;(try clear hb);(try clear hk);(try clear hi)) | ((with_reducible refine gate_callee (f:=56) rfl ?_);refine goesL_ (some 14) rfl rfl Try.func56 (by kernel_rfl) rfl #[.pointer (some ⟨g,0,none⟩),.int .i64 7] rfl (by (try simp only [List.map_toArray,List.map_cons,List.map_nil]);first | done | rfl | (simp only [List.length_drop,List.length_take];rfl)) ?_;(with_reducible refine (spec_l6Rd_pick.calls k g s0_0 t297 7 t298 t299 w0 _ ?side1 ?side2 A6.out).mono ?_);(case side1=>repeat (first | (with_reducible first | exact HI0.out | apply IsS67.alloc | apply IsS67.drewN | apply IsS67.drew | apply IsS67.set_1 | refine IsS67.far ?_ NB0_286.out _ | refine IsS67.far ?_ NB0_295.out _) | exact HI0.out));(case side2=>repeat (first | (with_reducible first | exact HB.out | apply below_alloc | apply pw_below_drewN | apply below_drew1 | refine below_set ?_ (IsS67.ge HI0.out) | refine below_set ?_ GE286.out | refine below_set ?_ GE295.out) | exact HB.out));rintro e w16 ⟨rfl,hi,hb,hk⟩;refine ⟨_,rfl,?_⟩;have n0_:=aQ (KeepBut.blk hk (g':=gb286) (o:=.cells #[.int .i64 0,.int .i64 0,.slice none 0 0] 29 (0,0)) (by (with_reducible repeat (first | refine blk_drewN ?_ _ | refine blk_drew ?_ | refine blk_alloc ?_ _));exact BK286.out) NB286_0.out (by simp));have n1_:=aQ (Kd.N_mono (Kd.N_keep (Kd.N_mono (ok:=fun k_=>((((w.heap.size ≤ k_))∧(k_ ≠ gb286∧k_ ≠ g))∧k_ ≠ gb295)) (by (with_reducible repeat (first | apply Kd.N_alloc | apply Kd.N_drewN | apply Kd.N_drew));exact HO293.out) (fun k_ hk_=>(⟨hk_,hk_.1.2.2⟩:_∧k_ ≠ g))) hk (fun _ h=>h.2)) (fun _ h=>h.1));have n2_:=aQ (KeepBut.blk hk (g':=gb295) (o:=.cells #[.int .i64 t289,.int .i64 t290,.slice Ao14 t291.length co14] 29 (0,0)) (by (with_reducible repeat (first | refine blk_drewN ?_ _ | refine blk_drew ?_ | refine blk_alloc ?_ _));exact BK295.out) NB295_0.out (by simp));have n3_:=aQ (KeepBut.trans (by repeat (first | (with_reducible first | exact HK.out | apply KeepBut.set_ | apply keep_drewN | apply keep_drew | apply keep_alloc | refine keep_far ?_ GW286.out _ | refine keep_far ?_ GW295.out _) | exact HK.out)) hk (.inl rfl));have n4_:=aQ (hb);have n5_:=aQ (hi);clear BK286;clear HO293;clear BK295;clear HK;clear HB;clear HI0;have BK286:=n0_;have HO293:=n1_;have BK295:=n2_;have HK:=n3_;have HB:=n4_;have HI0:=n5_;clear n0_ n1_ n2_ n3_ n4_ n5_;(try clear hb);(try clear hk);(try clear hi);have hcz17_0:w16.cell? ⟨gb295,0,none⟩ = some (.int .i64 t289):=(blk_cell BK295.out 0).trans rfl;have hcz17_1:w16.cell? ⟨gb295,1,none⟩ = some (.int .i64 t290):=(blk_cell BK295.out 1).trans rfl;have hcz17_2:w16.cell? ⟨gb295,2,none⟩ = some (.slice Ao14 t291.length co14):=(blk_cell BK295.out 2).trans rfl;have hfz17_0:=blk_frozen BK295.out 0;have hfz17_1:=blk_frozen BK295.out 1;have hfz17_2:=blk_frozen BK295.out 2;have hnb18:=NB286_0.out;have hnc18:=NB0_286.out;have hcz19_0:w16.cell? ⟨gb286,0,none⟩ = some (.int .i64 0):=(blk_cell BK286.out 0).trans rfl;have hcz19_1:w16.cell? ⟨gb286,1,none⟩ = some (.int .i64 0):=(blk_cell BK286.out 1).trans rfl;have hcz19_2:w16.cell? ⟨gb286,2,none⟩ = some (.slice none 0 0):=(blk_cell BK286.out 2).trans rfl;have hfz19_0:=blk_frozen BK286.out 0;have hfz19_1:=blk_frozen BK286.out 1;have hfz19_2:=blk_frozen BK286.out 2))
  refine bodyPost_ret (results_cell_row rfl _ _ gb286 29 #[.int .i64 t298,.int .i64 t290,.slice Ao14 t291.length co14] (0,0) _ rfl (by (with_reducible repeat (first | refine blk_drewN ?_ _ | refine blk_drew ?_ | refine blk_alloc ?_ _));refine blk_put (cs:=#[.int .i64 t298,.int .i64 t290,.slice none 0 0]) ?_ 2 _ rfl;(with_reducible repeat (first | refine blk_drewN ?_ _ | refine blk_drew ?_ | refine blk_alloc ?_ _));refine blk_put (cs:=#[.int .i64 t298,.int .i64 0,.slice none 0 0]) ?_ 1 _ rfl;(with_reducible repeat (first | refine blk_drewN ?_ _ | refine blk_drew ?_ | refine blk_alloc ?_ _));refine blk_put (cs:=#[.int .i64 0,.int .i64 0,.slice none 0 0]) ?_ 0 _ rfl;(with_reducible repeat (first | refine blk_drewN ?_ _ | refine blk_drew ?_ | refine blk_alloc ?_ _));refine blk_far ?_ NB286_295.out _;(with_reducible repeat (first | refine blk_drewN ?_ _ | refine blk_drew ?_ | refine blk_alloc ?_ _));exact BK286.out) Try.underlying29 rfl (by kernel_rfl)) rfl ?_
  exact ⟨_,by first | rfl | (simp [errW_none,errW_some] <;> rfl) | (simp [*,errW_none,errW_some] <;> rfl),by (with_reducible repeat (first | apply Kd.N_alloc | apply Kd.N_drewN | apply Kd.N_drew));exact Kd.N_mono (Kd.N_far (p:=⟨gb286,2,none⟩) (Kd.N_far (p:=⟨gb286,1,none⟩) (Kd.N_far (p:=⟨gb286,0,none⟩) (Kd.N_far (p:=⟨gb295,0,none⟩) (Kd.N_mono (Kd.N_mono HO293.out (fun k_ hk=>(⟨hk,hk.2⟩:_∧k_ ≠ gb295))) (fun k_ hk=>(⟨hk,hk.1.1.2.1⟩:_∧k_ ≠ gb286))) (fun _ hk=>hk.1.2) (.int .i64 t298)) (fun _ hk=>hk.2) (.int .i64 t298)) (fun _ hk=>hk.2) (.int .i64 t290)) (fun _ hk=>hk.2) (.slice Ao14 t291.length co14)) (fun _ hk=>hk.1.1.1.1),by repeat (first | (with_reducible first | exact HI0.out | apply IsS67.alloc | apply IsS67.drewN | apply IsS67.drew | apply IsS67.set_1 | refine IsS67.far ?_ NB0_286.out _ | refine IsS67.far ?_ NB0_295.out _) | exact HI0.out),by repeat (first | (with_reducible first | exact HB.out | apply below_alloc | apply pw_below_drewN | apply below_drew1 | refine below_set ?_ (IsS67.ge HI0.out) | refine below_set ?_ GE286.out | refine below_set ?_ GE295.out) | exact HB.out),by repeat (first | (with_reducible first | exact HK.out | apply KeepBut.set_ | apply keep_drewN | apply keep_drew | apply keep_alloc | refine keep_far ?_ GW286.out _ | refine keep_far ?_ GW295.out _) | exact HK.out)⟩
 rw [if_neg c5] at H
 have c5b0:(t296 == 0) = false:=beq_eq_false_iff_ne.mpr c5
 have c5b1:(t296 != 0) = true:=bne_iff_ne.mpr c5
 by_cases c20:t296 = 1;rotate_left
 ·rw [if_neg c20] at H
  have c20b0:(t296 == 1) = false:=beq_eq_false_iff_ne.mpr c20
  have c20b1:(t296 != 1) = true:=bne_iff_ne.mpr c20
  simp only [Option.some.injEq,Prod.mk.injEq] at H
  obtain ⟨rfl,rfl,rfl,rfl⟩:=H
  go_enter Try.func46,Try.ntmps46
  go_wp2_with (first | ((with_reducible refine gate_dst (N:=2) rfl ?_);refine box_event ?hg (N:=2) ?hd (cs:=#[.int .i64 0,.int .i64 0,.slice none 0 0]) (t:=29) ?hr ?_;(case hd=>rfl);(case hg=>rfl);(case hr=>first | (go_simp;done) | (go_simp;rfl));intro gb286 hg w33 hbox hb;have n0_:=aQ (IsS67.below (by repeat (first | (with_reducible first | exact HI0.out | apply IsS67.alloc | apply IsS67.drewN | apply IsS67.drew | apply IsS67.set_1) | exact HI0.out)) hb);have n1_:=aQ (KeepBut.trans (by repeat (first | (with_reducible first | exact HK.out | apply KeepBut.set_ | apply keep_drewN | apply keep_drew | apply keep_alloc) | exact HK.out)) (KeepBut.of_below hb g none) (.inl rfl));have n2_:=aQ (below_step (by repeat (first | (with_reducible first | exact HB.out | apply below_alloc | apply pw_below_drewN | apply below_drew1 | refine below_set ?_ (IsS67.ge HI0.out)) | exact HB.out)) hb);have n3_:=aQ (hbox);have n4_:=aQ ((by rw [hg];exact (keep_size (w:=w) (g:=g) (row:=none) (by repeat (first | (with_reducible first | exact HK.out | apply KeepBut.set_ | apply keep_drewN | apply keep_drew | apply keep_alloc) | exact HK.out))):w.heap.size ≤ gb286));have n5_:=aQ ((Nat.le_trans HW0.out (by rw [hg];exact (keep_size (w:=w) (g:=g) (row:=none) (by repeat (first | (with_reducible first | exact HK.out | apply KeepBut.set_ | apply keep_drewN | apply keep_drew | apply keep_alloc) | exact HK.out))):w.heap.size ≤ gb286):w0.heap.size ≤ gb286));have n6_:=aQ ((by rw [hg];exact Nat.ne_of_lt (IsS67.lt (show IsS67 w0 _ g s0_0 s0_1 from by repeat (first | (with_reducible first | exact HI0.out | apply IsS67.alloc | apply IsS67.drewN | apply IsS67.drew | apply IsS67.set_1) | exact HI0.out))):g ≠ gb286));have n7_:=aQ ((by rw [hg];exact Nat.ne_of_gt (IsS67.lt (show IsS67 w0 _ g s0_0 s0_1 from by repeat (first | (with_reducible first | exact HI0.out | apply IsS67.alloc | apply IsS67.drewN | apply IsS67.drew | apply IsS67.set_1) | exact HI0.out))):gb286 ≠ g));clear HI0;clear HK;clear HB;have HI0:=n0_;have HK:=n1_;have HB:=n2_;have BK286:=n3_;have GW286:=n4_;have GE286:=n5_;have NB0_286:=n6_;have NB286_0:=n7_;clear n0_ n1_ n2_ n3_ n4_ n5_ n6_ n7_;clear hb hbox hg) | ((with_reducible refine gate_callee (f:=56) rfl ?_);refine goesL_ (some 6) rfl rfl Try.func56 (by kernel_rfl) rfl #[.pointer (some ⟨g,0,none⟩),.int .i64 4] rfl (by (try simp only [List.map_toArray,List.map_cons,List.map_nil]);first | done | rfl | (simp only [List.length_drop,List.length_take];rfl)) ?_;(with_reducible refine (spec_l6Rd_pick.calls k g s0_0 s0_1 4 t287 t288 w0 _ ?side1 ?side2 A2.out).mono ?_);(case side1=>repeat (first | (with_reducible first | exact HI0.out | apply IsS67.alloc | apply IsS67.drewN | apply IsS67.drew | apply IsS67.set_1 | refine IsS67.far ?_ NB0_286.out _) | exact HI0.out));(case side2=>repeat (first | (with_reducible first | exact HB.out | apply below_alloc | apply pw_below_drewN | apply below_drew1 | refine below_set ?_ (IsS67.ge HI0.out) | refine below_set ?_ GE286.out) | exact HB.out));rintro e w34 ⟨rfl,hi,hb,hk⟩;refine ⟨_,rfl,?_⟩;have n0_:=aQ (KeepBut.blk hk (g':=gb286) (o:=.cells #[.int .i64 0,.int .i64 0,.slice none 0 0] 29 (0,0)) (by (with_reducible repeat (first | refine blk_drewN ?_ _ | refine blk_drew ?_ | refine blk_alloc ?_ _));exact BK286.out) NB286_0.out (by simp));have n1_:=aQ (KeepBut.trans (by repeat (first | (with_reducible first | exact HK.out | apply KeepBut.set_ | apply keep_drewN | apply keep_drew | apply keep_alloc | refine keep_far ?_ GW286.out _) | exact HK.out)) hk (.inl rfl));have n2_:=aQ (hb);have n3_:=aQ (hi);clear BK286;clear HK;clear HB;clear HI0;have BK286:=n0_;have HK:=n1_;have HB:=n2_;have HI0:=n3_;clear n0_ n1_ n2_ n3_;(try clear hb);(try clear hk);(try clear hi)) | ((with_reducible refine gate_callee (f:=61) rfl ?_);refine goesL_ (some 8) rfl rfl Try.func61 (by kernel_rfl) rfl #[.pointer (some ⟨g,0,none⟩),.int .i64 (wrap64 (1 + t287))] rfl (by (try simp only [List.map_toArray,List.map_cons,List.map_nil]);first | done | rfl | (simp only [List.length_drop,List.length_take];rfl)) ?_;(with_reducible refine (spec_l92Clock.calls k g s0_0 t288 (wrap64 (1 + t287)) t289 t290 t291 t294 w0 _ ?side1 ?side2 A3.out).mono ?_);(case side1=>repeat (first | (with_reducible first | exact HI0.out | apply IsS67.alloc | apply IsS67.drewN | apply IsS67.drew | apply IsS67.set_1 | refine IsS67.far ?_ NB0_286.out _) | exact HI0.out));(case side2=>repeat (first | (with_reducible first | exact HB.out | apply below_alloc | apply pw_below_drewN | apply below_drew1 | refine below_set ?_ (IsS67.ge HI0.out) | refine below_set ?_ GE286.out) | exact HB.out));rintro e w35 ⟨v292,rfl,ho0,hi,hb,hk⟩;refine ⟨_,rfl,?_⟩;have n0_:=aQ (KeepBut.blk hk (g':=gb286) (o:=.cells #[.int .i64 0,.int .i64 0,.slice none 0 0] 29 (0,0)) (by (with_reducible repeat (first | refine blk_drewN ?_ _ | refine blk_drew ?_ | refine blk_alloc ?_ _));exact BK286.out) NB286_0.out (by simp));have n1_:=aQ (Kd.N_lower (Kd.N_mono (ok':=fun k_=>(w.heap.size ≤ k_)∧k_ ≠ gb286∧k_ ≠ g) ho0 (fun k_ hk_=>⟨(Nat.le_trans (keep_size (w:=w) (g:=g) (row:=none) (by repeat (first | (with_reducible first | exact HK.out | apply KeepBut.set_ | apply keep_drewN | apply keep_drew | apply keep_alloc | refine keep_far ?_ GW286.out _) | exact HK.out))) hk_),(Kd.freshB (g:=gb286) (o:=.cells #[.int .i64 0,.int .i64 0,.slice none 0 0] 29 (0,0)) (by (with_reducible repeat (first | refine blk_drewN ?_ _ | refine blk_drew ?_ | refine blk_alloc ?_ _));exact BK286.out) k_ hk_),(IsS67.fresh (by repeat (first | (with_reducible first | exact HI0.out | apply IsS67.alloc | apply IsS67.drewN | apply IsS67.drew | apply IsS67.set_1 | refine IsS67.far ?_ NB0_286.out _) | exact HI0.out)) k_ hk_)⟩)) (keep_size (w:=w) (g:=g) (row:=none) (by repeat (first | (with_reducible first | exact HK.out | apply KeepBut.set_ | apply keep_drewN | apply keep_drew | apply keep_alloc | refine keep_far ?_ GW286.out _) | exact HK.out))));have n2_:=aQ (KeepBut.trans (by repeat (first | (with_reducible first | exact HK.out | apply KeepBut.set_ | apply keep_drewN | apply keep_drew | apply keep_alloc | refine keep_far ?_ GW286.out _) | exact HK.out)) hk (.inl rfl));have n3_:=aQ (hb);have n4_:=aQ (hi);clear BK286;clear HK;clear HB;clear HI0;have BK286:=n0_;have HO293:=n1_;have HK:=n2_;have HB:=n3_;have HI0:=n4_;clear n0_ n1_ n2_ n3_ n4_;(try clear hb);(try clear hk);(try clear hi);(try clear ho0)) | ((with_reducible refine gate_dst (N:=3) rfl ?_);refine box_event ?hg (N:=3) ?hd (cs:=#[.int .i64 0,.int .i64 0,.slice none 0 0]) (t:=29) ?hr ?_;(case hd=>rfl);(case hg=>rfl);(case hr=>first | (go_simp;done) | (go_simp;rfl));intro gb295 hg w36 hbox hb;have n0_:=aQ (Kd.N_below (Kd.N_elderB (by (with_reducible repeat (first | apply Kd.N_alloc | apply Kd.N_drewN | apply Kd.N_drew));exact HO293.out) gb295 (Nat.le_of_eq hg.symm)) hb);have n1_:=aQ (IsS67.below (by repeat (first | (with_reducible first | exact HI0.out | apply IsS67.alloc | apply IsS67.drewN | apply IsS67.drew | apply IsS67.set_1 | refine IsS67.far ?_ NB0_286.out _) | exact HI0.out)) hb);have n2_:=aQ (blk_below (g:=gb286) (o:=.cells #[.int .i64 0,.int .i64 0,.slice none 0 0] 29 (0,0)) (by (with_reducible repeat (first | refine blk_drewN ?_ _ | refine blk_drew ?_ | refine blk_alloc ?_ _));exact BK286.out) hb);have n3_:=aQ (KeepBut.trans (by repeat (first | (with_reducible first | exact HK.out | apply KeepBut.set_ | apply keep_drewN | apply keep_drew | apply keep_alloc | refine keep_far ?_ GW286.out _) | exact HK.out)) (KeepBut.of_below hb g none) (.inl rfl));have n4_:=aQ (below_step (by repeat (first | (with_reducible first | exact HB.out | apply below_alloc | apply pw_below_drewN | apply below_drew1 | refine below_set ?_ (IsS67.ge HI0.out) | refine below_set ?_ GE286.out) | exact HB.out)) hb);have n5_:=aQ (hbox);have n6_:=aQ ((by rw [hg];exact (keep_size (w:=w) (g:=g) (row:=none) (by repeat (first | (with_reducible first | exact HK.out | apply KeepBut.set_ | apply keep_drewN | apply keep_drew | apply keep_alloc | refine keep_far ?_ GW286.out _) | exact HK.out))):w.heap.size ≤ gb295));have n7_:=aQ ((Nat.le_trans HW0.out (by rw [hg];exact (keep_size (w:=w) (g:=g) (row:=none) (by repeat (first | (with_reducible first | exact HK.out | apply KeepBut.set_ | apply keep_drewN | apply keep_drew | apply keep_alloc | refine keep_far ?_ GW286.out _) | exact HK.out))):w.heap.size ≤ gb295):w0.heap.size ≤ gb295));have n8_:=aQ ((by rw [hg];exact Nat.ne_of_lt (blk_lt (g:=gb286) (o:=.cells #[.int .i64 0,.int .i64 0,.slice none 0 0] 29 (0,0)) (by (with_reducible repeat (first | refine blk_drewN ?_ _ | refine blk_drew ?_ | refine blk_alloc ?_ _));exact BK286.out)):gb286 ≠ gb295));have n9_:=aQ ((by rw [hg];exact Nat.ne_of_gt (blk_lt (g:=gb286) (o:=.cells #[.int .i64 0,.int .i64 0,.slice none 0 0] 29 (0,0)) (by (with_reducible repeat (first | refine blk_drewN ?_ _ | refine blk_drew ?_ | refine blk_alloc ?_ _));exact BK286.out)):gb295 ≠ gb286));have n10_:=aQ ((by rw [hg];exact Nat.ne_of_lt (IsS67.lt (show IsS67 w0 _ g s0_0 t294 from by repeat (first | (with_reducible first | exact HI0.out | apply IsS67.alloc | apply IsS67.drewN | apply IsS67.drew | apply IsS67.set_1 | refine IsS67.far ?_ NB0_286.out _) | exact HI0.out))):g ≠ gb295));have n11_:=aQ ((by rw [hg];exact Nat.ne_of_gt (IsS67.lt (show IsS67 w0 _ g s0_0 t294 from by repeat (first | (with_reducible first | exact HI0.out | apply IsS67.alloc | apply IsS67.drewN | apply IsS67.drew | apply IsS67.set_1 | refine IsS67.far ?_ NB0_286.out _) | exact HI0.out))):gb295 ≠ g));clear HO293;clear HI0;clear BK286;clear HK;clear HB;have HO293:=n0_;have HI0:=n1_;have BK286:=n2_;have HK:=n3_;have HB:=n4_;have BK295:=n5_;have GW295:=n6_;have GE295:=n7_;have NB286_295:=n8_;have NB295_286:=n9_;have NB0_295:=n10_;have NB295_0:=n11_;clear n0_ n1_ n2_ n3_ n4_ n5_ n6_ n7_ n8_ n9_ n10_ n11_;clear hb hbox hg;have hnb37:=NB295_286.out;have hnc37:=NB286_295.out;have hnb38:=NB295_0.out;have hnc38:=NB0_295.out;have hcz39_0:w36.cell? ⟨gb295,0,none⟩ = some (.int .i64 0):=(blk_cell BK295.out 0).trans rfl;have hcz39_1:w36.cell? ⟨gb295,1,none⟩ = some (.int .i64 0):=(blk_cell BK295.out 1).trans rfl;have hcz39_2:w36.cell? ⟨gb295,2,none⟩ = some (.slice none 0 0):=(blk_cell BK295.out 2).trans rfl;have hfz39_0:=blk_frozen BK295.out 0;have hfz39_1:=blk_frozen BK295.out 1;have hfz39_2:=blk_frozen BK295.out 2;obtain ⟨Ao40,co40,eo40⟩:=Kd.N_slice HO293.out;subst eo40) | ((with_reducible refine gate_callee (f:=56) rfl ?_);refine goesL_ (some 10) rfl rfl Try.func56 (by kernel_rfl) rfl #[.pointer (some ⟨g,0,none⟩),.int .i64 30] rfl (by (try simp only [List.map_toArray,List.map_cons,List.map_nil]);first | done | rfl | (simp only [List.length_drop,List.length_take];rfl)) ?_;(with_reducible refine (spec_l6Rd_pick.calls k g s0_0 t294 30 t296 t297 w0 _ ?side1 ?side2 A4.out).mono ?_);(case side1=>repeat (first | (with_reducible first | exact HI0.out | apply IsS67.alloc | apply IsS67.drewN | apply IsS67.drew | apply IsS67.set_1 | refine IsS67.far ?_ NB0_286.out _ | refine IsS67.far ?_ NB0_295.out _) | exact HI0.out));(case side2=>repeat (first | (with_reducible first | exact HB.out | apply below_alloc | apply pw_below_drewN | apply below_drew1 | refine below_set ?_ (IsS67.ge HI0.out) | refine below_set ?_ GE286.out | refine below_set ?_ GE295.out) | exact HB.out));rintro e w41 ⟨rfl,hi,hb,hk⟩;refine ⟨_,rfl,?_⟩;have n0_:=aQ (KeepBut.blk hk (g':=gb286) (o:=.cells #[.int .i64 0,.int .i64 0,.slice none 0 0] 29 (0,0)) (by (with_reducible repeat (first | refine blk_drewN ?_ _ | refine blk_drew ?_ | refine blk_alloc ?_ _));refine blk_far ?_ NB286_295.out _;(with_reducible repeat (first | refine blk_drewN ?_ _ | refine blk_drew ?_ | refine blk_alloc ?_ _));refine blk_far ?_ NB286_295.out _;(with_reducible repeat (first | refine blk_drewN ?_ _ | refine blk_drew ?_ | refine blk_alloc ?_ _));refine blk_far ?_ NB286_295.out _;(with_reducible repeat (first | refine blk_drewN ?_ _ | refine blk_drew ?_ | refine blk_alloc ?_ _));exact BK286.out) NB286_0.out (by simp));have n1_:=aQ (Kd.N_mono (Kd.N_keep (Kd.N_mono (ok:=fun k_=>((((w.heap.size ≤ k_))∧(k_ ≠ gb286∧k_ ≠ g))∧k_ ≠ gb295)) (by (with_reducible repeat (first | apply Kd.N_alloc | apply Kd.N_drewN | apply Kd.N_drew));exact (Kd.N_mono (Kd.N_far (p:=⟨gb295,2,none⟩) (Kd.N_far (p:=⟨gb295,1,none⟩) (Kd.N_far (p:=⟨gb295,0,none⟩) (Kd.N_mono HO293.out (fun k_ hk=>(⟨hk,hk.2⟩:_∧k_ ≠ gb295))) (fun _ hk=>hk.2) (.int .i64 t289)) (fun _ hk=>hk.2) (.int .i64 t290)) (fun _ hk=>hk.2) (.slice Ao40 t291.length co40)) (fun _ h_=>h_.1))) (fun k_ hk_=>(⟨hk_,hk_.1.2.2⟩:_∧k_ ≠ g))) hk (fun _ h=>h.2)) (fun _ h=>h.1));have n2_:=aQ (KeepBut.blk hk (g':=gb295) (o:=.cells #[.int .i64 t289,.int .i64 t290,.slice Ao40 t291.length co40] 29 (0,0)) (by (with_reducible repeat (first | refine blk_drewN ?_ _ | refine blk_drew ?_ | refine blk_alloc ?_ _));refine blk_put (cs:=#[.int .i64 t289,.int .i64 t290,.slice none 0 0]) ?_ 2 _ rfl;(with_reducible repeat (first | refine blk_drewN ?_ _ | refine blk_drew ?_ | refine blk_alloc ?_ _));refine blk_put (cs:=#[.int .i64 t289,.int .i64 0,.slice none 0 0]) ?_ 1 _ rfl;(with_reducible repeat (first | refine blk_drewN ?_ _ | refine blk_drew ?_ | refine blk_alloc ?_ _));refine blk_put (cs:=#[.int .i64 0,.int .i64 0,.slice none 0 0]) ?_ 0 _ rfl;(with_reducible repeat (first | refine blk_drewN ?_ _ | refine blk_drew ?_ | refine blk_alloc ?_ _));exact BK295.out) NB295_0.out (by simp));have n3_:=aQ (KeepBut.trans (by repeat (first | (with_reducible first | exact HK.out | apply KeepBut.set_ | apply keep_drewN | apply keep_drew | apply keep_alloc | refine keep_far ?_ GW286.out _ | refine keep_far ?_ GW295.out _) | exact HK.out)) hk (.inl rfl));have n4_:=aQ (hb);have n5_:=aQ (hi);clear BK286;clear HO293;clear BK295;clear HK;clear HB;clear HI0;have BK286:=n0_;have HO293:=n1_;have BK295:=n2_;have HK:=n3_;have HB:=n4_;have HI0:=n5_;clear n0_ n1_ n2_ n3_ n4_ n5_;(try clear hb);(try clear hk);(try clear hi);have hcz42_0:w41.cell? ⟨gb295,0,none⟩ = some (.int .i64 t289):=(blk_cell BK295.out 0).trans rfl;have hcz42_1:w41.cell? ⟨gb295,1,none⟩ = some (.int .i64 t290):=(blk_cell BK295.out 1).trans rfl;have hcz42_2:w41.cell? ⟨gb295,2,none⟩ = some (.slice Ao40 t291.length co40):=(blk_cell BK295.out 2).trans rfl;have hfz42_0:=blk_frozen BK295.out 0;have hfz42_1:=blk_frozen BK295.out 1;have hfz42_2:=blk_frozen BK295.out 2;have hnb43:=NB286_0.out;have hnc43:=NB0_286.out;have hcz44_0:w41.cell? ⟨gb286,0,none⟩ = some (.int .i64 0):=(blk_cell BK286.out 0).trans rfl;have hcz44_1:w41.cell? ⟨gb286,1,none⟩ = some (.int .i64 0):=(blk_cell BK286.out 1).trans rfl;have hcz44_2:w41.cell? ⟨gb286,2,none⟩ = some (.slice none 0 0):=(blk_cell BK286.out 2).trans rfl;have hfz44_0:=blk_frozen BK286.out 0;have hfz44_1:=blk_frozen BK286.out 1;have hfz44_2:=blk_frozen BK286.out 2))
  refine bodyPost_ret (results_cell_row rfl _ _ gb286 29 #[.int .i64 t289,.int .i64 t290,.slice Ao40 t291.length co40] (0,0) _ rfl (by (with_reducible repeat (first | refine blk_drewN ?_ _ | refine blk_drew ?_ | refine blk_alloc ?_ _));refine blk_put (cs:=#[.int .i64 t289,.int .i64 t290,.slice none 0 0]) ?_ 2 _ rfl;(with_reducible repeat (first | refine blk_drewN ?_ _ | refine blk_drew ?_ | refine blk_alloc ?_ _));refine blk_put (cs:=#[.int .i64 t289,.int .i64 0,.slice none 0 0]) ?_ 1 _ rfl;(with_reducible repeat (first | refine blk_drewN ?_ _ | refine blk_drew ?_ | refine blk_alloc ?_ _));refine blk_put (cs:=#[.int .i64 0,.int .i64 0,.slice none 0 0]) ?_ 0 _ rfl;(with_reducible repeat (first | refine blk_drewN ?_ _ | refine blk_drew ?_ | refine blk_alloc ?_ _));exact BK286.out) Try.underlying29 rfl (by kernel_rfl)) rfl ?_
  exact ⟨_,by first | rfl | (simp [errW_none,errW_some] <;> rfl) | (simp [*,errW_none,errW_some] <;> rfl),by (with_reducible repeat (first | apply Kd.N_alloc | apply Kd.N_drewN | apply Kd.N_drew));exact Kd.N_mono (Kd.N_far (p:=⟨gb286,2,none⟩) (Kd.N_far (p:=⟨gb286,1,none⟩) (Kd.N_far (p:=⟨gb286,0,none⟩) (Kd.N_mono HO293.out (fun k_ hk=>(⟨hk,hk.1.2.1⟩:_∧k_ ≠ gb286))) (fun _ hk=>hk.2) (.int .i64 t289)) (fun _ hk=>hk.2) (.int .i64 t290)) (fun _ hk=>hk.2) (.slice Ao40 t291.length co40)) (fun _ hk=>hk.1.1.1),by repeat (first | (with_reducible first | exact HI0.out | apply IsS67.alloc | apply IsS67.drewN | apply IsS67.drew | apply IsS67.set_1 | refine IsS67.far ?_ NB0_286.out _ | refine IsS67.far ?_ NB0_295.out _) | exact HI0.out),by repeat (first | (with_reducible first | exact HB.out | apply below_alloc | apply pw_below_drewN | apply below_drew1 | refine below_set ?_ (IsS67.ge HI0.out) | refine below_set ?_ GE286.out | refine below_set ?_ GE295.out) | exact HB.out),by repeat (first | (with_reducible first | exact HK.out | apply KeepBut.set_ | apply keep_drewN | apply keep_drew | apply keep_alloc | refine keep_far ?_ GW286.out _ | refine keep_far ?_ GW295.out _) | exact HK.out)⟩
 rw [if_pos c20] at H
 have c20b0:(t296 == 1) = true:=beq_iff_eq.mpr c20
 have c20b1:(t296 != 1) = false:=bne_eq_false_iff_eq.mpr c20
 clear c20
 simp only [Option.some.injEq,Prod.mk.injEq] at H
 obtain ⟨rfl,rfl,rfl,rfl⟩:=H
 go_enter Try.func46,Try.ntmps46
 go_wp2_with (first | ((with_reducible refine gate_dst (N:=2) rfl ?_);refine box_event ?hg (N:=2) ?hd (cs:=#[.int .i64 0,.int .i64 0,.slice none 0 0]) (t:=29) ?hr ?_;(case hd=>rfl);(case hg=>rfl);(case hr=>first | (go_simp;done) | (go_simp;rfl));intro gb286 hg w21 hbox hb;have n0_:=aQ (IsS67.below (by repeat (first | (with_reducible first | exact HI0.out | apply IsS67.alloc | apply IsS67.drewN | apply IsS67.drew | apply IsS67.set_1) | exact HI0.out)) hb);have n1_:=aQ (KeepBut.trans (by repeat (first | (with_reducible first | exact HK.out | apply KeepBut.set_ | apply keep_drewN | apply keep_drew | apply keep_alloc) | exact HK.out)) (KeepBut.of_below hb g none) (.inl rfl));have n2_:=aQ (below_step (by repeat (first | (with_reducible first | exact HB.out | apply below_alloc | apply pw_below_drewN | apply below_drew1 | refine below_set ?_ (IsS67.ge HI0.out)) | exact HB.out)) hb);have n3_:=aQ (hbox);have n4_:=aQ ((by rw [hg];exact (keep_size (w:=w) (g:=g) (row:=none) (by repeat (first | (with_reducible first | exact HK.out | apply KeepBut.set_ | apply keep_drewN | apply keep_drew | apply keep_alloc) | exact HK.out))):w.heap.size ≤ gb286));have n5_:=aQ ((Nat.le_trans HW0.out (by rw [hg];exact (keep_size (w:=w) (g:=g) (row:=none) (by repeat (first | (with_reducible first | exact HK.out | apply KeepBut.set_ | apply keep_drewN | apply keep_drew | apply keep_alloc) | exact HK.out))):w.heap.size ≤ gb286):w0.heap.size ≤ gb286));have n6_:=aQ ((by rw [hg];exact Nat.ne_of_lt (IsS67.lt (show IsS67 w0 _ g s0_0 s0_1 from by repeat (first | (with_reducible first | exact HI0.out | apply IsS67.alloc | apply IsS67.drewN | apply IsS67.drew | apply IsS67.set_1) | exact HI0.out))):g ≠ gb286));have n7_:=aQ ((by rw [hg];exact Nat.ne_of_gt (IsS67.lt (show IsS67 w0 _ g s0_0 s0_1 from by repeat (first | (with_reducible first | exact HI0.out | apply IsS67.alloc | apply IsS67.drewN | apply IsS67.drew | apply IsS67.set_1) | exact HI0.out))):gb286 ≠ g));clear HI0;clear HK;clear HB;have HI0:=n0_;have HK:=n1_;have HB:=n2_;have BK286:=n3_;have GW286:=n4_;have GE286:=n5_;have NB0_286:=n6_;have NB286_0:=n7_;clear n0_ n1_ n2_ n3_ n4_ n5_ n6_ n7_;clear hb hbox hg) | ((with_reducible refine gate_callee (f:=56) rfl ?_);refine goesL_ (some 6) rfl rfl Try.func56 (by kernel_rfl) rfl #[.pointer (some ⟨g,0,none⟩),.int .i64 4] rfl (by (try simp only [List.map_toArray,List.map_cons,List.map_nil]);first | done | rfl | (simp only [List.length_drop,List.length_take];rfl)) ?_;(with_reducible refine (spec_l6Rd_pick.calls k g s0_0 s0_1 4 t287 t288 w0 _ ?side1 ?side2 A2.out).mono ?_);(case side1=>repeat (first | (with_reducible first | exact HI0.out | apply IsS67.alloc | apply IsS67.drewN | apply IsS67.drew | apply IsS67.set_1 | refine IsS67.far ?_ NB0_286.out _) | exact HI0.out));(case side2=>repeat (first | (with_reducible first | exact HB.out | apply below_alloc | apply pw_below_drewN | apply below_drew1 | refine below_set ?_ (IsS67.ge HI0.out) | refine below_set ?_ GE286.out) | exact HB.out));rintro e w22 ⟨rfl,hi,hb,hk⟩;refine ⟨_,rfl,?_⟩;have n0_:=aQ (KeepBut.blk hk (g':=gb286) (o:=.cells #[.int .i64 0,.int .i64 0,.slice none 0 0] 29 (0,0)) (by (with_reducible repeat (first | refine blk_drewN ?_ _ | refine blk_drew ?_ | refine blk_alloc ?_ _));exact BK286.out) NB286_0.out (by simp));have n1_:=aQ (KeepBut.trans (by repeat (first | (with_reducible first | exact HK.out | apply KeepBut.set_ | apply keep_drewN | apply keep_drew | apply keep_alloc | refine keep_far ?_ GW286.out _) | exact HK.out)) hk (.inl rfl));have n2_:=aQ (hb);have n3_:=aQ (hi);clear BK286;clear HK;clear HB;clear HI0;have BK286:=n0_;have HK:=n1_;have HB:=n2_;have HI0:=n3_;clear n0_ n1_ n2_ n3_;(try clear hb);(try clear hk);(try clear hi)) | ((with_reducible refine gate_callee (f:=61) rfl ?_);refine goesL_ (some 8) rfl rfl Try.func61 (by kernel_rfl) rfl #[.pointer (some ⟨g,0,none⟩),.int .i64 (wrap64 (1 + t287))] rfl (by (try simp only [List.map_toArray,List.map_cons,List.map_nil]);first | done | rfl | (simp only [List.length_drop,List.length_take];rfl)) ?_;(with_reducible refine (spec_l92Clock.calls k g s0_0 t288 (wrap64 (1 + t287)) t289 t290 t291 t294 w0 _ ?side1 ?side2 A3.out).mono ?_);(case side1=>repeat (first | (with_reducible first | exact HI0.out | apply IsS67.alloc | apply IsS67.drewN | apply IsS67.drew | apply IsS67.set_1 | refine IsS67.far ?_ NB0_286.out _) | exact HI0.out));(case side2=>repeat (first | (with_reducible first | exact HB.out | apply below_alloc | apply pw_below_drewN | apply below_drew1 | refine below_set ?_ (IsS67.ge HI0.out) | refine below_set ?_ GE286.out) | exact HB.out));rintro e w23 ⟨v292,rfl,ho0,hi,hb,hk⟩;refine ⟨_,rfl,?_⟩;have n0_:=aQ (KeepBut.blk hk (g':=gb286) (o:=.cells #[.int .i64 0,.int .i64 0,.slice none 0 0] 29 (0,0)) (by (with_reducible repeat (first | refine blk_drewN ?_ _ | refine blk_drew ?_ | refine blk_alloc ?_ _));exact BK286.out) NB286_0.out (by simp));have n1_:=aQ (Kd.N_lower (Kd.N_mono (ok':=fun k_=>(w.heap.size ≤ k_)∧k_ ≠ gb286∧k_ ≠ g) ho0 (fun k_ hk_=>⟨(Nat.le_trans (keep_size (w:=w) (g:=g) (row:=none) (by repeat (first | (with_reducible first | exact HK.out | apply KeepBut.set_ | apply keep_drewN | apply keep_drew | apply keep_alloc | refine keep_far ?_ GW286.out _) | exact HK.out))) hk_),(Kd.freshB (g:=gb286) (o:=.cells #[.int .i64 0,.int .i64 0,.slice none 0 0] 29 (0,0)) (by (with_reducible repeat (first | refine blk_drewN ?_ _ | refine blk_drew ?_ | refine blk_alloc ?_ _));exact BK286.out) k_ hk_),(IsS67.fresh (by repeat (first | (with_reducible first | exact HI0.out | apply IsS67.alloc | apply IsS67.drewN | apply IsS67.drew | apply IsS67.set_1 | refine IsS67.far ?_ NB0_286.out _) | exact HI0.out)) k_ hk_)⟩)) (keep_size (w:=w) (g:=g) (row:=none) (by repeat (first | (with_reducible first | exact HK.out | apply KeepBut.set_ | apply keep_drewN | apply keep_drew | apply keep_alloc | refine keep_far ?_ GW286.out _) | exact HK.out))));have n2_:=aQ (KeepBut.trans (by repeat (first | (with_reducible first | exact HK.out | apply KeepBut.set_ | apply keep_drewN | apply keep_drew | apply keep_alloc | refine keep_far ?_ GW286.out _) | exact HK.out)) hk (.inl rfl));have n3_:=aQ (hb);have n4_:=aQ (hi);clear BK286;clear HK;clear HB;clear HI0;have BK286:=n0_;have HO293:=n1_;have HK:=n2_;have HB:=n3_;have HI0:=n4_;clear n0_ n1_ n2_ n3_ n4_;(try clear hb);(try clear hk);(try clear hi);(try clear ho0)) | ((with_reducible refine gate_dst (N:=3) rfl ?_);refine box_event ?hg (N:=3) ?hd (cs:=#[.int .i64 0,.int .i64 0,.slice none 0 0]) (t:=29) ?hr ?_;(case hd=>rfl);(case hg=>rfl);(case hr=>first | (go_simp;done) | (go_simp;rfl));intro gb295 hg w24 hbox hb;have n0_:=aQ (Kd.N_below (Kd.N_elderB (by (with_reducible repeat (first | apply Kd.N_alloc | apply Kd.N_drewN | apply Kd.N_drew));exact HO293.out) gb295 (Nat.le_of_eq hg.symm)) hb);have n1_:=aQ (IsS67.below (by repeat (first | (with_reducible first | exact HI0.out | apply IsS67.alloc | apply IsS67.drewN | apply IsS67.drew | apply IsS67.set_1 | refine IsS67.far ?_ NB0_286.out _) | exact HI0.out)) hb);have n2_:=aQ (blk_below (g:=gb286) (o:=.cells #[.int .i64 0,.int .i64 0,.slice none 0 0] 29 (0,0)) (by (with_reducible repeat (first | refine blk_drewN ?_ _ | refine blk_drew ?_ | refine blk_alloc ?_ _));exact BK286.out) hb);have n3_:=aQ (KeepBut.trans (by repeat (first | (with_reducible first | exact HK.out | apply KeepBut.set_ | apply keep_drewN | apply keep_drew | apply keep_alloc | refine keep_far ?_ GW286.out _) | exact HK.out)) (KeepBut.of_below hb g none) (.inl rfl));have n4_:=aQ (below_step (by repeat (first | (with_reducible first | exact HB.out | apply below_alloc | apply pw_below_drewN | apply below_drew1 | refine below_set ?_ (IsS67.ge HI0.out) | refine below_set ?_ GE286.out) | exact HB.out)) hb);have n5_:=aQ (hbox);have n6_:=aQ ((by rw [hg];exact (keep_size (w:=w) (g:=g) (row:=none) (by repeat (first | (with_reducible first | exact HK.out | apply KeepBut.set_ | apply keep_drewN | apply keep_drew | apply keep_alloc | refine keep_far ?_ GW286.out _) | exact HK.out))):w.heap.size ≤ gb295));have n7_:=aQ ((Nat.le_trans HW0.out (by rw [hg];exact (keep_size (w:=w) (g:=g) (row:=none) (by repeat (first | (with_reducible first | exact HK.out | apply KeepBut.set_ | apply keep_drewN | apply keep_drew | apply keep_alloc | refine keep_far ?_ GW286.out _) | exact HK.out))):w.heap.size ≤ gb295):w0.heap.size ≤ gb295));have n8_:=aQ ((by rw [hg];exact Nat.ne_of_lt (blk_lt (g:=gb286) (o:=.cells #[.int .i64 0,.int .i64 0,.slice none 0 0] 29 (0,0)) (by (with_reducible repeat (first | refine blk_drewN ?_ _ | refine blk_drew ?_ | refine blk_alloc ?_ _));exact BK286.out)):gb286 ≠ gb295));have n9_:=aQ ((by rw [hg];exact Nat.ne_of_gt (blk_lt (g:=gb286) (o:=.cells #[.int .i64 0,.int .i64 0,.slice none 0 0] 29 (0,0)) (by (with_reducible repeat (first | refine blk_drewN ?_ _ | refine blk_drew ?_ | refine blk_alloc ?_ _));exact BK286.out)):gb295 ≠ gb286));have n10_:=aQ ((by rw [hg];exact Nat.ne_of_lt (IsS67.lt (show IsS67 w0 _ g s0_0 t294 from by repeat (first | (with_reducible first | exact HI0.out | apply IsS67.alloc | apply IsS67.drewN | apply IsS67.drew | apply IsS67.set_1 | refine IsS67.far ?_ NB0_286.out _) | exact HI0.out))):g ≠ gb295));have n11_:=aQ ((by rw [hg];exact Nat.ne_of_gt (IsS67.lt (show IsS67 w0 _ g s0_0 t294 from by repeat (first | (with_reducible first | exact HI0.out | apply IsS67.alloc | apply IsS67.drewN | apply IsS67.drew | apply IsS67.set_1 | refine IsS67.far ?_ NB0_286.out _) | exact HI0.out))):gb295 ≠ g));clear HO293;clear HI0;clear BK286;clear HK;clear HB;have HO293:=n0_;have HI0:=n1_;have BK286:=n2_;have HK:=n3_;have HB:=n4_;have BK295:=n5_;have GW295:=n6_;have GE295:=n7_;have NB286_295:=n8_;have NB295_286:=n9_;have NB0_295:=n10_;have NB295_0:=n11_;clear n0_ n1_ n2_ n3_ n4_ n5_ n6_ n7_ n8_ n9_ n10_ n11_;clear hb hbox hg;have hnb25:=NB295_286.out;have hnc25:=NB286_295.out;have hnb26:=NB295_0.out;have hnc26:=NB0_295.out;have hcz27_0:w24.cell? ⟨gb295,0,none⟩ = some (.int .i64 0):=(blk_cell BK295.out 0).trans rfl;have hcz27_1:w24.cell? ⟨gb295,1,none⟩ = some (.int .i64 0):=(blk_cell BK295.out 1).trans rfl;have hcz27_2:w24.cell? ⟨gb295,2,none⟩ = some (.slice none 0 0):=(blk_cell BK295.out 2).trans rfl;have hfz27_0:=blk_frozen BK295.out 0;have hfz27_1:=blk_frozen BK295.out 1;have hfz27_2:=blk_frozen BK295.out 2;obtain ⟨Ao28,co28,eo28⟩:=Kd.N_slice HO293.out;subst eo28) | ((with_reducible refine gate_callee (f:=56) rfl ?_);refine goesL_ (some 10) rfl rfl Try.func56 (by kernel_rfl) rfl #[.pointer (some ⟨g,0,none⟩),.int .i64 30] rfl (by (try simp only [List.map_toArray,List.map_cons,List.map_nil]);first | done | rfl | (simp only [List.length_drop,List.length_take];rfl)) ?_;(with_reducible refine (spec_l6Rd_pick.calls k g s0_0 t294 30 t296 t297 w0 _ ?side1 ?side2 A4.out).mono ?_);(case side1=>repeat (first | (with_reducible first | exact HI0.out | apply IsS67.alloc | apply IsS67.drewN | apply IsS67.drew | apply IsS67.set_1 | refine IsS67.far ?_ NB0_286.out _ | refine IsS67.far ?_ NB0_295.out _) | exact HI0.out));(case side2=>repeat (first | (with_reducible first | exact HB.out | apply below_alloc | apply pw_below_drewN | apply below_drew1 | refine below_set ?_ (IsS67.ge HI0.out) | refine below_set ?_ GE286.out | refine below_set ?_ GE295.out) | exact HB.out));rintro e w29 ⟨rfl,hi,hb,hk⟩;refine ⟨_,rfl,?_⟩;have n0_:=aQ (KeepBut.blk hk (g':=gb286) (o:=.cells #[.int .i64 0,.int .i64 0,.slice none 0 0] 29 (0,0)) (by (with_reducible repeat (first | refine blk_drewN ?_ _ | refine blk_drew ?_ | refine blk_alloc ?_ _));refine blk_far ?_ NB286_295.out _;(with_reducible repeat (first | refine blk_drewN ?_ _ | refine blk_drew ?_ | refine blk_alloc ?_ _));refine blk_far ?_ NB286_295.out _;(with_reducible repeat (first | refine blk_drewN ?_ _ | refine blk_drew ?_ | refine blk_alloc ?_ _));refine blk_far ?_ NB286_295.out _;(with_reducible repeat (first | refine blk_drewN ?_ _ | refine blk_drew ?_ | refine blk_alloc ?_ _));exact BK286.out) NB286_0.out (by simp));have n1_:=aQ (Kd.N_mono (Kd.N_keep (Kd.N_mono (ok:=fun k_=>((((w.heap.size ≤ k_))∧(k_ ≠ gb286∧k_ ≠ g))∧k_ ≠ gb295)) (by (with_reducible repeat (first | apply Kd.N_alloc | apply Kd.N_drewN | apply Kd.N_drew));exact (Kd.N_mono (Kd.N_far (p:=⟨gb295,2,none⟩) (Kd.N_far (p:=⟨gb295,1,none⟩) (Kd.N_far (p:=⟨gb295,0,none⟩) (Kd.N_mono HO293.out (fun k_ hk=>(⟨hk,hk.2⟩:_∧k_ ≠ gb295))) (fun _ hk=>hk.2) (.int .i64 t289)) (fun _ hk=>hk.2) (.int .i64 t290)) (fun _ hk=>hk.2) (.slice Ao28 t291.length co28)) (fun _ h_=>h_.1))) (fun k_ hk_=>(⟨hk_,hk_.1.2.2⟩:_∧k_ ≠ g))) hk (fun _ h=>h.2)) (fun _ h=>h.1));have n2_:=aQ (KeepBut.blk hk (g':=gb295) (o:=.cells #[.int .i64 t289,.int .i64 t290,.slice Ao28 t291.length co28] 29 (0,0)) (by (with_reducible repeat (first | refine blk_drewN ?_ _ | refine blk_drew ?_ | refine blk_alloc ?_ _));refine blk_put (cs:=#[.int .i64 t289,.int .i64 t290,.slice none 0 0]) ?_ 2 _ rfl;(with_reducible repeat (first | refine blk_drewN ?_ _ | refine blk_drew ?_ | refine blk_alloc ?_ _));refine blk_put (cs:=#[.int .i64 t289,.int .i64 0,.slice none 0 0]) ?_ 1 _ rfl;(with_reducible repeat (first | refine blk_drewN ?_ _ | refine blk_drew ?_ | refine blk_alloc ?_ _));refine blk_put (cs:=#[.int .i64 0,.int .i64 0,.slice none 0 0]) ?_ 0 _ rfl;(with_reducible repeat (first | refine blk_drewN ?_ _ | refine blk_drew ?_ | refine blk_alloc ?_ _));exact BK295.out) NB295_0.out (by simp));have n3_:=aQ (KeepBut.trans (by repeat (first | (with_reducible first | exact HK.out | apply KeepBut.set_ | apply keep_drewN | apply keep_drew | apply keep_alloc | refine keep_far ?_ GW286.out _ | refine keep_far ?_ GW295.out _) | exact HK.out)) hk (.inl rfl));have n4_:=aQ (hb);have n5_:=aQ (hi);clear BK286;clear HO293;clear BK295;clear HK;clear HB;clear HI0;have BK286:=n0_;have HO293:=n1_;have BK295:=n2_;have HK:=n3_;have HB:=n4_;have HI0:=n5_;clear n0_ n1_ n2_ n3_ n4_ n5_;(try clear hb);(try clear hk);(try clear hi);have hcz30_0:w29.cell? ⟨gb295,0,none⟩ = some (.int .i64 t289):=(blk_cell BK295.out 0).trans rfl;have hcz30_1:w29.cell? ⟨gb295,1,none⟩ = some (.int .i64 t290):=(blk_cell BK295.out 1).trans rfl;have hcz30_2:w29.cell? ⟨gb295,2,none⟩ = some (.slice Ao28 t291.length co28):=(blk_cell BK295.out 2).trans rfl;have hfz30_0:=blk_frozen BK295.out 0;have hfz30_1:=blk_frozen BK295.out 1;have hfz30_2:=blk_frozen BK295.out 2;have hnb31:=NB286_0.out;have hnc31:=NB0_286.out;have hcz32_0:w29.cell? ⟨gb286,0,none⟩ = some (.int .i64 0):=(blk_cell BK286.out 0).trans rfl;have hcz32_1:w29.cell? ⟨gb286,1,none⟩ = some (.int .i64 0):=(blk_cell BK286.out 1).trans rfl;have hcz32_2:w29.cell? ⟨gb286,2,none⟩ = some (.slice none 0 0):=(blk_cell BK286.out 2).trans rfl;have hfz32_0:=blk_frozen BK286.out 0;have hfz32_1:=blk_frozen BK286.out 1;have hfz32_2:=blk_frozen BK286.out 2))
 refine bodyPost_ret (results_cell_row rfl _ _ gb286 29 #[.int .i64 t289,.int .i64 (-1),.slice Ao28 t291.length co28] (0,0) _ rfl (by (with_reducible repeat (first | refine blk_drewN ?_ _ | refine blk_drew ?_ | refine blk_alloc ?_ _));refine blk_put (cs:=#[.int .i64 t289,.int .i64 (-1),.slice none 0 0]) ?_ 2 _ rfl;(with_reducible repeat (first | refine blk_drewN ?_ _ | refine blk_drew ?_ | refine blk_alloc ?_ _));refine blk_put (cs:=#[.int .i64 t289,.int .i64 0,.slice none 0 0]) ?_ 1 _ rfl;(with_reducible repeat (first | refine blk_drewN ?_ _ | refine blk_drew ?_ | refine blk_alloc ?_ _));refine blk_put (cs:=#[.int .i64 0,.int .i64 0,.slice none 0 0]) ?_ 0 _ rfl;(with_reducible repeat (first | refine blk_drewN ?_ _ | refine blk_drew ?_ | refine blk_alloc ?_ _));refine blk_far ?_ NB286_295.out _;(with_reducible repeat (first | refine blk_drewN ?_ _ | refine blk_drew ?_ | refine blk_alloc ?_ _));exact BK286.out) Try.underlying29 rfl (by kernel_rfl)) rfl ?_
 exact ⟨_,by first | rfl | (simp [errW_none,errW_some] <;> rfl) | (simp [*,errW_none,errW_some] <;> rfl),by (with_reducible repeat (first | apply Kd.N_alloc | apply Kd.N_drewN | apply Kd.N_drew));exact Kd.N_mono (Kd.N_far (p:=⟨gb286,2,none⟩) (Kd.N_far (p:=⟨gb286,1,none⟩) (Kd.N_far (p:=⟨gb286,0,none⟩) (Kd.N_far (p:=⟨gb295,1,none⟩) (Kd.N_mono (Kd.N_mono HO293.out (fun k_ hk=>(⟨hk,hk.2⟩:_∧k_ ≠ gb295))) (fun k_ hk=>(⟨hk,hk.1.1.2.1⟩:_∧k_ ≠ gb286))) (fun _ hk=>hk.1.2) (.int .i64 (-1))) (fun _ hk=>hk.2) (.int .i64 t289)) (fun _ hk=>hk.2) (.int .i64 (-1))) (fun _ hk=>hk.2) (.slice Ao28 t291.length co28)) (fun _ hk=>hk.1.1.1.1),by repeat (first | (with_reducible first | exact HI0.out | apply IsS67.alloc | apply IsS67.drewN | apply IsS67.drew | apply IsS67.set_1 | refine IsS67.far ?_ NB0_286.out _ | refine IsS67.far ?_ NB0_295.out _) | exact HI0.out),by repeat (first | (with_reducible first | exact HB.out | apply below_alloc | apply pw_below_drewN | apply below_drew1 | refine below_set ?_ (IsS67.ge HI0.out) | refine below_set ?_ GE286.out | refine below_set ?_ GE295.out) | exact HB.out),by repeat (first | (with_reducible first | exact HK.out | apply KeepBut.set_ | apply keep_drewN | apply keep_drew | apply keep_alloc | refine keep_far ?_ GW286.out _ | refine keep_far ?_ GW295.out _) | exact HK.out)⟩
mutual
def laws_mnClock.j0:Nat → Bool → Int → Int → List (S29) → Int → Int → List (S29) → Option (Bool)
 | 0,_,_,_,_,_,_,_=>none
 | k + 1,x26,x624000,x624001,x624002,x625000,x625001,x625002=>if x26 = true then (some false) else (laws_mnClock.l0 k 0 x624000 x624001 x624002 x625000 x625001 x625002)
def laws_mnClock.l0:Nat → Int → Int → Int → List (S29) → Int → Int → List (S29) → Option (Bool)
 | 0,_,_,_,_,_,_,_=>none
 | k + 1,x5,x624000,x624001,x624002,x625000,x625001,x625002=>if x5 < (x624002.length:Int) then (if 0 ≤ x5 then (if x5 < (x625002.length:Int) then ((laws_mnClock.f k ((rd_T29 x624002 x5).f0) ((rd_T29 x624002 x5).f1) ((rd_T29 x624002 x5).f2) ((rd_T29 x625002 x5).f0) ((rd_T29 x625002 x5).f1) ((rd_T29 x625002 x5).f2)).bind fun t627=>(if t627 = true then (laws_mnClock.l0 k (wrap64 (x5 + 1)) x624000 x624001 x624002 x625000 x625001 x625002) else (some false))) else (none)) else (none)) else (some true)
def laws_mnClock.f:Nat → Int → Int → List (S29) → Int → Int → List (S29) → Option (Bool)
 | 0,_,_,_,_,_,_=>none
 | k + 1,a0_0,a0_1,l0_2,a1_0,a1_1,l1_2=>if a0_0 = a1_0 then (if a0_1 = a1_1 then (laws_mnClock.j0 k ((l0_2.length:Int) != (l1_2.length:Int)) a0_0 a0_1 l0_2 a1_0 a1_1 l1_2) else (laws_mnClock.j0 k true a0_0 a0_1 l0_2 a1_0 a1_1 l1_2)) else (laws_mnClock.j0 k true a0_0 a0_1 l0_2 a1_0 a1_1 l1_2)
end
theorem laws_mnClock.mono_l:∀ k,(∀ y0 y1 y2 y3 y4 y5,LeO (laws_mnClock.f k y0 y1 y2 y3 y4 y5) (laws_mnClock.f (k + 1) y0 y1 y2 y3 y4 y5))∧(∀ y0 y1 y2 y3 y4 y5 y6,LeO (laws_mnClock.j0 k y0 y1 y2 y3 y4 y5 y6) (laws_mnClock.j0 (k + 1) y0 y1 y2 y3 y4 y5 y6))∧(∀ y0 y1 y2 y3 y4 y5 y6,LeO (laws_mnClock.l0 k y0 y1 y2 y3 y4 y5 y6) (laws_mnClock.l0 (k + 1) y0 y1 y2 y3 y4 y5 y6))
 | 0=>⟨fun _ _ _ _ _ _ r h=>by simp [laws_mnClock.f] at h,fun _ _ _ _ _ _ _ r h=>by simp [laws_mnClock.j0] at h,fun _ _ _ _ _ _ _ r h=>by simp [laws_mnClock.l0] at h⟩
 | k + 1=>by
  obtain ⟨ih0,ih1,ih2⟩:=laws_mnClock.mono_l k
  refine ⟨?_,?_,?_⟩
  ·intro y0 y1 y2 y3 y4 y5
   unfold laws_mnClock.f
   repeat' first
   | (with_reducible exact ih0 _ _ _ _ _ _)
   | (with_reducible exact ih1 _ _ _ _ _ _ _)
   | (with_reducible exact ih2 _ _ _ _ _ _ _)
   | (with_reducible exact LeO.refl _)
   | (with_reducible exact LeO.none _)
   | (with_reducible refine LeO.ite ?_ ?_)
   | (with_reducible refine LeO.bind ?_ (fun _=>?_))
   | exact ih0 _ _ _ _ _ _
   | exact ih1 _ _ _ _ _ _ _
   | exact ih2 _ _ _ _ _ _ _
   | exact LeO.none _
   | refine LeO.ite ?_ ?_
   | refine LeO.bind ?_ (fun _=>?_)
  ·intro y0 y1 y2 y3 y4 y5 y6
   unfold laws_mnClock.j0
   repeat' first
   | (with_reducible exact ih0 _ _ _ _ _ _)
   | (with_reducible exact ih1 _ _ _ _ _ _ _)
   | (with_reducible exact ih2 _ _ _ _ _ _ _)
   | (with_reducible exact LeO.refl _)
   | (with_reducible exact LeO.none _)
   | (with_reducible refine LeO.ite ?_ ?_)
   | (with_reducible refine LeO.bind ?_ (fun _=>?_))
   | exact ih0 _ _ _ _ _ _
   | exact ih1 _ _ _ _ _ _ _
   | exact ih2 _ _ _ _ _ _ _
   | exact LeO.none _
   | refine LeO.ite ?_ ?_
   | refine LeO.bind ?_ (fun _=>?_)
  ·intro y0 y1 y2 y3 y4 y5 y6
   unfold laws_mnClock.l0
   repeat' first
   | (with_reducible exact ih0 _ _ _ _ _ _)
   | (with_reducible exact ih1 _ _ _ _ _ _ _)
   | (with_reducible exact ih2 _ _ _ _ _ _ _)
   | (with_reducible exact LeO.refl _)
   | (with_reducible exact LeO.none _)
   | (with_reducible refine LeO.ite ?_ ?_)
   | (with_reducible refine LeO.bind ?_ (fun _=>?_))
   | exact ih0 _ _ _ _ _ _
   | exact ih1 _ _ _ _ _ _ _
   | exact ih2 _ _ _ _ _ _ _
   | exact LeO.none _
   | refine LeO.ite ?_ ?_
   | refine LeO.bind ?_ (fun _=>?_)
theorem laws_mnClock.mono:∀ a0 a1 a2 a3 a4 a5 k,LeO (laws_mnClock.f k a0 a1 a2 a3 a4 a5) (laws_mnClock.f (k + 1) a0 a1 a2 a3 a4 a5):=by
 intro a0 a1 a2 a3 a4 a5 k
 obtain ⟨ih0,ih1,ih2⟩:=laws_mnClock.mono_l k
 exact ih0 a0 a1 a2 a3 a4 a5
def laws_mnClock.T6:Bool × List (List Nat × List Nat):=(true,[([],[]),([0],[0]),([],[]),([1,2],[1,2]),([3],[3]),([],[]),([5],[5]),([],[]),([6,7],[6,7]),([8],[8]),([4,9],[4,9]),([10],[10])])
def laws_mnClock.B6:List Nat:=[0,1,0,7,15,0,32,0,224,480,1023,2047]
theorem laws_mnClock.tab6:rtab .any (opsOf Try.f32 6) = laws_mnClock.T6:=by kernel_rfl
theorem laws_mnClock.bits6:waitsOk laws_mnClock.T6.2 laws_mnClock.B6 = true:=by kernel_rfl
set_option maxHeartbeats 8000000 in
set_option maxRecDepth 100000 in
theorem laws_mnClock.calls (k:Nat):∀ (a0_0:Int) (a0_1:Int) (A0_2:Option Addr) (c0_2:Nat) (l0_2:List (S29)) (a1_0:Int) (a1_1:Int) (A1_2:Option Addr) (c1_2:Nat) (l1_2:List (S29)) (r:Bool) (w:World) (hr0_2:Kd.C k29 w A0_2 l0_2.length l0_2) (hc0_2:l0_2.length ≤ c0_2) (hr1_2:Kd.C k29 w A1_2 l1_2.length l1_2) (hc1_2:l1_2.length ≤ c1_2) (h:laws_mnClock.f k a0_0 a0_1 l0_2 a1_0 a1_1 l1_2 = some r),
  Calls Try.prog 32 #[.agg #[.int .i64 a0_0,.int .i64 a0_1,.slice A0_2 l0_2.length c0_2],.agg #[.int .i64 a1_0,.int .i64 a1_1,.slice A1_2 l1_2.length c1_2]] w fun e w'=>e = .returned (.bool r)∧Below w.heap.size w w':=by
 induction k using Nat.strongRecOn with
 | _ k ih =>
 intro a0_0 a0_1 A0_2 c0_2 l0_2 a1_0 a1_1 A1_2 c1_2 l1_2 r w hr0_2 hc0_2 hr1_2 hc1_2 h
 cases k with
 | zero=>exact absurd h (by simp [laws_mnClock.f])
 | succ k =>
 simp only [laws_mnClock.f] at h
 have hu29:=Try.underlying29
 have HR0_2:=aQ hr0_2
 have HC0_2:=aQ hc0_2
 clear hr0_2 hc0_2
 have HR1_2:=aQ hr1_2
 have HC1_2:=aQ hc1_2
 clear hr1_2 hc1_2
 have HB:=aQ (Below.refl w.heap.size w)
 have H:=h
 clear h
 have HC3:=aQ H
 clear H
 go_enter Try.func32,Try.ntmps32
 go_upto_region 1 with (first | ((with_reducible refine gate_dst (N:=2) rfl ?_);(try (refine gate_guard (by rfl) ?_;dsimp only));refine box1 (N:=2) (cs:=#[.int .i64 a0_0,.int .i64 a0_1,.slice A0_2 l0_2.length c0_2]) (t:=29) ?_;intro gb623 hg w4 hbox hb;have BK623:=aQ (hbox);have GW623:=aQ ((by rw [hg];exact (below_size bB):w.heap.size ≤ gb623));have GE623:=aQ ((by rw [hg];exact (below_size bB):w.heap.size ≤ gb623));replace HB:=aQ (below_step bB hb);clear hb hbox hg) | ((with_reducible refine gate_dst (N:=3) rfl ?_);(try (refine gate_guard (by rfl) ?_;dsimp only));refine box1 (N:=3) (cs:=#[.int .i64 a1_0,.int .i64 a1_1,.slice A1_2 l1_2.length c1_2]) (t:=29) ?_;intro gb624 hg w5 hbox hb;have BK624:=aQ (hbox);have GW624:=aQ ((by rw [hg];exact (below_size bB):w.heap.size ≤ gb624));have GE624:=aQ ((by rw [hg];exact (below_size bB):w.heap.size ≤ gb624));replace HB:=aQ (below_step bB hb);have NB623_624:=aQ ((by rw [hg];exact Nat.ne_of_lt (blk_lt (g:=gb623) (o:=.cells #[.int .i64 a0_0,.int .i64 a0_1,.slice A0_2 l0_2.length c0_2] 29 (0,0)) (nB BK623.out)):gb623 ≠ gb624));have NB624_623:=aQ ((by rw [hg];exact Nat.ne_of_gt (blk_lt (g:=gb623) (o:=.cells #[.int .i64 a0_0,.int .i64 a0_1,.slice A0_2 l0_2.length c0_2] 29 (0,0)) (nB BK623.out)):gb624 ≠ gb623));replace BK623:=aQ (blk_below (g:=gb623) (o:=.cells #[.int .i64 a0_0,.int .i64 a0_1,.slice A0_2 l0_2.length c0_2] 29 (0,0)) (nB BK623.out) hb);clear hb hbox hg))
 (try simp only [Act.put,List.setIfInBounds_toArray,List.set_cons_zero,List.set_cons_succ])
 go_cut [26] (fun v26 wc=>∃ (kq:Nat) (x26_2:Bool),v26 = .bool x26_2∧Aside0 (laws_mnClock.j0 kq x26_2 a0_0 a0_1 l0_2 a1_0 a1_1 l1_2 = some r)∧Aside0 (kq ≤ k)∧Aside0 (wc.heap[gb623]? = some (.cells #[.int .i64 a0_0,.int .i64 a0_1,(.slice A0_2 l0_2.length c0_2)] 29 (0,0)))∧Aside0 (wc.heap[gb624]? = some (.cells #[.int .i64 a1_0,.int .i64 a1_1,(.slice A1_2 l1_2.length c1_2)] 29 (0,0)))∧Aside0 (Below w.heap.size w wc))
 case first =>
  have H:=HC3.out
  clear HC3
  by_cases c6:a0_0 = a1_0;rotate_left
  ·rw [if_neg c6] at H
   have c6b0:(a0_0 == a1_0) = false:=beq_eq_false_iff_ne.mpr c6
   have c6b1:(a0_0 != a1_0) = true:=bne_iff_ne.mpr c6
   (first | rw [c6b0] | (simp only [i64_w,i32_w];rw [c6b0]) | skip)
   have H':=aQ H
   clear H
   have hnb14:=NB623_624.out
   have hnc14:=NB624_623.out
   have hcz15_0:w5.cell? ⟨gb623,0,none⟩ = some (.int .i64 a0_0):=(blk_cell BK623.out 0).trans rfl
   have hcz15_1:w5.cell? ⟨gb623,1,none⟩ = some (.int .i64 a0_1):=(blk_cell BK623.out 1).trans rfl
   have hcz15_2:w5.cell? ⟨gb623,2,none⟩ = some (.slice A0_2 l0_2.length c0_2):=(blk_cell BK623.out 2).trans rfl
   have hfz15_0:=blk_frozen BK623.out 0
   have hfz15_1:=blk_frozen BK623.out 1
   have hfz15_2:=blk_frozen BK623.out 2
   have hcz16_0:w5.cell? ⟨gb624,0,none⟩ = some (.int .i64 a1_0):=(blk_cell BK624.out 0).trans rfl
   have hcz16_1:w5.cell? ⟨gb624,1,none⟩ = some (.int .i64 a1_1):=(blk_cell BK624.out 1).trans rfl
   have hcz16_2:w5.cell? ⟨gb624,2,none⟩ = some (.slice A1_2 l1_2.length c1_2):=(blk_cell BK624.out 2).trans rfl
   have hfz16_0:=blk_frozen BK624.out 0
   have hfz16_1:=blk_frozen BK624.out 1
   have hfz16_2:=blk_frozen BK624.out 2
   go_wp2
   go_meet
   case rel=>exact ⟨_,(true),rfl,H',⟨by first | omega | exact Nat.le_refl _⟩,⟨nB BK623.out⟩,⟨nB BK624.out⟩,⟨bB⟩⟩
  rw [if_pos c6] at H
  have c6b0:(a0_0 == a1_0) = true:=beq_iff_eq.mpr c6
  have c6b1:(a0_0 != a1_0) = false:=bne_eq_false_iff_eq.mpr c6
  clear c6
  (first | rw [c6b0] | (simp only [i64_w,i32_w];rw [c6b0]) | skip)
  by_cases c7:a0_1 = a1_1;rotate_left
  ·rw [if_neg c7] at H
   have c7b0:(a0_1 == a1_1) = false:=beq_eq_false_iff_ne.mpr c7
   have c7b1:(a0_1 != a1_1) = true:=bne_iff_ne.mpr c7
   have H':=aQ H
   clear H
   have hnb11:=NB623_624.out
   have hnc11:=NB624_623.out
   have hcz12_0:w5.cell? ⟨gb623,0,none⟩ = some (.int .i64 a0_0):=(blk_cell BK623.out 0).trans rfl
   have hcz12_1:w5.cell? ⟨gb623,1,none⟩ = some (.int .i64 a0_1):=(blk_cell BK623.out 1).trans rfl
   have hcz12_2:w5.cell? ⟨gb623,2,none⟩ = some (.slice A0_2 l0_2.length c0_2):=(blk_cell BK623.out 2).trans rfl
   have hfz12_0:=blk_frozen BK623.out 0
   have hfz12_1:=blk_frozen BK623.out 1
   have hfz12_2:=blk_frozen BK623.out 2
   have hcz13_0:w5.cell? ⟨gb624,0,none⟩ = some (.int .i64 a1_0):=(blk_cell BK624.out 0).trans rfl
   have hcz13_1:w5.cell? ⟨gb624,1,none⟩ = some (.int .i64 a1_1):=(blk_cell BK624.out 1).trans rfl
   have hcz13_2:w5.cell? ⟨gb624,2,none⟩ = some (.slice A1_2 l1_2.length c1_2):=(blk_cell BK624.out 2).trans rfl
   have hfz13_0:=blk_frozen BK624.out 0
   have hfz13_1:=blk_frozen BK624.out 1
   have hfz13_2:=blk_frozen BK624.out 2
   go_wp2
   go_meet
   case rel=>exact ⟨_,(true),rfl,H',⟨by first | omega | exact Nat.le_refl _⟩,⟨nB BK623.out⟩,⟨nB BK624.out⟩,⟨bB⟩⟩
  rw [if_pos c7] at H
  have c7b0:(a0_1 == a1_1) = true:=beq_iff_eq.mpr c7
  have c7b1:(a0_1 != a1_1) = false:=bne_eq_false_iff_eq.mpr c7
  clear c7
  have H':=aQ H
  clear H
  have hnb8:=NB623_624.out
  have hnc8:=NB624_623.out
  have hcz9_0:w5.cell? ⟨gb623,0,none⟩ = some (.int .i64 a0_0):=(blk_cell BK623.out 0).trans rfl
  have hcz9_1:w5.cell? ⟨gb623,1,none⟩ = some (.int .i64 a0_1):=(blk_cell BK623.out 1).trans rfl
  have hcz9_2:w5.cell? ⟨gb623,2,none⟩ = some (.slice A0_2 l0_2.length c0_2):=(blk_cell BK623.out 2).trans rfl
  have hfz9_0:=blk_frozen BK623.out 0
  have hfz9_1:=blk_frozen BK623.out 1
  have hfz9_2:=blk_frozen BK623.out 2
  have hcz10_0:w5.cell? ⟨gb624,0,none⟩ = some (.int .i64 a1_0):=(blk_cell BK624.out 0).trans rfl
  have hcz10_1:w5.cell? ⟨gb624,1,none⟩ = some (.int .i64 a1_1):=(blk_cell BK624.out 1).trans rfl
  have hcz10_2:w5.cell? ⟨gb624,2,none⟩ = some (.slice A1_2 l1_2.length c1_2):=(blk_cell BK624.out 2).trans rfl
  have hfz10_0:=blk_frozen BK624.out 0
  have hfz10_1:=blk_frozen BK624.out 1
  have hfz10_2:=blk_frozen BK624.out 2
  go_wp2
  go_meet
  case rel=>exact ⟨_,(((l0_2.length:Int) != (l1_2.length:Int))),rfl,H',⟨by first | omega | exact Nat.le_refl _⟩,⟨nB BK623.out⟩,⟨nB BK624.out⟩,⟨bB⟩⟩
 case rest =>
  clear HC3
  obtain ⟨kq,x26_2,rfl,HA,HJ2,BK623,BK624,HB⟩:=hcut
  cases kq with
  | zero=>exact absurd HA.out (by simp [laws_mnClock.j0])
  | succ kj2 =>
   have H:=HA.out
   clear HA
   simp only [laws_mnClock.j0] at H
   by_cases c17:x26_2 = true
   ·subst c17
    have H1:(some false) = some r:=by rw [if_pos rfl] at H;exact H
    clear H
    have H:=H1
    clear H1
    obtain rfl:=Option.some.inj H
    go_wp2
    go_ret
    exact ⟨rfl,bB⟩
   ·replace c17:=Bool.eq_false_iff.mpr c17
    subst c17
    have H1:(laws_mnClock.l0 kj2 0 a0_0 a0_1 l0_2 a1_0 a1_1 l1_2) = some r:=by rw [if_neg (show ¬ (false = true) by decide)] at H;exact H
    clear H
    have H:=H1
    clear H1
    have H':=aQ H
    clear H
    go_wp2
    go_loopg [5] kj2 (fun kq v5 w'=>∃ (x5_2:Int),v5 = .int .i64 x5_2∧Aside0 (laws_mnClock.l0 kq x5_2 a0_0 a0_1 l0_2 a1_0 a1_1 l1_2 = some r)∧Aside0 (kq ≤ kj2)∧Aside0 (w'.heap[gb623]? = some (.cells #[.int .i64 a0_0,.int .i64 a0_1,(.slice A0_2 l0_2.length c0_2)] 29 (0,0)))∧Aside0 (w'.heap[gb624]? = some (.cells #[.int .i64 a1_0,.int .i64 a1_1,(.slice A1_2 l1_2.length c1_2)] 29 (0,0)))∧Aside0 (Below w.heap.size w w'))
    case atStart=>exact ⟨(0),rfl,H',⟨Nat.le_refl _⟩,⟨nB BK623.out⟩,⟨nB BK624.out⟩,⟨bB⟩⟩
    case round =>
     clear H'
     repeat (first | clear BK623 | clear BK624 | clear HB)
     obtain ⟨x5_2,rfl,HA,HK2,BK623,BK624,HB⟩:=hrel
     cases gk with
     | zero=>exact absurd HA.out (by simp [laws_mnClock.l0])
     | succ k2 =>
      have H:=HA.out
      clear HA
      simp only [laws_mnClock.l0] at H
      by_cases c18:x5_2 < (l0_2.length:Int);rotate_left
      ·rw [if_neg c18] at H
       have c18b0:decide (x5_2 < (l0_2.length:Int)) = false:=decide_eq_false c18
       clear c18
       obtain rfl:=Option.some.inj H
       have hnb31:=NB623_624.out
       have hnc31:=NB624_623.out
       have hcz32_0:wr.cell? ⟨gb623,0,none⟩ = some (.int .i64 a0_0):=(blk_cell BK623.out 0).trans rfl
       have hcz32_1:wr.cell? ⟨gb623,1,none⟩ = some (.int .i64 a0_1):=(blk_cell BK623.out 1).trans rfl
       have hcz32_2:wr.cell? ⟨gb623,2,none⟩ = some (.slice A0_2 l0_2.length c0_2):=(blk_cell BK623.out 2).trans rfl
       have hfz32_0:=blk_frozen BK623.out 0
       have hfz32_1:=blk_frozen BK623.out 1
       have hfz32_2:=blk_frozen BK623.out 2
       go_wp2
       go_ret
       exact ⟨rfl,bB⟩
      rw [if_pos c18] at H
      have c18b0:decide (x5_2 < (l0_2.length:Int)) = true:=decide_eq_true c18
      clear c18
      by_cases c19:0 ≤ x5_2;rotate_left
      ·rw [if_neg c19] at H
       exact absurd H (by simp)
      rw [if_pos c19] at H
      have c19b0:decide (0 ≤ x5_2) = true:=decide_eq_true c19
      clear c19
      by_cases c20:x5_2 < (l1_2.length:Int);rotate_left
      ·rw [if_neg c20] at H
       exact absurd H (by simp)
      rw [if_pos c20] at H
      have c20b0:decide (x5_2 < (l1_2.length:Int)) = true:=decide_eq_true c20
      clear c20
      obtain ⟨t627,A21,H⟩:=bQ H
      (try dsimp only at H)
      by_cases c22:t627 = true
      ·subst c22
       have H1:(laws_mnClock.l0 k2 (wrap64 (x5_2 + 1)) a0_0 a0_1 l0_2 a1_0 a1_1 l1_2) = some r:=by rw [if_pos rfl] at H;exact H
       clear H
       have H:=H1
       clear H1
       have H':=aQ H
       clear H
       have hnb23:=NB623_624.out
       have hnc23:=NB624_623.out
       have hcz24_0:wr.cell? ⟨gb623,0,none⟩ = some (.int .i64 a0_0):=(blk_cell BK623.out 0).trans rfl
       have hcz24_1:wr.cell? ⟨gb623,1,none⟩ = some (.int .i64 a0_1):=(blk_cell BK623.out 1).trans rfl
       have hcz24_2:wr.cell? ⟨gb623,2,none⟩ = some (.slice A0_2 l0_2.length c0_2):=(blk_cell BK623.out 2).trans rfl
       have hfz24_0:=blk_frozen BK623.out 0
       have hfz24_1:=blk_frozen BK623.out 1
       have hfz24_2:=blk_frozen BK623.out 2
       try go_wp2
       replace BK623:=aQ (blk_drew BK623.out)
       replace BK624:=aQ (blk_drew BK624.out)
       replace HB:=aQ (below_drew1 HB.out)
       have p625:0 ≤ (x5_2:Int):=of_decide_eq_true (by first | (with_reducible assumption) | assumption)
       have q625:x5_2 < (l0_2.length:Int):=of_decide_eq_true (by first | (with_reducible assumption) | assumption)
       obtain ⟨ad625,A625_2,c625_2,e625,hx625_0,hx625_1,hx625_2,hl625_2,hi625_2⟩:=at_T29 HR0_2.out x5_2 p625 q625
       have hw625_2:=hx625_2
       have hw625_1:=hx625_1
       have hw625_0:=hx625_0
       cases e625
       replace hx625_0:=(HB.out.cell (World.block_lt_of_cell? w _ hx625_0)).trans hx625_0
       replace hx625_1:=(HB.out.cell (World.block_lt_of_cell? w _ hx625_1)).trans hx625_1
       replace hx625_2:=(HB.out.cell (World.block_lt_of_cell? w _ hx625_2)).trans hx625_2
       have HR625_2:=aQ hi625_2
       have HC625_2:=aQ hl625_2
       clear hi625_2 hl625_2
       replace p625:=eq_true p625
       replace q625:=eq_true q625
       have p626:0 ≤ (x5_2:Int):=of_decide_eq_true (by first | (with_reducible assumption) | assumption)
       have q626:x5_2 < (l1_2.length:Int):=of_decide_eq_true (by first | (with_reducible assumption) | assumption)
       obtain ⟨ad626,A626_2,c626_2,e626,hx626_0,hx626_1,hx626_2,hl626_2,hi626_2⟩:=at_T29 HR1_2.out x5_2 p626 q626
       have hw626_2:=hx626_2
       have hw626_1:=hx626_1
       have hw626_0:=hx626_0
       cases e626
       replace hx626_0:=(HB.out.cell (World.block_lt_of_cell? w _ hx626_0)).trans hx626_0
       replace hx626_1:=(HB.out.cell (World.block_lt_of_cell? w _ hx626_1)).trans hx626_1
       replace hx626_2:=(HB.out.cell (World.block_lt_of_cell? w _ hx626_2)).trans hx626_2
       have HR626_2:=aQ hi626_2
       have HC626_2:=aQ hl626_2
       clear hi626_2 hl626_2
       replace p626:=eq_true p626
       replace q626:=eq_true q626
       refine start_ (n:=12) (S:=fun w'=>w'.cell? ⟨gb623,0,none⟩ = some (.int .i64 a0_0)∧w'.cell? ⟨gb623,1,none⟩ = some (.int .i64 a0_1)∧w'.cell? ⟨gb623,2,none⟩ = some (.slice (some ad625) l0_2.length c0_2)∧w'.cell? ⟨gb624,0,none⟩ = some (.int .i64 a1_0)∧w'.cell? ⟨gb624,1,none⟩ = some (.int .i64 a1_1)∧w'.cell? ⟨gb624,2,none⟩ = some (.slice (some ad626) l1_2.length c1_2)∧w'.cell? (ad625.add ((x5_2).toNat * 3)) = some (.int .i64 ((rd_T29 l0_2 x5_2).f0))∧w'.cell? ⟨(ad625.add ((x5_2).toNat * 3)).block,(ad625.add ((x5_2).toNat * 3)).off + 1,none⟩ = some (.int .i64 ((rd_T29 l0_2 x5_2).f1))∧w'.cell? ⟨(ad625.add ((x5_2).toNat * 3)).block,(ad625.add ((x5_2).toNat * 3)).off + 2,none⟩ = some (.slice A625_2 ((rd_T29 l0_2 x5_2).f2).length c625_2)∧w'.cell? (ad626.add ((x5_2).toNat * 3)) = some (.int .i64 ((rd_T29 l1_2 x5_2).f0))∧w'.cell? ⟨(ad626.add ((x5_2).toNat * 3)).block,(ad626.add ((x5_2).toNat * 3)).off + 1,none⟩ = some (.int .i64 ((rd_T29 l1_2 x5_2).f1))∧w'.cell? ⟨(ad626.add ((x5_2).toNat * 3)).block,(ad626.add ((x5_2).toNat * 3)).off + 2,none⟩ = some (.slice A626_2 ((rd_T29 l1_2 x5_2).f2).length c626_2)) (ds:=[]) #[false,false,false,false,false,false,false,false,false,false,false,false] (by kernel_rfl) rfl rfl ⟨(blk_cell BK623.out 0).trans rfl,(blk_cell BK623.out 1).trans rfl,(blk_cell BK623.out 2).trans rfl,(blk_cell BK624.out 0).trans rfl,(blk_cell BK624.out 1).trans rfl,(blk_cell BK624.out 2).trans rfl,((HB.out.cell (World.block_lt_of_cell? w _ hw625_0)).trans hw625_0),((HB.out.cell (World.block_lt_of_cell? w _ hw625_1)).trans hw625_1),((HB.out.cell (World.block_lt_of_cell? w _ hw625_2)).trans hw625_2),((HB.out.cell (World.block_lt_of_cell? w _ hw626_0)).trans hw626_0),((HB.out.cell (World.block_lt_of_cell? w _ hw626_1)).trans hw626_1),((HB.out.cell (World.block_lt_of_cell? w _ hw626_2)).trans hw626_2)⟩ (fun hHeld=>?_);refine with_tabW laws_mnClock.tab6 laws_mnClock.bits6 (fun HT_ HW_=>?_)
       generalize wr.drew = w25 at BK623 BK624 HB HR625_2 HR626_2 hx625_0 hx625_1 hx625_2 hx626_0 hx626_1 hx626_2 hHeld ⊢
       refine pur (i:=0) (N:=some 34) #[true,false,false,false,false,false,false,false,false,false,false,false] ?_
       refine pur (i:=2) (N:=some 36) #[true,false,true,false,false,false,false,false,false,false,false,false] ?_
       refine pur (i:=5) (N:=some 39) #[true,false,true,false,false,true,false,false,false,false,false,false] ?_
       refine pur (i:=7) (N:=some 41) #[true,false,true,false,false,true,false,true,false,false,false,false] ?_
       refine tak (i:=1) (N:=some 35) #[true,true,true,false,false,true,false,true,false,false,false,false] ?_
       refine pur (i:=3) (N:=some 37) #[true,true,true,true,false,true,false,true,false,false,false,false] ?_
       refine tak (i:=4) (N:=some 38) #[true,true,true,true,true,true,false,true,false,false,false,false] ?_
       refine tak (i:=6) (N:=some 40) #[true,true,true,true,true,true,true,true,false,false,false,false] ?_
       refine pur (i:=8) (N:=some 42) #[true,true,true,true,true,true,true,true,true,false,false,false] ?_
       refine tak (i:=9) (N:=some 43) #[true,true,true,true,true,true,true,true,true,true,false,false] ?_
       refine one_ (i:=10) (N:=some 44) #[true,true,true,true,true,true,true,true,true,true,true,false] rfl rfl (one_of HT_.out (by kernel_rfl)) (by decide) (fun K hK=>?_)
       refine goes1 Try.func32 #[.agg #[.int .i64 ((rd_T29 l0_2 x5_2).f0),.int .i64 ((rd_T29 l0_2 x5_2).f1),.slice A625_2 ((rd_T29 l0_2 x5_2).f2).length c625_2],.agg #[.int .i64 ((rd_T29 l1_2 x5_2).f0),.int .i64 ((rd_T29 l1_2 x5_2).f1),.slice A626_2 ((rd_T29 l1_2 x5_2).f2).length c626_2]] ?_
       with_reducible refine (ih k2 (by have:=HJ2.out;have:=HK2.out;omega) ((rd_T29 l0_2 x5_2).f0) ((rd_T29 l0_2 x5_2).f1) _ _ ((rd_T29 l0_2 x5_2).f2) ((rd_T29 l1_2 x5_2).f0) ((rd_T29 l1_2 x5_2).f1) _ _ ((rd_T29 l1_2 x5_2).f2) true _ ?side1 ?side2 ?side3 ?side4 A21.out).mono ?_
       (case side1=>repeat (first | exact (Kd.C_below HR625_2.out HB.out) | (with_reducible refine Kd.C_alloc ?_ _) | (with_reducible refine Kd.C_drewN ?_ _) | (with_reducible refine Kd.C_drew ?_)))
       (case side2=>exact HC625_2.out)
       (case side3=>repeat (first | exact (Kd.C_below HR626_2.out HB.out) | (with_reducible refine Kd.C_alloc ?_ _) | (with_reducible refine Kd.C_drewN ?_ _) | (with_reducible refine Kd.C_drew ?_)))
       (case side4=>exact HC626_2.out)
       rintro e w26 ⟨rfl,hb⟩
       refine ⟨_,rfl,?_⟩
       replace BK623:=aQ (blk_below (g:=gb623) (o:=.cells #[.int .i64 a0_0,.int .i64 a0_1,.slice (some ad625) l0_2.length c0_2] 29 (0,0)) (nB BK623.out) hb)
       replace BK624:=aQ (blk_below (g:=gb624) (o:=.cells #[.int .i64 a1_0,.int .i64 a1_1,.slice (some ad626) l1_2.length c1_2] 29 (0,0)) (nB BK624.out) hb)
       replace HB:=aQ (below_step bB hb)
       (try clear hb)
       refine hK.out _ _ ⟨(blk_cell BK623.out 0).trans rfl,(blk_cell BK623.out 1).trans rfl,(blk_cell BK623.out 2).trans rfl,(blk_cell BK624.out 0).trans rfl,(blk_cell BK624.out 1).trans rfl,(blk_cell BK624.out 2).trans rfl,((HB.out.cell (World.block_lt_of_cell? w _ hw625_0)).trans hw625_0),((HB.out.cell (World.block_lt_of_cell? w _ hw625_1)).trans hw625_1),((HB.out.cell (World.block_lt_of_cell? w _ hw625_2)).trans hw625_2),((HB.out.cell (World.block_lt_of_cell? w _ hw626_0)).trans hw626_0),((HB.out.cell (World.block_lt_of_cell? w _ hw626_1)).trans hw626_1),((HB.out.cell (World.block_lt_of_cell? w _ hw626_2)).trans hw626_2)⟩ (fun hHeld=>?_)
       clear hK K
       refine nrm (N:=some 44) ?_
       refine pur (i:=11) (N:=some 45) #[true,true,true,true,true,true,true,true,true,true,true,true] ?_
       refine done_ (done_of HT_.out (by kernel_rfl)) ?_
       try go_wp2
       go_roundg k2
       case measure=>have:=HJ2.out;have:=HK2.out;omega
       case rel=>exact ⟨(wrap64 (x5_2 + 1)),rfl,H',⟨by have:=HJ2.out;have:=HK2.out;omega⟩,⟨nB BK623.out⟩,⟨nB BK624.out⟩,⟨bB⟩⟩
      ·replace c22:=Bool.eq_false_iff.mpr c22
       subst c22
       have H1:(some false) = some r:=by rw [if_neg (show ¬ (false = true) by decide)] at H;exact H
       clear H
       have H:=H1
       clear H1
       obtain rfl:=Option.some.inj H
       have hnb27:=NB623_624.out
       have hnc27:=NB624_623.out
       have hcz28_0:wr.cell? ⟨gb623,0,none⟩ = some (.int .i64 a0_0):=(blk_cell BK623.out 0).trans rfl
       have hcz28_1:wr.cell? ⟨gb623,1,none⟩ = some (.int .i64 a0_1):=(blk_cell BK623.out 1).trans rfl
       have hcz28_2:wr.cell? ⟨gb623,2,none⟩ = some (.slice A0_2 l0_2.length c0_2):=(blk_cell BK623.out 2).trans rfl
       have hfz28_0:=blk_frozen BK623.out 0
       have hfz28_1:=blk_frozen BK623.out 1
       have hfz28_2:=blk_frozen BK623.out 2
       try go_wp2
       replace BK623:=aQ (blk_drew BK623.out)
       replace BK624:=aQ (blk_drew BK624.out)
       replace HB:=aQ (below_drew1 HB.out)
       have p625:0 ≤ (x5_2:Int):=of_decide_eq_true (by first | (with_reducible assumption) | assumption)
       have q625:x5_2 < (l0_2.length:Int):=of_decide_eq_true (by first | (with_reducible assumption) | assumption)
       obtain ⟨ad625,A625_2,c625_2,e625,hx625_0,hx625_1,hx625_2,hl625_2,hi625_2⟩:=at_T29 HR0_2.out x5_2 p625 q625
       have hw625_2:=hx625_2
       have hw625_1:=hx625_1
       have hw625_0:=hx625_0
       cases e625
       replace hx625_0:=(HB.out.cell (World.block_lt_of_cell? w _ hx625_0)).trans hx625_0
       replace hx625_1:=(HB.out.cell (World.block_lt_of_cell? w _ hx625_1)).trans hx625_1
       replace hx625_2:=(HB.out.cell (World.block_lt_of_cell? w _ hx625_2)).trans hx625_2
       have HR625_2:=aQ hi625_2
       have HC625_2:=aQ hl625_2
       clear hi625_2 hl625_2
       replace p625:=eq_true p625
       replace q625:=eq_true q625
       have p626:0 ≤ (x5_2:Int):=of_decide_eq_true (by first | (with_reducible assumption) | assumption)
       have q626:x5_2 < (l1_2.length:Int):=of_decide_eq_true (by first | (with_reducible assumption) | assumption)
       obtain ⟨ad626,A626_2,c626_2,e626,hx626_0,hx626_1,hx626_2,hl626_2,hi626_2⟩:=at_T29 HR1_2.out x5_2 p626 q626
       have hw626_2:=hx626_2
       have hw626_1:=hx626_1
       have hw626_0:=hx626_0
       cases e626
       replace hx626_0:=(HB.out.cell (World.block_lt_of_cell? w _ hx626_0)).trans hx626_0
       replace hx626_1:=(HB.out.cell (World.block_lt_of_cell? w _ hx626_1)).trans hx626_1
       replace hx626_2:=(HB.out.cell (World.block_lt_of_cell? w _ hx626_2)).trans hx626_2
       have HR626_2:=aQ hi626_2
       have HC626_2:=aQ hl626_2
       clear hi626_2 hl626_2
       replace p626:=eq_true p626
       replace q626:=eq_true q626
       refine start_ (n:=12) (S:=fun w'=>w'.cell? ⟨gb623,0,none⟩ = some (.int .i64 a0_0)∧w'.cell? ⟨gb623,1,none⟩ = some (.int .i64 a0_1)∧w'.cell? ⟨gb623,2,none⟩ = some (.slice (some ad625) l0_2.length c0_2)∧w'.cell? ⟨gb624,0,none⟩ = some (.int .i64 a1_0)∧w'.cell? ⟨gb624,1,none⟩ = some (.int .i64 a1_1)∧w'.cell? ⟨gb624,2,none⟩ = some (.slice (some ad626) l1_2.length c1_2)∧w'.cell? (ad625.add ((x5_2).toNat * 3)) = some (.int .i64 ((rd_T29 l0_2 x5_2).f0))∧w'.cell? ⟨(ad625.add ((x5_2).toNat * 3)).block,(ad625.add ((x5_2).toNat * 3)).off + 1,none⟩ = some (.int .i64 ((rd_T29 l0_2 x5_2).f1))∧w'.cell? ⟨(ad625.add ((x5_2).toNat * 3)).block,(ad625.add ((x5_2).toNat * 3)).off + 2,none⟩ = some (.slice A625_2 ((rd_T29 l0_2 x5_2).f2).length c625_2)∧w'.cell? (ad626.add ((x5_2).toNat * 3)) = some (.int .i64 ((rd_T29 l1_2 x5_2).f0))∧w'.cell? ⟨(ad626.add ((x5_2).toNat * 3)).block,(ad626.add ((x5_2).toNat * 3)).off + 1,none⟩ = some (.int .i64 ((rd_T29 l1_2 x5_2).f1))∧w'.cell? ⟨(ad626.add ((x5_2).toNat * 3)).block,(ad626.add ((x5_2).toNat * 3)).off + 2,none⟩ = some (.slice A626_2 ((rd_T29 l1_2 x5_2).f2).length c626_2)) (ds:=[]) #[false,false,false,false,false,false,false,false,false,false,false,false] (by kernel_rfl) rfl rfl ⟨(blk_cell BK623.out 0).trans rfl,(blk_cell BK623.out 1).trans rfl,(blk_cell BK623.out 2).trans rfl,(blk_cell BK624.out 0).trans rfl,(blk_cell BK624.out 1).trans rfl,(blk_cell BK624.out 2).trans rfl,((HB.out.cell (World.block_lt_of_cell? w _ hw625_0)).trans hw625_0),((HB.out.cell (World.block_lt_of_cell? w _ hw625_1)).trans hw625_1),((HB.out.cell (World.block_lt_of_cell? w _ hw625_2)).trans hw625_2),((HB.out.cell (World.block_lt_of_cell? w _ hw626_0)).trans hw626_0),((HB.out.cell (World.block_lt_of_cell? w _ hw626_1)).trans hw626_1),((HB.out.cell (World.block_lt_of_cell? w _ hw626_2)).trans hw626_2)⟩ (fun hHeld=>?_);refine with_tabW laws_mnClock.tab6 laws_mnClock.bits6 (fun HT_ HW_=>?_)
       generalize wr.drew = w29 at BK623 BK624 HB HR625_2 HR626_2 hx625_0 hx625_1 hx625_2 hx626_0 hx626_1 hx626_2 hHeld ⊢
       refine pur (i:=0) (N:=some 34) #[true,false,false,false,false,false,false,false,false,false,false,false] ?_
       refine pur (i:=2) (N:=some 36) #[true,false,true,false,false,false,false,false,false,false,false,false] ?_
       refine pur (i:=5) (N:=some 39) #[true,false,true,false,false,true,false,false,false,false,false,false] ?_
       refine pur (i:=7) (N:=some 41) #[true,false,true,false,false,true,false,true,false,false,false,false] ?_
       refine tak (i:=1) (N:=some 35) #[true,true,true,false,false,true,false,true,false,false,false,false] ?_
       refine pur (i:=3) (N:=some 37) #[true,true,true,true,false,true,false,true,false,false,false,false] ?_
       refine tak (i:=4) (N:=some 38) #[true,true,true,true,true,true,false,true,false,false,false,false] ?_
       refine tak (i:=6) (N:=some 40) #[true,true,true,true,true,true,true,true,false,false,false,false] ?_
       refine pur (i:=8) (N:=some 42) #[true,true,true,true,true,true,true,true,true,false,false,false] ?_
       refine tak (i:=9) (N:=some 43) #[true,true,true,true,true,true,true,true,true,true,false,false] ?_
       refine one_ (i:=10) (N:=some 44) #[true,true,true,true,true,true,true,true,true,true,true,false] rfl rfl (one_of HT_.out (by kernel_rfl)) (by decide) (fun K hK=>?_)
       refine goes1 Try.func32 #[.agg #[.int .i64 ((rd_T29 l0_2 x5_2).f0),.int .i64 ((rd_T29 l0_2 x5_2).f1),.slice A625_2 ((rd_T29 l0_2 x5_2).f2).length c625_2],.agg #[.int .i64 ((rd_T29 l1_2 x5_2).f0),.int .i64 ((rd_T29 l1_2 x5_2).f1),.slice A626_2 ((rd_T29 l1_2 x5_2).f2).length c626_2]] ?_
       with_reducible refine (ih k2 (by have:=HJ2.out;have:=HK2.out;omega) ((rd_T29 l0_2 x5_2).f0) ((rd_T29 l0_2 x5_2).f1) _ _ ((rd_T29 l0_2 x5_2).f2) ((rd_T29 l1_2 x5_2).f0) ((rd_T29 l1_2 x5_2).f1) _ _ ((rd_T29 l1_2 x5_2).f2) false _ ?side1 ?side2 ?side3 ?side4 A21.out).mono ?_
       (case side1=>repeat (first | exact (Kd.C_below HR625_2.out HB.out) | (with_reducible refine Kd.C_alloc ?_ _) | (with_reducible refine Kd.C_drewN ?_ _) | (with_reducible refine Kd.C_drew ?_)))
       (case side2=>exact HC625_2.out)
       (case side3=>repeat (first | exact (Kd.C_below HR626_2.out HB.out) | (with_reducible refine Kd.C_alloc ?_ _) | (with_reducible refine Kd.C_drewN ?_ _) | (with_reducible refine Kd.C_drew ?_)))
       (case side4=>exact HC626_2.out)
       rintro e w30 ⟨rfl,hb⟩
       refine ⟨_,rfl,?_⟩
       replace BK623:=aQ (blk_below (g:=gb623) (o:=.cells #[.int .i64 a0_0,.int .i64 a0_1,.slice (some ad625) l0_2.length c0_2] 29 (0,0)) (nB BK623.out) hb)
       replace BK624:=aQ (blk_below (g:=gb624) (o:=.cells #[.int .i64 a1_0,.int .i64 a1_1,.slice (some ad626) l1_2.length c1_2] 29 (0,0)) (nB BK624.out) hb)
       replace HB:=aQ (below_step bB hb)
       (try clear hb)
       refine hK.out _ _ ⟨(blk_cell BK623.out 0).trans rfl,(blk_cell BK623.out 1).trans rfl,(blk_cell BK623.out 2).trans rfl,(blk_cell BK624.out 0).trans rfl,(blk_cell BK624.out 1).trans rfl,(blk_cell BK624.out 2).trans rfl,((HB.out.cell (World.block_lt_of_cell? w _ hw625_0)).trans hw625_0),((HB.out.cell (World.block_lt_of_cell? w _ hw625_1)).trans hw625_1),((HB.out.cell (World.block_lt_of_cell? w _ hw625_2)).trans hw625_2),((HB.out.cell (World.block_lt_of_cell? w _ hw626_0)).trans hw626_0),((HB.out.cell (World.block_lt_of_cell? w _ hw626_1)).trans hw626_1),((HB.out.cell (World.block_lt_of_cell? w _ hw626_2)).trans hw626_2)⟩ (fun hHeld=>?_)
       clear hK K
       refine nrm (N:=some 44) ?_
       refine pur (i:=11) (N:=some 45) #[true,true,true,true,true,true,true,true,true,true,true,true] ?_
       refine done_ (done_of HT_.out (by kernel_rfl)) ?_
       try go_wp2
       go_ret
       exact ⟨rfl,bB⟩
def spec_DrawClockSteps.f (k:Nat) (l0:List Int):Option (Int × Int × (List (S29))):=(spec_l6Open.f l0).bind fun bt601=>((spec_l92Timed.f k bt601.1 bt601.2).bind fun bt604=>(some (bt604.1,bt604.2.1,bt604.2.2.1)))
theorem spec_DrawClockSteps.mono:∀ a0 k,LeO (spec_DrawClockSteps.f k a0) (spec_DrawClockSteps.f (k + 1) a0):=by
 intro a0 k
 unfold spec_DrawClockSteps.f
 repeat' first
   | (with_reducible exact spec_l92Timed.mono _ _ _)
   | (with_reducible exact LeO.refl _)
   | (with_reducible exact LeO.none _)
   | (with_reducible refine LeO.ite ?_ ?_)
   | (with_reducible refine LeO.bind ?_ (fun _=>?_))
   | exact spec_l92Timed.mono _ _ _
   | exact LeO.none _
   | refine LeO.ite ?_ ?_
   | refine LeO.bind ?_ (fun _=>?_)
set_option maxHeartbeats 8000000 in
set_option maxRecDepth 100000 in
theorem spec_DrawClockSteps.calls (k:Nat) (A0:Option Addr) (c0:Nat) (l0:List Int) (r1:Int) (r2:Int) (r3:List (S29)) (w:World) (hr0:Kd.C (Kd.int .u8) w A0 l0.length l0) (hc0:l0.length ≤ c0) (h:spec_DrawClockSteps.f k l0 = some (r1,r2,r3)) :
  Calls Try.prog 22 #[.slice A0 l0.length c0] w fun e w'=>∃ v2_:Value,e = .returned (.agg #[.int .i64 r1,.int .i64 r2,v2_])∧Kd.N k29 29 w' w.heap.size (fun k_=>(w.heap.size ≤ k_)) v2_ r3∧Below w.heap.size w w':=by
 have hu29:=Try.underlying29
 have HR0:=Aside0.mk hr0
 have HC0:=Aside0.mk hc0
 clear hr0 hc0
 have HB:=Aside0.mk (Below.refl w.heap.size w)
 have H:((spec_l6Open.f l0).bind fun bt601=>((spec_l92Timed.f k bt601.1 bt601.2).bind fun bt604=>(some (bt604.1,bt604.2.1,bt604.2.2.1)))) = some (r1,r2,r3):=h
 clear h
 replace H:=Option.bind_eq_some_iff.mp H
 obtain ⟨⟨t601,t602⟩,A20,H⟩:=H
 replace H:((spec_l92Timed.f k t601 t602).bind fun bt604=>(some (bt604.1,bt604.2.1,bt604.2.2.1))) = some (r1,r2,r3):=H
 have A2:=Aside0.mk A20
 clear A20
 replace H:=Option.bind_eq_some_iff.mp H
 obtain ⟨⟨t604,t605,t606,t609⟩,A30,H⟩:=H
 replace H:(some (t604,t605,t606)) = some (r1,r2,r3):=H
 have A3:=Aside0.mk A30
 clear A30
 simp only [Option.some.injEq,Prod.mk.injEq] at H
 obtain ⟨rfl,rfl,rfl⟩:=H
 go_enter Try.func22,Try.ntmps22
 go_wp2_with (first | ((with_reducible refine gate_dst (N:=2) rfl ?_);refine box_event ?hg (N:=2) ?hd (cs:=#[.int .i64 0,.int .i64 0,.slice none 0 0]) (t:=29) ?hr ?_;(case hd=>rfl);(case hg=>rfl);(case hr=>first | (go_simp;done) | (go_simp;rfl));intro gb600 hg w4 hbox hb;have n0_:=Aside0.mk (below_step (by repeat (first | (with_reducible first | exact HB.out | apply below_alloc | apply pw_below_drewN | apply below_drew1) | exact HB.out)) hb);have n1_:=Aside0.mk (hbox);have n2_:=Aside0.mk ((by rw [hg];exact (below_size (by repeat (first | (with_reducible first | exact HB.out | apply below_alloc | apply pw_below_drewN | apply below_drew1) | exact HB.out))):w.heap.size ≤ gb600));have n3_:=Aside0.mk ((by rw [hg];exact (below_size (by repeat (first | (with_reducible first | exact HB.out | apply below_alloc | apply pw_below_drewN | apply below_drew1) | exact HB.out))):w.heap.size ≤ gb600));clear HB;have HB:=n0_;have BK600:=n1_;have GW600:=n2_;have GE600:=n3_;clear n0_ n1_ n2_ n3_;clear hb hbox hg) | ((with_reducible refine gate_callee (f:=45) rfl ?_);refine goesL_ (some 6) rfl rfl Try.func45 (by kernel_rfl) rfl #[.slice A0 l0.length c0] rfl (by (try simp only [List.map_toArray,List.map_cons,List.map_nil]);first | done | rfl | (simp only [List.length_drop,List.length_take];rfl)) ?_;(with_reducible refine (spec_l6Open.calls _ _ l0 t601 t602 w _ ?side1 ?side2 ?side3 A2.out).mono ?_);(case side1=>repeat (first | (with_reducible first | exact HB.out | apply below_alloc | apply pw_below_drewN | apply below_drew1 | refine below_set ?_ GE600.out) | exact HB.out));(case side2=>exact HR0.out);(case side3=>exact HC0.out);rintro e w5 ⟨g603,rfl,hi,hb,hb2⟩;refine ⟨_,rfl,?_⟩;have n0_:=Aside0.mk (blk_below (g:=gb600) (o:=.cells #[.int .i64 0,.int .i64 0,.slice none 0 0] 29 (0,0)) (by (with_reducible repeat (first | refine blk_drewN ?_ _ | refine blk_drew ?_ | refine blk_alloc ?_ _));exact BK600.out) hb2);have n1_:=Aside0.mk (hb);have n2_:=Aside0.mk (hi);have n3_:=Aside0.mk (IsS67.ne_blk hi (blk_below (g:=gb600) (o:=.cells #[.int .i64 0,.int .i64 0,.slice none 0 0] 29 (0,0)) (by (with_reducible repeat (first | refine blk_drewN ?_ _ | refine blk_drew ?_ | refine blk_alloc ?_ _));exact BK600.out) hb2) (by decide));have n4_:=Aside0.mk (Ne.symm (IsS67.ne_blk hi (blk_below (g:=gb600) (o:=.cells #[.int .i64 0,.int .i64 0,.slice none 0 0] 29 (0,0)) (by (with_reducible repeat (first | refine blk_drewN ?_ _ | refine blk_drew ?_ | refine blk_alloc ?_ _));exact BK600.out) hb2) (by decide)));clear BK600;clear HB;have BK600:=n0_;have HB:=n1_;have HI603:=n2_;have NB603_600:=n3_;have NB600_603:=n4_;clear n0_ n1_ n2_ n3_ n4_;(try clear hb);(try clear hb2);(try clear hk);(try clear hi)) | ((with_reducible refine gate_callee (f:=46) rfl ?_);refine goesL_ (some 8) rfl rfl Try.func46 (by kernel_rfl) rfl #[.pointer (some ⟨g603,0,none⟩)] rfl (by (try simp only [List.map_toArray,List.map_cons,List.map_nil]);first | done | rfl | (simp only [List.length_drop,List.length_take];rfl)) ?_;(with_reducible refine (spec_l92Timed.calls k g603 t601 t602 t604 t605 t606 t609 w _ ?side1 ?side2 A3.out).mono ?_);(case side1=>repeat (first | (with_reducible first | exact HI603.out | apply IsS67.alloc | apply IsS67.drewN | apply IsS67.drew | apply IsS67.set_1 | refine IsS67.far ?_ NB603_600.out _) | exact HI603.out));(case side2=>repeat (first | (with_reducible first | exact HB.out | apply below_alloc | apply pw_below_drewN | apply below_drew1 | refine below_set ?_ (IsS67.ge HI603.out) | refine below_set ?_ GE600.out) | exact HB.out));rintro e w6 ⟨v607,rfl,ho0,hi,hb,hk⟩;refine ⟨_,rfl,?_⟩;have n0_:=Aside0.mk (KeepBut.blk hk (g':=gb600) (o:=.cells #[.int .i64 0,.int .i64 0,.slice none 0 0] 29 (0,0)) (by (with_reducible repeat (first | refine blk_drewN ?_ _ | refine blk_drew ?_ | refine blk_alloc ?_ _));exact BK600.out) NB600_603.out (by simp));have n1_:=Aside0.mk (Kd.N_lower (Kd.N_mono (ok':=fun k_=>(w.heap.size ≤ k_)∧k_ ≠ gb600∧k_ ≠ g603) ho0 (fun k_ hk_=>⟨(Nat.le_trans (below_size (by repeat (first | (with_reducible first | exact HB.out | apply below_alloc | apply pw_below_drewN | apply below_drew1 | refine below_set ?_ (IsS67.ge HI603.out) | refine below_set ?_ GE600.out) | exact HB.out))) hk_),(Kd.freshB (g:=gb600) (o:=.cells #[.int .i64 0,.int .i64 0,.slice none 0 0] 29 (0,0)) (by (with_reducible repeat (first | refine blk_drewN ?_ _ | refine blk_drew ?_ | refine blk_alloc ?_ _));exact BK600.out) k_ hk_),(IsS67.fresh (by repeat (first | (with_reducible first | exact HI603.out | apply IsS67.alloc | apply IsS67.drewN | apply IsS67.drew | apply IsS67.set_1 | refine IsS67.far ?_ NB603_600.out _) | exact HI603.out)) k_ hk_)⟩)) (below_size (by repeat (first | (with_reducible first | exact HB.out | apply below_alloc | apply pw_below_drewN | apply below_drew1 | refine below_set ?_ (IsS67.ge HI603.out) | refine below_set ?_ GE600.out) | exact HB.out))));have n2_:=Aside0.mk (hb);have n3_:=Aside0.mk (hi);clear BK600;clear HB;clear HI603;have BK600:=n0_;have HO608:=n1_;have HB:=n2_;have HI603:=n3_;clear n0_ n1_ n2_ n3_;(try clear hb);(try clear hb2);(try clear hk);(try clear hi);(try clear ho0)) | ((with_reducible refine gate_dst (N:=4) rfl ?_);refine box_event ?hg (N:=4) ?hd (cs:=#[.int .i64 0,.int .i64 0,.slice none 0 0]) (t:=29) ?hr ?_;(case hd=>rfl);(case hg=>rfl);(case hr=>first | (go_simp;done) | (go_simp;rfl));intro gb610 hg w7 hbox hb;have n0_:=Aside0.mk (Kd.N_below (Kd.N_elderB (by (with_reducible repeat (first | apply Kd.N_alloc | apply Kd.N_drewN | apply Kd.N_drew));exact HO608.out) gb610 (Nat.le_of_eq hg.symm)) hb);have n1_:=Aside0.mk (blk_below (g:=gb600) (o:=.cells #[.int .i64 0,.int .i64 0,.slice none 0 0] 29 (0,0)) (by (with_reducible repeat (first | refine blk_drewN ?_ _ | refine blk_drew ?_ | refine blk_alloc ?_ _));exact BK600.out) hb);have n2_:=Aside0.mk (IsS67.below (by repeat (first | (with_reducible first | exact HI603.out | apply IsS67.alloc | apply IsS67.drewN | apply IsS67.drew | apply IsS67.set_1 | refine IsS67.far ?_ NB603_600.out _) | exact HI603.out)) hb);have n3_:=Aside0.mk (below_step (by repeat (first | (with_reducible first | exact HB.out | apply below_alloc | apply pw_below_drewN | apply below_drew1 | refine below_set ?_ (IsS67.ge HI603.out) | refine below_set ?_ GE600.out) | exact HB.out)) hb);have n4_:=Aside0.mk (hbox);have n5_:=Aside0.mk ((by rw [hg];exact (below_size (by repeat (first | (with_reducible first | exact HB.out | apply below_alloc | apply pw_below_drewN | apply below_drew1 | refine below_set ?_ (IsS67.ge HI603.out) | refine below_set ?_ GE600.out) | exact HB.out))):w.heap.size ≤ gb610));have n6_:=Aside0.mk ((by rw [hg];exact (below_size (by repeat (first | (with_reducible first | exact HB.out | apply below_alloc | apply pw_below_drewN | apply below_drew1 | refine below_set ?_ (IsS67.ge HI603.out) | refine below_set ?_ GE600.out) | exact HB.out))):w.heap.size ≤ gb610));have n7_:=Aside0.mk ((by rw [hg];exact Nat.ne_of_lt (blk_lt (g:=gb600) (o:=.cells #[.int .i64 0,.int .i64 0,.slice none 0 0] 29 (0,0)) (by (with_reducible repeat (first | refine blk_drewN ?_ _ | refine blk_drew ?_ | refine blk_alloc ?_ _));exact BK600.out)):gb600 ≠ gb610));have n8_:=Aside0.mk ((by rw [hg];exact Nat.ne_of_gt (blk_lt (g:=gb600) (o:=.cells #[.int .i64 0,.int .i64 0,.slice none 0 0] 29 (0,0)) (by (with_reducible repeat (first | refine blk_drewN ?_ _ | refine blk_drew ?_ | refine blk_alloc ?_ _));exact BK600.out)):gb610 ≠ gb600));have n9_:=Aside0.mk ((by rw [hg];exact Nat.ne_of_lt (IsS67.lt (show IsS67 w _ g603 t601 t609 from by repeat (first | (with_reducible first | exact HI603.out | apply IsS67.alloc | apply IsS67.drewN | apply IsS67.drew | apply IsS67.set_1 | refine IsS67.far ?_ NB603_600.out _) | exact HI603.out))):g603 ≠ gb610));have n10_:=Aside0.mk ((by rw [hg];exact Nat.ne_of_gt (IsS67.lt (show IsS67 w _ g603 t601 t609 from by repeat (first | (with_reducible first | exact HI603.out | apply IsS67.alloc | apply IsS67.drewN | apply IsS67.drew | apply IsS67.set_1 | refine IsS67.far ?_ NB603_600.out _) | exact HI603.out))):gb610 ≠ g603));clear HO608;clear BK600;clear HI603;clear HB;have HO608:=n0_;have BK600:=n1_;have HI603:=n2_;have HB:=n3_;have BK610:=n4_;have GW610:=n5_;have GE610:=n6_;have NB600_610:=n7_;have NB610_600:=n8_;have NB603_610:=n9_;have NB610_603:=n10_;clear n0_ n1_ n2_ n3_ n4_ n5_ n6_ n7_ n8_ n9_ n10_;clear hb hbox hg;have hnb8:=NB610_600.out;have hnc8:=NB600_610.out;have hnb9:=NB610_603.out;have hnc9:=NB603_610.out;have hcz10_0:w7.cell? ⟨gb610,0,none⟩ = some (.int .i64 0):=(blk_cell BK610.out 0).trans rfl;have hcz10_1:w7.cell? ⟨gb610,1,none⟩ = some (.int .i64 0):=(blk_cell BK610.out 1).trans rfl;have hcz10_2:w7.cell? ⟨gb610,2,none⟩ = some (.slice none 0 0):=(blk_cell BK610.out 2).trans rfl;have hfz10_0:=blk_frozen BK610.out 0;have hfz10_1:=blk_frozen BK610.out 1;have hfz10_2:=blk_frozen BK610.out 2;obtain ⟨Ao11,co11,eo11⟩:=Kd.N_slice HO608.out;subst eo11;have hnb12:=NB600_603.out;have hnc12:=NB603_600.out;have hcz13_0:w7.cell? ⟨gb600,0,none⟩ = some (.int .i64 0):=(blk_cell BK600.out 0).trans rfl;have hcz13_1:w7.cell? ⟨gb600,1,none⟩ = some (.int .i64 0):=(blk_cell BK600.out 1).trans rfl;have hcz13_2:w7.cell? ⟨gb600,2,none⟩ = some (.slice none 0 0):=(blk_cell BK600.out 2).trans rfl;have hfz13_0:=blk_frozen BK600.out 0;have hfz13_1:=blk_frozen BK600.out 1;have hfz13_2:=blk_frozen BK600.out 2))
 refine bodyPost_ret (results_cell_row rfl _ _ gb600 29 #[.int .i64 t604,.int .i64 t605,.slice Ao11 t606.length co11] (0,0) _ rfl (by (with_reducible repeat (first | refine blk_drewN ?_ _ | refine blk_drew ?_ | refine blk_alloc ?_ _));refine blk_put (cs:=#[.int .i64 t604,.int .i64 t605,.slice none 0 0]) ?_ 2 _ rfl;(with_reducible repeat (first | refine blk_drewN ?_ _ | refine blk_drew ?_ | refine blk_alloc ?_ _));refine blk_put (cs:=#[.int .i64 t604,.int .i64 0,.slice none 0 0]) ?_ 1 _ rfl;(with_reducible repeat (first | refine blk_drewN ?_ _ | refine blk_drew ?_ | refine blk_alloc ?_ _));refine blk_put (cs:=#[.int .i64 0,.int .i64 0,.slice none 0 0]) ?_ 0 _ rfl;(with_reducible repeat (first | refine blk_drewN ?_ _ | refine blk_drew ?_ | refine blk_alloc ?_ _));refine blk_far ?_ NB600_610.out _;(with_reducible repeat (first | refine blk_drewN ?_ _ | refine blk_drew ?_ | refine blk_alloc ?_ _));refine blk_far ?_ NB600_610.out _;(with_reducible repeat (first | refine blk_drewN ?_ _ | refine blk_drew ?_ | refine blk_alloc ?_ _));refine blk_far ?_ NB600_610.out _;(with_reducible repeat (first | refine blk_drewN ?_ _ | refine blk_drew ?_ | refine blk_alloc ?_ _));exact BK600.out) Try.underlying29 rfl (by kernel_rfl)) rfl ?_
 exact ⟨_,by first | rfl | (simp [errW_none,errW_some] <;> rfl) | (simp [*,errW_none,errW_some] <;> rfl),by (with_reducible repeat (first | apply Kd.N_alloc | apply Kd.N_drewN | apply Kd.N_drew));exact Kd.N_mono (Kd.N_far (p:=⟨gb600,2,none⟩) (Kd.N_far (p:=⟨gb600,1,none⟩) (Kd.N_far (p:=⟨gb600,0,none⟩) (Kd.N_far (p:=⟨gb610,2,none⟩) (Kd.N_far (p:=⟨gb610,1,none⟩) (Kd.N_far (p:=⟨gb610,0,none⟩) (Kd.N_mono (Kd.N_mono HO608.out (fun k_ hk=>(⟨hk,hk.2⟩:_∧k_ ≠ gb610))) (fun k_ hk=>(⟨hk,hk.1.1.2.1⟩:_∧k_ ≠ gb600))) (fun _ hk=>hk.1.2) (.int .i64 t604)) (fun _ hk=>hk.1.2) (.int .i64 t605)) (fun _ hk=>hk.1.2) (.slice Ao11 t606.length co11)) (fun _ hk=>hk.2) (.int .i64 t604)) (fun _ hk=>hk.2) (.int .i64 t605)) (fun _ hk=>hk.2) (.slice Ao11 t606.length co11)) (fun _ hk=>hk.1.1.1.1),by repeat (first | (with_reducible first | exact HB.out | apply below_alloc | apply pw_below_drewN | apply below_drew1 | refine below_set ?_ (IsS67.ge HI603.out) | refine below_set ?_ GE600.out | refine below_set ?_ GE610.out) | exact HB.out)⟩
def laws_mnTicks.l0:Nat → List (S44) → List (S44) → Int → Option (Bool)
 | 0,_,_,_=>none
 | k + 1,x0,x1,x5=>if x5 < (x0.length:Int) then (if 0 ≤ x5 then (if x5 < (x1.length:Int) then (if ((rd_T44 x0 x5).f0) = ((rd_T44 x1 x5).f0) then ((laws_mnClock.f k ((rd_T44 x0 x5).f1.f0) ((rd_T44 x0 x5).f1.f1) ((rd_T44 x0 x5).f1.f2) ((rd_T44 x1 x5).f1.f0) ((rd_T44 x1 x5).f1.f1) ((rd_T44 x1 x5).f1.f2)).bind fun t632=>(if t632 = true then (laws_mnTicks.l0 k x0 x1 (wrap64 (x5 + 1))) else (some false))) else (some false)) else (none)) else (none)) else (some true)
def laws_mnTicks.f (k:Nat) (l0:List (S44)) (l1:List (S44)):Option (Bool):=if (l0.length:Int) = (l1.length:Int) then (laws_mnTicks.l0 k l0 l1 0) else (some false)
theorem laws_mnTicks.mono_l:∀ k,(∀ y0 y1 y2,LeO (laws_mnTicks.l0 k y0 y1 y2) (laws_mnTicks.l0 (k + 1) y0 y1 y2))
 | 0=>fun _ _ _ r h=>by simp [laws_mnTicks.l0] at h
 | k + 1=>by
  have ih0:=laws_mnTicks.mono_l k
  ·intro y0 y1 y2
   unfold laws_mnTicks.l0
   repeat' first
   | (with_reducible exact ih0 _ _ _)
   | (with_reducible exact laws_mnClock.mono _ _ _ _ _ _ _)
   | (with_reducible exact LeO.refl _)
   | (with_reducible exact LeO.none _)
   | (with_reducible refine LeO.ite ?_ ?_)
   | (with_reducible refine LeO.bind ?_ (fun _=>?_))
   | exact ih0 _ _ _
   | exact laws_mnClock.mono _ _ _ _ _ _ _
   | exact LeO.none _
   | refine LeO.ite ?_ ?_
   | refine LeO.bind ?_ (fun _=>?_)
theorem laws_mnTicks.mono:∀ a0 a1 k,LeO (laws_mnTicks.f k a0 a1) (laws_mnTicks.f (k + 1) a0 a1):=by
 intro a0 a1 k
 have ih0:=laws_mnTicks.mono_l k
 unfold laws_mnTicks.f
 repeat' first
   | (with_reducible exact ih0 _ _ _)
   | (with_reducible exact laws_mnClock.mono _ _ _ _ _ _ _)
   | (with_reducible exact LeO.refl _)
   | (with_reducible exact LeO.none _)
   | (with_reducible refine LeO.ite ?_ ?_)
   | (with_reducible refine LeO.bind ?_ (fun _=>?_))
   | exact ih0 _ _ _
   | exact laws_mnClock.mono _ _ _ _ _ _ _
   | exact LeO.none _
   | refine LeO.ite ?_ ?_
   | refine LeO.bind ?_ (fun _=>?_)
def laws_mnTicks.T6:Bool × List (List Nat × List Nat):=(true,[([],[]),([],[]),([0,1],[0,1]),([2],[2]),([3],[3]),([],[]),([],[]),([5,6],[5,6]),([7],[7]),([8],[8]),([4,9],[4,9]),([10],[10]),([11],[11]),([11],[11]),([12,13,11],[11,12,13]),([14,11],[11,14]),([15,11],[11,15]),([11],[11]),([11],[11]),([17,18,11],[11,17,18]),([19,11],[11,19]),([20,11],[11,20]),([16,21,11,11],[11,16,21]),([22,11],[11,22]),([11,23],[11,23])])
def laws_mnTicks.B6:List Nat:=[0,0,3,7,15,0,0,96,224,480,1023,2047,4095,4095,16383,32767,65535,4095,4095,397311,921599,1970175,4194303,8388607,16777215]
theorem laws_mnTicks.tab6:rtab .any (opsOf Try.f24 6) = laws_mnTicks.T6:=by kernel_rfl
theorem laws_mnTicks.bits6:waitsOk laws_mnTicks.T6.2 laws_mnTicks.B6 = true:=by kernel_rfl
set_option maxHeartbeats 8000000 in
set_option maxRecDepth 100000 in
theorem laws_mnTicks.calls (k:Nat) (A0:Option Addr) (c0:Nat) (l0:List (S44)) (A1:Option Addr) (c1:Nat) (l1:List (S44)) (r:Bool) (w:World) (hr0:Kd.C k44 w A0 l0.length l0) (hc0:l0.length ≤ c0) (hr1:Kd.C k44 w A1 l1.length l1) (hc1:l1.length ≤ c1) (h:laws_mnTicks.f k l0 l1 = some r) :
  Calls Try.prog 24 #[.slice A0 l0.length c0,.slice A1 l1.length c1] w fun e w'=>e = .returned (.bool r)∧Below w.heap.size w w':=by
 have hu29:=Try.underlying29
 have HR0:=aQ hr0
 have HC0:=aQ hc0
 clear hr0 hc0
 have HR1:=aQ hr1
 have HC1:=aQ hc1
 clear hr1 hc1
 have HB:=aQ (Below.refl w.heap.size w)
 have H:(if (l0.length:Int) = (l1.length:Int) then (laws_mnTicks.l0 k l0 l1 0) else (some false)) = some r:=h
 clear h
 by_cases c3:(l0.length:Int) = (l1.length:Int);rotate_left
 ·rw [if_neg c3] at H
  have c3b0:((l0.length:Int) == (l1.length:Int)) = false:=beq_eq_false_iff_ne.mpr c3
  have c3b1:((l0.length:Int) != (l1.length:Int)) = true:=bne_iff_ne.mpr c3
  have c3b2:(l0.length == l1.length) = false:=by first | simpa using c3 | (simp at c3 ⊢;omega)
  obtain rfl:=Option.some.inj H
  go_enter Try.func24,Try.ntmps24
  go_wp2
  go_ret
  exact ⟨rfl,bB⟩
 rw [if_pos c3] at H
 have c3b0:((l0.length:Int) == (l1.length:Int)) = true:=beq_iff_eq.mpr c3
 have c3b1:((l0.length:Int) != (l1.length:Int)) = false:=bne_eq_false_iff_eq.mpr c3
 have c3b2:(l0.length == l1.length) = true:=by first | simpa using c3 | (simp at c3 ⊢;omega)
 clear c3
 have H':=aQ H
 clear H
 go_enter Try.func24,Try.ntmps24
 go_wp2
 go_loopg [5] k (fun kq v5 w'=>∃ (x5_1:Int),v5 = .int .i64 x5_1∧Aside0 (laws_mnTicks.l0 kq l0 l1 x5_1 = some r)∧Aside0 (kq ≤ k)∧Aside0 (Below w.heap.size w w'))
 case atStart=>exact ⟨(0),rfl,H',⟨Nat.le_refl _⟩,⟨bB⟩⟩
 case round =>
  clear H'
  try clear c3b0
  try clear c3b1
  try clear c3b2
  repeat (first | clear HB)
  obtain ⟨x5_1,rfl,HA,HK1,HB⟩:=hrel
  cases gk with
  | zero=>exact absurd HA.out (by simp [laws_mnTicks.l0])
  | succ k1 =>
   have H:=HA.out
   clear HA
   simp only [laws_mnTicks.l0] at H
   by_cases c4:x5_1 < (l0.length:Int);rotate_left
   ·rw [if_neg c4] at H
    have c4b0:decide (x5_1 < (l0.length:Int)) = false:=decide_eq_false c4
    clear c4
    obtain rfl:=Option.some.inj H
    go_wp2
    go_ret
    exact ⟨eW,bB⟩
   rw [if_pos c4] at H
   have c4b0:decide (x5_1 < (l0.length:Int)) = true:=decide_eq_true c4
   clear c4
   by_cases c5:0 ≤ x5_1;rotate_left
   ·rw [if_neg c5] at H
    exact absurd H (by simp)
   rw [if_pos c5] at H
   have c5b0:decide (0 ≤ x5_1) = true:=decide_eq_true c5
   clear c5
   by_cases c6:x5_1 < (l1.length:Int);rotate_left
   ·rw [if_neg c6] at H
    exact absurd H (by simp)
   rw [if_pos c6] at H
   have c6b0:decide (x5_1 < (l1.length:Int)) = true:=decide_eq_true c6
   clear c6
   by_cases c7:((rd_T44 l0 x5_1).f0) = ((rd_T44 l1 x5_1).f0);rotate_left
   ·rw [if_neg c7] at H
    have c7b0:(((rd_T44 l0 x5_1).f0) == ((rd_T44 l1 x5_1).f0)) = false:=beq_eq_false_iff_ne.mpr c7
    have c7b1:(((rd_T44 l0 x5_1).f0) != ((rd_T44 l1 x5_1).f0)) = true:=bne_iff_ne.mpr c7
    obtain rfl:=Option.some.inj H
    try go_wp2
    replace HB:=aQ (below_drew1 HB.out)
    have p628:0 ≤ (x5_1:Int):=of_decide_eq_true (by first | (with_reducible assumption) | assumption)
    have q628:x5_1 < (l0.length:Int):=of_decide_eq_true (by first | (with_reducible assumption) | assumption)
    obtain ⟨ad628,A628_3,c628_3,e628,hx628_0,hx628_1,hx628_2,hx628_3,hl628_3,hi628_3⟩:=at_T44 HR0.out x5_1 p628 q628
    have hw628_3:=hx628_3
    have hw628_2:=hx628_2
    have hw628_1:=hx628_1
    have hw628_0:=hx628_0
    cases e628
    replace hx628_0:=(HB.out.cell (World.block_lt_of_cell? w _ hx628_0)).trans hx628_0
    replace hx628_1:=(HB.out.cell (World.block_lt_of_cell? w _ hx628_1)).trans hx628_1
    replace hx628_2:=(HB.out.cell (World.block_lt_of_cell? w _ hx628_2)).trans hx628_2
    replace hx628_3:=(HB.out.cell (World.block_lt_of_cell? w _ hx628_3)).trans hx628_3
    have HR628_3:=aQ hi628_3
    have HC628_3:=aQ hl628_3
    clear hi628_3 hl628_3
    replace p628:=eq_true p628
    replace q628:=eq_true q628
    have p629:0 ≤ (x5_1:Int):=of_decide_eq_true (by first | (with_reducible assumption) | assumption)
    have q629:x5_1 < (l1.length:Int):=of_decide_eq_true (by first | (with_reducible assumption) | assumption)
    obtain ⟨ad629,A629_3,c629_3,e629,hx629_0,hx629_1,hx629_2,hx629_3,hl629_3,hi629_3⟩:=at_T44 HR1.out x5_1 p629 q629
    have hw629_3:=hx629_3
    have hw629_2:=hx629_2
    have hw629_1:=hx629_1
    have hw629_0:=hx629_0
    cases e629
    replace hx629_0:=(HB.out.cell (World.block_lt_of_cell? w _ hx629_0)).trans hx629_0
    replace hx629_1:=(HB.out.cell (World.block_lt_of_cell? w _ hx629_1)).trans hx629_1
    replace hx629_2:=(HB.out.cell (World.block_lt_of_cell? w _ hx629_2)).trans hx629_2
    replace hx629_3:=(HB.out.cell (World.block_lt_of_cell? w _ hx629_3)).trans hx629_3
    have HR629_3:=aQ hi629_3
    have HC629_3:=aQ hl629_3
    clear hi629_3 hl629_3
    replace p629:=eq_true p629
    replace q629:=eq_true q629
    refine start_ (n:=25) (S:=fun w'=>w'.cell? (ad628.add ((x5_1).toNat * 4)) = some (.int .i64 ((rd_T44 l0 x5_1).f0))∧w'.cell? ⟨(ad628.add ((x5_1).toNat * 4)).block,(ad628.add ((x5_1).toNat * 4)).off + 1,none⟩ = some (.int .i64 ((rd_T44 l0 x5_1).f1.f0))∧w'.cell? ⟨(ad628.add ((x5_1).toNat * 4)).block,(ad628.add ((x5_1).toNat * 4)).off + 2,none⟩ = some (.int .i64 ((rd_T44 l0 x5_1).f1.f1))∧w'.cell? ⟨(ad628.add ((x5_1).toNat * 4)).block,(ad628.add ((x5_1).toNat * 4)).off + 3,none⟩ = some (.slice A628_3 ((rd_T44 l0 x5_1).f1.f2).length c628_3)∧w'.cell? (ad629.add ((x5_1).toNat * 4)) = some (.int .i64 ((rd_T44 l1 x5_1).f0))∧w'.cell? ⟨(ad629.add ((x5_1).toNat * 4)).block,(ad629.add ((x5_1).toNat * 4)).off + 1,none⟩ = some (.int .i64 ((rd_T44 l1 x5_1).f1.f0))∧w'.cell? ⟨(ad629.add ((x5_1).toNat * 4)).block,(ad629.add ((x5_1).toNat * 4)).off + 2,none⟩ = some (.int .i64 ((rd_T44 l1 x5_1).f1.f1))∧w'.cell? ⟨(ad629.add ((x5_1).toNat * 4)).block,(ad629.add ((x5_1).toNat * 4)).off + 3,none⟩ = some (.slice A629_3 ((rd_T44 l1 x5_1).f1.f2).length c629_3)) (ds:=[]) #[false,false,false,false,false,false,false,false,false,false,false,false,false,false,false,false,false,false,false,false,false,false,false,false,false] (by kernel_rfl) rfl rfl ⟨((HB.out.cell (World.block_lt_of_cell? w _ hw628_0)).trans hw628_0),((HB.out.cell (World.block_lt_of_cell? w _ hw628_1)).trans hw628_1),((HB.out.cell (World.block_lt_of_cell? w _ hw628_2)).trans hw628_2),((HB.out.cell (World.block_lt_of_cell? w _ hw628_3)).trans hw628_3),((HB.out.cell (World.block_lt_of_cell? w _ hw629_0)).trans hw629_0),((HB.out.cell (World.block_lt_of_cell? w _ hw629_1)).trans hw629_1),((HB.out.cell (World.block_lt_of_cell? w _ hw629_2)).trans hw629_2),((HB.out.cell (World.block_lt_of_cell? w _ hw629_3)).trans hw629_3)⟩ (fun hHeld=>?_);refine with_tabW laws_mnTicks.tab6 laws_mnTicks.bits6 (fun HT_ HW_=>?_)
    generalize wr.drew = w14 at HB HR628_3 HR629_3 hx628_0 hx628_1 hx628_2 hx628_3 hx629_0 hx629_1 hx629_2 hx629_3 hHeld ⊢
    refine pur (i:=0) (N:=some 17) #[true,false,false,false,false,false,false,false,false,false,false,false,false,false,false,false,false,false,false,false,false,false,false,false,false] ?_
    refine pur (i:=1) (N:=some 18) #[true,true,false,false,false,false,false,false,false,false,false,false,false,false,false,false,false,false,false,false,false,false,false,false,false] ?_
    refine pur (i:=2) (N:=some 19) #[true,true,true,false,false,false,false,false,false,false,false,false,false,false,false,false,false,false,false,false,false,false,false,false,false] ?_
    refine pur (i:=3) (N:=some 20) #[true,true,true,true,false,false,false,false,false,false,false,false,false,false,false,false,false,false,false,false,false,false,false,false,false] ?_
    refine pur (i:=5) (N:=some 22) #[true,true,true,true,false,true,false,false,false,false,false,false,false,false,false,false,false,false,false,false,false,false,false,false,false] ?_
    refine pur (i:=6) (N:=some 23) #[true,true,true,true,false,true,true,false,false,false,false,false,false,false,false,false,false,false,false,false,false,false,false,false,false] ?_
    refine pur (i:=7) (N:=some 24) #[true,true,true,true,false,true,true,true,false,false,false,false,false,false,false,false,false,false,false,false,false,false,false,false,false] ?_
    refine pur (i:=8) (N:=some 25) #[true,true,true,true,false,true,true,true,true,false,false,false,false,false,false,false,false,false,false,false,false,false,false,false,false] ?_
    refine tak (i:=4) (N:=some 21) #[true,true,true,true,true,true,true,true,true,false,false,false,false,false,false,false,false,false,false,false,false,false,false,false,false] ?_
    refine tak (i:=9) (N:=some 26) #[true,true,true,true,true,true,true,true,true,true,false,false,false,false,false,false,false,false,false,false,false,false,false,false,false] ?_
    refine pur (i:=10) (N:=some 27) #[true,true,true,true,true,true,true,true,true,true,true,false,false,false,false,false,false,false,false,false,false,false,false,false,false] ?_
    refine pur (i:=11) (N:=some 28) #[true,true,true,true,true,true,true,true,true,true,true,true,false,false,false,false,false,false,false,false,false,false,false,false,false] ?_
    refine pure_ (i:=12) (N:=some 29) (v:=undef) (a':=?_) #[true,true,true,true,true,true,true,true,true,true,true,true,true,false,false,false,false,false,false,false,false,false,false,false,false] rfl rfl (any_of HT_.out (by kernel_rfl)) (fun _ _ _ h=>h) (Or.inr ⟨by rfl,rfl⟩) ?_ ?_
    rotate_left;·simp only [Act.put,List.setIfInBounds_toArray,List.set_cons_zero,List.set_cons_succ,i64_w,i32_w];rfl
    refine pure_ (i:=13) (N:=some 30) (v:=undef) (a':=?_) #[true,true,true,true,true,true,true,true,true,true,true,true,true,true,false,false,false,false,false,false,false,false,false,false,false] rfl rfl (any_of HT_.out (by kernel_rfl)) (fun _ _ _ h=>h) (Or.inr ⟨by rfl,rfl⟩) ?_ ?_
    rotate_left;·simp only [Act.put,List.setIfInBounds_toArray,List.set_cons_zero,List.set_cons_succ,i64_w,i32_w];rfl
    refine pure_ (i:=14) (N:=some 31) (v:=undef) (a':=?_) #[true,true,true,true,true,true,true,true,true,true,true,true,true,true,true,false,false,false,false,false,false,false,false,false,false] rfl rfl (any_of HT_.out (by kernel_rfl)) (fun _ _ _ h=>h) (Or.inr ⟨by rfl,rfl⟩) ?_ ?_
    rotate_left;·simp only [Act.put,List.setIfInBounds_toArray,List.set_cons_zero,List.set_cons_succ,i64_w,i32_w];rfl
    refine pure_ (i:=15) (N:=some 32) (v:=undef) (a':=?_) #[true,true,true,true,true,true,true,true,true,true,true,true,true,true,true,true,false,false,false,false,false,false,false,false,false] rfl rfl (any_of HT_.out (by kernel_rfl)) (fun _ _ _ h=>h) (Or.inr ⟨by rfl,rfl⟩) ?_ ?_
    rotate_left;·simp only [Act.put,List.setIfInBounds_toArray,List.set_cons_zero,List.set_cons_succ,i64_w,i32_w];rfl
    refine pure_ (i:=16) (N:=some 33) (v:=undef) (a':=?_) #[true,true,true,true,true,true,true,true,true,true,true,true,true,true,true,true,true,false,false,false,false,false,false,false,false] rfl rfl (any_of HT_.out (by kernel_rfl)) (fun _ _ _ h=>h) (Or.inr ⟨by rfl,rfl⟩) ?_ ?_
    rotate_left;·simp only [Act.put,List.setIfInBounds_toArray,List.set_cons_zero,List.set_cons_succ,i64_w,i32_w];rfl
    refine pure_ (i:=17) (N:=some 34) (v:=undef) (a':=?_) #[true,true,true,true,true,true,true,true,true,true,true,true,true,true,true,true,true,true,false,false,false,false,false,false,false] rfl rfl (any_of HT_.out (by kernel_rfl)) (fun _ _ _ h=>h) (Or.inr ⟨by rfl,rfl⟩) ?_ ?_
    rotate_left;·simp only [Act.put,List.setIfInBounds_toArray,List.set_cons_zero,List.set_cons_succ,i64_w,i32_w];rfl
    refine pure_ (i:=18) (N:=some 35) (v:=undef) (a':=?_) #[true,true,true,true,true,true,true,true,true,true,true,true,true,true,true,true,true,true,true,false,false,false,false,false,false] rfl rfl (any_of HT_.out (by kernel_rfl)) (fun _ _ _ h=>h) (Or.inr ⟨by rfl,rfl⟩) ?_ ?_
    rotate_left;·simp only [Act.put,List.setIfInBounds_toArray,List.set_cons_zero,List.set_cons_succ,i64_w,i32_w];rfl
    refine pure_ (i:=19) (N:=some 36) (v:=undef) (a':=?_) #[true,true,true,true,true,true,true,true,true,true,true,true,true,true,true,true,true,true,true,true,false,false,false,false,false] rfl rfl (any_of HT_.out (by kernel_rfl)) (fun _ _ _ h=>h) (Or.inr ⟨by rfl,rfl⟩) ?_ ?_
    rotate_left;·simp only [Act.put,List.setIfInBounds_toArray,List.set_cons_zero,List.set_cons_succ,i64_w,i32_w];rfl
    refine pure_ (i:=20) (N:=some 37) (v:=undef) (a':=?_) #[true,true,true,true,true,true,true,true,true,true,true,true,true,true,true,true,true,true,true,true,true,false,false,false,false] rfl rfl (any_of HT_.out (by kernel_rfl)) (fun _ _ _ h=>h) (Or.inr ⟨by rfl,rfl⟩) ?_ ?_
    rotate_left;·simp only [Act.put,List.setIfInBounds_toArray,List.set_cons_zero,List.set_cons_succ,i64_w,i32_w];rfl
    refine pure_ (i:=21) (N:=some 38) (v:=undef) (a':=?_) #[true,true,true,true,true,true,true,true,true,true,true,true,true,true,true,true,true,true,true,true,true,true,false,false,false] rfl rfl (any_of HT_.out (by kernel_rfl)) (fun _ _ _ h=>h) (Or.inr ⟨by rfl,rfl⟩) ?_ ?_
    rotate_left;·simp only [Act.put,List.setIfInBounds_toArray,List.set_cons_zero,List.set_cons_succ,i64_w,i32_w];rfl
    refine pure_ (i:=22) (N:=some 39) (v:=undef) (a':=?_) #[true,true,true,true,true,true,true,true,true,true,true,true,true,true,true,true,true,true,true,true,true,true,true,false,false] rfl rfl (any_of HT_.out (by kernel_rfl)) (fun _ _ _ h=>h) (Or.inr ⟨by rfl,rfl⟩) ?_ ?_
    rotate_left;·simp only [Act.put,List.setIfInBounds_toArray,List.set_cons_zero,List.set_cons_succ,i64_w,i32_w];rfl
    refine pure_ (i:=23) (N:=some 40) (v:=undef) (a':=?_) #[true,true,true,true,true,true,true,true,true,true,true,true,true,true,true,true,true,true,true,true,true,true,true,true,false] rfl rfl (any_of HT_.out (by kernel_rfl)) (fun _ _ _ h=>h) (Or.inr ⟨by rfl,rfl⟩) ?_ ?_
    rotate_left;·simp only [Act.put,List.setIfInBounds_toArray,List.set_cons_zero,List.set_cons_succ,i64_w,i32_w];rfl
    refine pur (i:=24) (N:=some 41) #[true,true,true,true,true,true,true,true,true,true,true,true,true,true,true,true,true,true,true,true,true,true,true,true,true] ?_
    refine done_ (done_of HT_.out (by kernel_rfl)) ?_
    try go_wp2
    go_ret
    exact ⟨rfl,bB⟩
   rw [if_pos c7] at H
   have c7b0:(((rd_T44 l0 x5_1).f0) == ((rd_T44 l1 x5_1).f0)) = true:=beq_iff_eq.mpr c7
   have c7b1:(((rd_T44 l0 x5_1).f0) != ((rd_T44 l1 x5_1).f0)) = false:=bne_eq_false_iff_eq.mpr c7
   clear c7
   obtain ⟨t632,A8,H⟩:=bQ H
   (try dsimp only at H)
   by_cases c9:t632 = true
   ·subst c9
    have H1:(laws_mnTicks.l0 k1 l0 l1 (wrap64 (x5_1 + 1))) = some r:=by rw [if_pos rfl] at H;exact H
    clear H
    have H:=H1
    clear H1
    have H':=aQ H
    clear H
    try go_wp2
    replace HB:=aQ (below_drew1 HB.out)
    have p628:0 ≤ (x5_1:Int):=of_decide_eq_true (by first | (with_reducible assumption) | assumption)
    have q628:x5_1 < (l0.length:Int):=of_decide_eq_true (by first | (with_reducible assumption) | assumption)
    obtain ⟨ad628,A628_3,c628_3,e628,hx628_0,hx628_1,hx628_2,hx628_3,hl628_3,hi628_3⟩:=at_T44 HR0.out x5_1 p628 q628
    have hw628_3:=hx628_3
    have hw628_2:=hx628_2
    have hw628_1:=hx628_1
    have hw628_0:=hx628_0
    cases e628
    replace hx628_0:=(HB.out.cell (World.block_lt_of_cell? w _ hx628_0)).trans hx628_0
    replace hx628_1:=(HB.out.cell (World.block_lt_of_cell? w _ hx628_1)).trans hx628_1
    replace hx628_2:=(HB.out.cell (World.block_lt_of_cell? w _ hx628_2)).trans hx628_2
    replace hx628_3:=(HB.out.cell (World.block_lt_of_cell? w _ hx628_3)).trans hx628_3
    have HR628_3:=aQ hi628_3
    have HC628_3:=aQ hl628_3
    clear hi628_3 hl628_3
    replace p628:=eq_true p628
    replace q628:=eq_true q628
    have p629:0 ≤ (x5_1:Int):=of_decide_eq_true (by first | (with_reducible assumption) | assumption)
    have q629:x5_1 < (l1.length:Int):=of_decide_eq_true (by first | (with_reducible assumption) | assumption)
    obtain ⟨ad629,A629_3,c629_3,e629,hx629_0,hx629_1,hx629_2,hx629_3,hl629_3,hi629_3⟩:=at_T44 HR1.out x5_1 p629 q629
    have hw629_3:=hx629_3
    have hw629_2:=hx629_2
    have hw629_1:=hx629_1
    have hw629_0:=hx629_0
    cases e629
    replace hx629_0:=(HB.out.cell (World.block_lt_of_cell? w _ hx629_0)).trans hx629_0
    replace hx629_1:=(HB.out.cell (World.block_lt_of_cell? w _ hx629_1)).trans hx629_1
    replace hx629_2:=(HB.out.cell (World.block_lt_of_cell? w _ hx629_2)).trans hx629_2
    replace hx629_3:=(HB.out.cell (World.block_lt_of_cell? w _ hx629_3)).trans hx629_3
    have HR629_3:=aQ hi629_3
    have HC629_3:=aQ hl629_3
    clear hi629_3 hl629_3
    replace p629:=eq_true p629
    replace q629:=eq_true q629
    have p630:0 ≤ (x5_1:Int):=of_decide_eq_true (by first | (with_reducible assumption) | assumption)
    have q630:x5_1 < (l0.length:Int):=of_decide_eq_true (by first | (with_reducible assumption) | assumption)
    obtain ⟨ad630,A630_3,c630_3,e630,hx630_0,hx630_1,hx630_2,hx630_3,hl630_3,hi630_3⟩:=at_T44 HR0.out x5_1 p630 q630
    have hw630_3:=hx630_3
    have hw630_2:=hx630_2
    have hw630_1:=hx630_1
    have hw630_0:=hx630_0
    obtain rfl:ad628 = ad630:=(by injection e630)
    replace hx630_0:=(HB.out.cell (World.block_lt_of_cell? w _ hx630_0)).trans hx630_0
    replace hx630_1:=(HB.out.cell (World.block_lt_of_cell? w _ hx630_1)).trans hx630_1
    replace hx630_2:=(HB.out.cell (World.block_lt_of_cell? w _ hx630_2)).trans hx630_2
    replace hx630_3:=(HB.out.cell (World.block_lt_of_cell? w _ hx630_3)).trans hx630_3
    have HR630_3:=aQ hi630_3
    have HC630_3:=aQ hl630_3
    clear hi630_3 hl630_3
    replace p630:=eq_true p630
    replace q630:=eq_true q630
    have ea_:=Option.some.inj (hx628_3.symm.trans hx630_3)
    injection ea_ with ea_ en_ ec_
    subst ea_
    subst ec_
    clear en_
    have p631:0 ≤ (x5_1:Int):=of_decide_eq_true (by first | (with_reducible assumption) | assumption)
    have q631:x5_1 < (l1.length:Int):=of_decide_eq_true (by first | (with_reducible assumption) | assumption)
    obtain ⟨ad631,A631_3,c631_3,e631,hx631_0,hx631_1,hx631_2,hx631_3,hl631_3,hi631_3⟩:=at_T44 HR1.out x5_1 p631 q631
    have hw631_3:=hx631_3
    have hw631_2:=hx631_2
    have hw631_1:=hx631_1
    have hw631_0:=hx631_0
    obtain rfl:ad629 = ad631:=(by injection e631)
    replace hx631_0:=(HB.out.cell (World.block_lt_of_cell? w _ hx631_0)).trans hx631_0
    replace hx631_1:=(HB.out.cell (World.block_lt_of_cell? w _ hx631_1)).trans hx631_1
    replace hx631_2:=(HB.out.cell (World.block_lt_of_cell? w _ hx631_2)).trans hx631_2
    replace hx631_3:=(HB.out.cell (World.block_lt_of_cell? w _ hx631_3)).trans hx631_3
    have HR631_3:=aQ hi631_3
    have HC631_3:=aQ hl631_3
    clear hi631_3 hl631_3
    replace p631:=eq_true p631
    replace q631:=eq_true q631
    have ea_:=Option.some.inj (hx629_3.symm.trans hx631_3)
    injection ea_ with ea_ en_ ec_
    subst ea_
    subst ec_
    clear en_
    refine start_ (n:=25) (S:=fun w'=>w'.cell? (ad628.add ((x5_1).toNat * 4)) = some (.int .i64 ((rd_T44 l0 x5_1).f0))∧w'.cell? ⟨(ad628.add ((x5_1).toNat * 4)).block,(ad628.add ((x5_1).toNat * 4)).off + 1,none⟩ = some (.int .i64 ((rd_T44 l0 x5_1).f1.f0))∧w'.cell? ⟨(ad628.add ((x5_1).toNat * 4)).block,(ad628.add ((x5_1).toNat * 4)).off + 2,none⟩ = some (.int .i64 ((rd_T44 l0 x5_1).f1.f1))∧w'.cell? ⟨(ad628.add ((x5_1).toNat * 4)).block,(ad628.add ((x5_1).toNat * 4)).off + 3,none⟩ = some (.slice A628_3 ((rd_T44 l0 x5_1).f1.f2).length c628_3)∧w'.cell? (ad629.add ((x5_1).toNat * 4)) = some (.int .i64 ((rd_T44 l1 x5_1).f0))∧w'.cell? ⟨(ad629.add ((x5_1).toNat * 4)).block,(ad629.add ((x5_1).toNat * 4)).off + 1,none⟩ = some (.int .i64 ((rd_T44 l1 x5_1).f1.f0))∧w'.cell? ⟨(ad629.add ((x5_1).toNat * 4)).block,(ad629.add ((x5_1).toNat * 4)).off + 2,none⟩ = some (.int .i64 ((rd_T44 l1 x5_1).f1.f1))∧w'.cell? ⟨(ad629.add ((x5_1).toNat * 4)).block,(ad629.add ((x5_1).toNat * 4)).off + 3,none⟩ = some (.slice A629_3 ((rd_T44 l1 x5_1).f1.f2).length c629_3)∧w'.cell? (ad628.add ((x5_1).toNat * 4)) = some (.int .i64 ((rd_T44 l0 x5_1).f0))∧w'.cell? ⟨(ad628.add ((x5_1).toNat * 4)).block,(ad628.add ((x5_1).toNat * 4)).off + 1,none⟩ = some (.int .i64 ((rd_T44 l0 x5_1).f1.f0))∧w'.cell? ⟨(ad628.add ((x5_1).toNat * 4)).block,(ad628.add ((x5_1).toNat * 4)).off + 2,none⟩ = some (.int .i64 ((rd_T44 l0 x5_1).f1.f1))∧w'.cell? ⟨(ad628.add ((x5_1).toNat * 4)).block,(ad628.add ((x5_1).toNat * 4)).off + 3,none⟩ = some (.slice A628_3 ((rd_T44 l0 x5_1).f1.f2).length c628_3)∧w'.cell? (ad629.add ((x5_1).toNat * 4)) = some (.int .i64 ((rd_T44 l1 x5_1).f0))∧w'.cell? ⟨(ad629.add ((x5_1).toNat * 4)).block,(ad629.add ((x5_1).toNat * 4)).off + 1,none⟩ = some (.int .i64 ((rd_T44 l1 x5_1).f1.f0))∧w'.cell? ⟨(ad629.add ((x5_1).toNat * 4)).block,(ad629.add ((x5_1).toNat * 4)).off + 2,none⟩ = some (.int .i64 ((rd_T44 l1 x5_1).f1.f1))∧w'.cell? ⟨(ad629.add ((x5_1).toNat * 4)).block,(ad629.add ((x5_1).toNat * 4)).off + 3,none⟩ = some (.slice A629_3 ((rd_T44 l1 x5_1).f1.f2).length c629_3)) (ds:=[]) #[false,false,false,false,false,false,false,false,false,false,false,false,false,false,false,false,false,false,false,false,false,false,false,false,false] (by kernel_rfl) rfl rfl ⟨((HB.out.cell (World.block_lt_of_cell? w _ hw628_0)).trans hw628_0),((HB.out.cell (World.block_lt_of_cell? w _ hw628_1)).trans hw628_1),((HB.out.cell (World.block_lt_of_cell? w _ hw628_2)).trans hw628_2),((HB.out.cell (World.block_lt_of_cell? w _ hw628_3)).trans hw628_3),((HB.out.cell (World.block_lt_of_cell? w _ hw629_0)).trans hw629_0),((HB.out.cell (World.block_lt_of_cell? w _ hw629_1)).trans hw629_1),((HB.out.cell (World.block_lt_of_cell? w _ hw629_2)).trans hw629_2),((HB.out.cell (World.block_lt_of_cell? w _ hw629_3)).trans hw629_3),((HB.out.cell (World.block_lt_of_cell? w _ hw630_0)).trans hw630_0),((HB.out.cell (World.block_lt_of_cell? w _ hw630_1)).trans hw630_1),((HB.out.cell (World.block_lt_of_cell? w _ hw630_2)).trans hw630_2),((HB.out.cell (World.block_lt_of_cell? w _ hw630_3)).trans hw630_3),((HB.out.cell (World.block_lt_of_cell? w _ hw631_0)).trans hw631_0),((HB.out.cell (World.block_lt_of_cell? w _ hw631_1)).trans hw631_1),((HB.out.cell (World.block_lt_of_cell? w _ hw631_2)).trans hw631_2),((HB.out.cell (World.block_lt_of_cell? w _ hw631_3)).trans hw631_3)⟩ (fun hHeld=>?_);refine with_tabW laws_mnTicks.tab6 laws_mnTicks.bits6 (fun HT_ HW_=>?_)
    generalize wr.drew = w10 at HB HR628_3 HR629_3 HR630_3 HR631_3 hx628_0 hx628_1 hx628_2 hx628_3 hx629_0 hx629_1 hx629_2 hx629_3 hx630_0 hx630_1 hx630_2 hx630_3 hx631_0 hx631_1 hx631_2 hx631_3 hHeld ⊢
    refine pur (i:=0) (N:=some 17) #[true,false,false,false,false,false,false,false,false,false,false,false,false,false,false,false,false,false,false,false,false,false,false,false,false] ?_
    refine pur (i:=1) (N:=some 18) #[true,true,false,false,false,false,false,false,false,false,false,false,false,false,false,false,false,false,false,false,false,false,false,false,false] ?_
    refine pur (i:=2) (N:=some 19) #[true,true,true,false,false,false,false,false,false,false,false,false,false,false,false,false,false,false,false,false,false,false,false,false,false] ?_
    refine pur (i:=3) (N:=some 20) #[true,true,true,true,false,false,false,false,false,false,false,false,false,false,false,false,false,false,false,false,false,false,false,false,false] ?_
    refine pur (i:=5) (N:=some 22) #[true,true,true,true,false,true,false,false,false,false,false,false,false,false,false,false,false,false,false,false,false,false,false,false,false] ?_
    refine pur (i:=6) (N:=some 23) #[true,true,true,true,false,true,true,false,false,false,false,false,false,false,false,false,false,false,false,false,false,false,false,false,false] ?_
    refine pur (i:=7) (N:=some 24) #[true,true,true,true,false,true,true,true,false,false,false,false,false,false,false,false,false,false,false,false,false,false,false,false,false] ?_
    refine pur (i:=8) (N:=some 25) #[true,true,true,true,false,true,true,true,true,false,false,false,false,false,false,false,false,false,false,false,false,false,false,false,false] ?_
    refine tak (i:=4) (N:=some 21) #[true,true,true,true,true,true,true,true,true,false,false,false,false,false,false,false,false,false,false,false,false,false,false,false,false] ?_
    refine tak (i:=9) (N:=some 26) #[true,true,true,true,true,true,true,true,true,true,false,false,false,false,false,false,false,false,false,false,false,false,false,false,false] ?_
    refine pur (i:=10) (N:=some 27) #[true,true,true,true,true,true,true,true,true,true,true,false,false,false,false,false,false,false,false,false,false,false,false,false,false] ?_
    refine pur (i:=11) (N:=some 28) #[true,true,true,true,true,true,true,true,true,true,true,true,false,false,false,false,false,false,false,false,false,false,false,false,false] ?_
    refine pur (i:=12) (N:=some 29) #[true,true,true,true,true,true,true,true,true,true,true,true,true,false,false,false,false,false,false,false,false,false,false,false,false] ?_
    refine pur (i:=13) (N:=some 30) #[true,true,true,true,true,true,true,true,true,true,true,true,true,true,false,false,false,false,false,false,false,false,false,false,false] ?_
    refine pur (i:=14) (N:=some 31) #[true,true,true,true,true,true,true,true,true,true,true,true,true,true,true,false,false,false,false,false,false,false,false,false,false] ?_
    refine pur (i:=15) (N:=some 32) #[true,true,true,true,true,true,true,true,true,true,true,true,true,true,true,true,false,false,false,false,false,false,false,false,false] ?_
    refine pur (i:=17) (N:=some 34) #[true,true,true,true,true,true,true,true,true,true,true,true,true,true,true,true,false,true,false,false,false,false,false,false,false] ?_
    refine pur (i:=18) (N:=some 35) #[true,true,true,true,true,true,true,true,true,true,true,true,true,true,true,true,false,true,true,false,false,false,false,false,false] ?_
    refine pur (i:=19) (N:=some 36) #[true,true,true,true,true,true,true,true,true,true,true,true,true,true,true,true,false,true,true,true,false,false,false,false,false] ?_
    refine pur (i:=20) (N:=some 37) #[true,true,true,true,true,true,true,true,true,true,true,true,true,true,true,true,false,true,true,true,true,false,false,false,false] ?_
    refine tak (i:=16) (N:=some 33) #[true,true,true,true,true,true,true,true,true,true,true,true,true,true,true,true,true,true,true,true,true,false,false,false,false] ?_
    refine tak (i:=21) (N:=some 38) #[true,true,true,true,true,true,true,true,true,true,true,true,true,true,true,true,true,true,true,true,true,true,false,false,false] ?_
    refine one_ (i:=22) (N:=some 39) #[true,true,true,true,true,true,true,true,true,true,true,true,true,true,true,true,true,true,true,true,true,true,true,false,false] rfl rfl (one_of HT_.out (by kernel_rfl)) (by decide) (fun K hK=>?_)
    refine goes1 Try.func32 #[.agg #[.int .i64 ((rd_T44 l0 x5_1).f1.f0),.int .i64 ((rd_T44 l0 x5_1).f1.f1),.slice A628_3 ((rd_T44 l0 x5_1).f1.f2).length c628_3],.agg #[.int .i64 ((rd_T44 l1 x5_1).f1.f0),.int .i64 ((rd_T44 l1 x5_1).f1.f1),.slice A629_3 ((rd_T44 l1 x5_1).f1.f2).length c629_3]] ?_
    with_reducible refine (laws_mnClock.calls k1 ((rd_T44 l0 x5_1).f1.f0) ((rd_T44 l0 x5_1).f1.f1) _ _ ((rd_T44 l0 x5_1).f1.f2) ((rd_T44 l1 x5_1).f1.f0) ((rd_T44 l1 x5_1).f1.f1) _ _ ((rd_T44 l1 x5_1).f1.f2) true _ ?side1 ?side2 ?side3 ?side4 A8.out).mono ?_
    (case side1=>repeat (first | exact (Kd.C_below HR630_3.out HB.out) | (with_reducible refine Kd.C_alloc ?_ _) | (with_reducible refine Kd.C_drewN ?_ _) | (with_reducible refine Kd.C_drew ?_)))
    (case side2=>exact HC630_3.out)
    (case side3=>repeat (first | exact (Kd.C_below HR631_3.out HB.out) | (with_reducible refine Kd.C_alloc ?_ _) | (with_reducible refine Kd.C_drewN ?_ _) | (with_reducible refine Kd.C_drew ?_)))
    (case side4=>exact HC631_3.out)
    rintro e w11 ⟨rfl,hb⟩
    refine ⟨_,rfl,?_⟩
    replace HB:=aQ (below_step bB hb)
    (try clear hb)
    refine hK.out _ _ ⟨((HB.out.cell (World.block_lt_of_cell? w _ hw628_0)).trans hw628_0),((HB.out.cell (World.block_lt_of_cell? w _ hw628_1)).trans hw628_1),((HB.out.cell (World.block_lt_of_cell? w _ hw628_2)).trans hw628_2),((HB.out.cell (World.block_lt_of_cell? w _ hw628_3)).trans hw628_3),((HB.out.cell (World.block_lt_of_cell? w _ hw629_0)).trans hw629_0),((HB.out.cell (World.block_lt_of_cell? w _ hw629_1)).trans hw629_1),((HB.out.cell (World.block_lt_of_cell? w _ hw629_2)).trans hw629_2),((HB.out.cell (World.block_lt_of_cell? w _ hw629_3)).trans hw629_3),((HB.out.cell (World.block_lt_of_cell? w _ hw630_0)).trans hw630_0),((HB.out.cell (World.block_lt_of_cell? w _ hw630_1)).trans hw630_1),((HB.out.cell (World.block_lt_of_cell? w _ hw630_2)).trans hw630_2),((HB.out.cell (World.block_lt_of_cell? w _ hw630_3)).trans hw630_3),((HB.out.cell (World.block_lt_of_cell? w _ hw631_0)).trans hw631_0),((HB.out.cell (World.block_lt_of_cell? w _ hw631_1)).trans hw631_1),((HB.out.cell (World.block_lt_of_cell? w _ hw631_2)).trans hw631_2),((HB.out.cell (World.block_lt_of_cell? w _ hw631_3)).trans hw631_3)⟩ (fun hHeld=>?_)
    clear hK K
    refine nrm (N:=some 39) ?_
    refine pur (i:=23) (N:=some 40) #[true,true,true,true,true,true,true,true,true,true,true,true,true,true,true,true,true,true,true,true,true,true,true,true,false] ?_
    refine pur (i:=24) (N:=some 41) #[true,true,true,true,true,true,true,true,true,true,true,true,true,true,true,true,true,true,true,true,true,true,true,true,true] ?_
    refine done_ (done_of HT_.out (by kernel_rfl)) ?_
    try go_wp2
    go_roundg k1
    case measure=>have:=HK1.out;omega
    case rel=>exact ⟨(wrap64 (x5_1 + 1)),rfl,H',⟨by have:=HK1.out;omega⟩,⟨bB⟩⟩
   ·replace c9:=Bool.eq_false_iff.mpr c9
    subst c9
    have H1:(some false) = some r:=by rw [if_neg (show ¬ (false = true) by decide)] at H;exact H
    clear H
    have H:=H1
    clear H1
    obtain rfl:=Option.some.inj H
    try go_wp2
    replace HB:=aQ (below_drew1 HB.out)
    have p628:0 ≤ (x5_1:Int):=of_decide_eq_true (by first | (with_reducible assumption) | assumption)
    have q628:x5_1 < (l0.length:Int):=of_decide_eq_true (by first | (with_reducible assumption) | assumption)
    obtain ⟨ad628,A628_3,c628_3,e628,hx628_0,hx628_1,hx628_2,hx628_3,hl628_3,hi628_3⟩:=at_T44 HR0.out x5_1 p628 q628
    have hw628_3:=hx628_3
    have hw628_2:=hx628_2
    have hw628_1:=hx628_1
    have hw628_0:=hx628_0
    cases e628
    replace hx628_0:=(HB.out.cell (World.block_lt_of_cell? w _ hx628_0)).trans hx628_0
    replace hx628_1:=(HB.out.cell (World.block_lt_of_cell? w _ hx628_1)).trans hx628_1
    replace hx628_2:=(HB.out.cell (World.block_lt_of_cell? w _ hx628_2)).trans hx628_2
    replace hx628_3:=(HB.out.cell (World.block_lt_of_cell? w _ hx628_3)).trans hx628_3
    have HR628_3:=aQ hi628_3
    have HC628_3:=aQ hl628_3
    clear hi628_3 hl628_3
    replace p628:=eq_true p628
    replace q628:=eq_true q628
    have p629:0 ≤ (x5_1:Int):=of_decide_eq_true (by first | (with_reducible assumption) | assumption)
    have q629:x5_1 < (l1.length:Int):=of_decide_eq_true (by first | (with_reducible assumption) | assumption)
    obtain ⟨ad629,A629_3,c629_3,e629,hx629_0,hx629_1,hx629_2,hx629_3,hl629_3,hi629_3⟩:=at_T44 HR1.out x5_1 p629 q629
    have hw629_3:=hx629_3
    have hw629_2:=hx629_2
    have hw629_1:=hx629_1
    have hw629_0:=hx629_0
    cases e629
    replace hx629_0:=(HB.out.cell (World.block_lt_of_cell? w _ hx629_0)).trans hx629_0
    replace hx629_1:=(HB.out.cell (World.block_lt_of_cell? w _ hx629_1)).trans hx629_1
    replace hx629_2:=(HB.out.cell (World.block_lt_of_cell? w _ hx629_2)).trans hx629_2
    replace hx629_3:=(HB.out.cell (World.block_lt_of_cell? w _ hx629_3)).trans hx629_3
    have HR629_3:=aQ hi629_3
    have HC629_3:=aQ hl629_3
    clear hi629_3 hl629_3
    replace p629:=eq_true p629
    replace q629:=eq_true q629
    have p630:0 ≤ (x5_1:Int):=of_decide_eq_true (by first | (with_reducible assumption) | assumption)
    have q630:x5_1 < (l0.length:Int):=of_decide_eq_true (by first | (with_reducible assumption) | assumption)
    obtain ⟨ad630,A630_3,c630_3,e630,hx630_0,hx630_1,hx630_2,hx630_3,hl630_3,hi630_3⟩:=at_T44 HR0.out x5_1 p630 q630
    have hw630_3:=hx630_3
    have hw630_2:=hx630_2
    have hw630_1:=hx630_1
    have hw630_0:=hx630_0
    obtain rfl:ad628 = ad630:=(by injection e630)
    replace hx630_0:=(HB.out.cell (World.block_lt_of_cell? w _ hx630_0)).trans hx630_0
    replace hx630_1:=(HB.out.cell (World.block_lt_of_cell? w _ hx630_1)).trans hx630_1
    replace hx630_2:=(HB.out.cell (World.block_lt_of_cell? w _ hx630_2)).trans hx630_2
    replace hx630_3:=(HB.out.cell (World.block_lt_of_cell? w _ hx630_3)).trans hx630_3
    have HR630_3:=aQ hi630_3
    have HC630_3:=aQ hl630_3
    clear hi630_3 hl630_3
    replace p630:=eq_true p630
    replace q630:=eq_true q630
    have ea_:=Option.some.inj (hx628_3.symm.trans hx630_3)
    injection ea_ with ea_ en_ ec_
    subst ea_
    subst ec_
    clear en_
    have p631:0 ≤ (x5_1:Int):=of_decide_eq_true (by first | (with_reducible assumption) | assumption)
    have q631:x5_1 < (l1.length:Int):=of_decide_eq_true (by first | (with_reducible assumption) | assumption)
    obtain ⟨ad631,A631_3,c631_3,e631,hx631_0,hx631_1,hx631_2,hx631_3,hl631_3,hi631_3⟩:=at_T44 HR1.out x5_1 p631 q631
    have hw631_3:=hx631_3
    have hw631_2:=hx631_2
    have hw631_1:=hx631_1
    have hw631_0:=hx631_0
    obtain rfl:ad629 = ad631:=(by injection e631)
    replace hx631_0:=(HB.out.cell (World.block_lt_of_cell? w _ hx631_0)).trans hx631_0
    replace hx631_1:=(HB.out.cell (World.block_lt_of_cell? w _ hx631_1)).trans hx631_1
    replace hx631_2:=(HB.out.cell (World.block_lt_of_cell? w _ hx631_2)).trans hx631_2
    replace hx631_3:=(HB.out.cell (World.block_lt_of_cell? w _ hx631_3)).trans hx631_3
    have HR631_3:=aQ hi631_3
    have HC631_3:=aQ hl631_3
    clear hi631_3 hl631_3
    replace p631:=eq_true p631
    replace q631:=eq_true q631
    have ea_:=Option.some.inj (hx629_3.symm.trans hx631_3)
    injection ea_ with ea_ en_ ec_
    subst ea_
    subst ec_
    clear en_
    refine start_ (n:=25) (S:=fun w'=>w'.cell? (ad628.add ((x5_1).toNat * 4)) = some (.int .i64 ((rd_T44 l0 x5_1).f0))∧w'.cell? ⟨(ad628.add ((x5_1).toNat * 4)).block,(ad628.add ((x5_1).toNat * 4)).off + 1,none⟩ = some (.int .i64 ((rd_T44 l0 x5_1).f1.f0))∧w'.cell? ⟨(ad628.add ((x5_1).toNat * 4)).block,(ad628.add ((x5_1).toNat * 4)).off + 2,none⟩ = some (.int .i64 ((rd_T44 l0 x5_1).f1.f1))∧w'.cell? ⟨(ad628.add ((x5_1).toNat * 4)).block,(ad628.add ((x5_1).toNat * 4)).off + 3,none⟩ = some (.slice A628_3 ((rd_T44 l0 x5_1).f1.f2).length c628_3)∧w'.cell? (ad629.add ((x5_1).toNat * 4)) = some (.int .i64 ((rd_T44 l1 x5_1).f0))∧w'.cell? ⟨(ad629.add ((x5_1).toNat * 4)).block,(ad629.add ((x5_1).toNat * 4)).off + 1,none⟩ = some (.int .i64 ((rd_T44 l1 x5_1).f1.f0))∧w'.cell? ⟨(ad629.add ((x5_1).toNat * 4)).block,(ad629.add ((x5_1).toNat * 4)).off + 2,none⟩ = some (.int .i64 ((rd_T44 l1 x5_1).f1.f1))∧w'.cell? ⟨(ad629.add ((x5_1).toNat * 4)).block,(ad629.add ((x5_1).toNat * 4)).off + 3,none⟩ = some (.slice A629_3 ((rd_T44 l1 x5_1).f1.f2).length c629_3)∧w'.cell? (ad628.add ((x5_1).toNat * 4)) = some (.int .i64 ((rd_T44 l0 x5_1).f0))∧w'.cell? ⟨(ad628.add ((x5_1).toNat * 4)).block,(ad628.add ((x5_1).toNat * 4)).off + 1,none⟩ = some (.int .i64 ((rd_T44 l0 x5_1).f1.f0))∧w'.cell? ⟨(ad628.add ((x5_1).toNat * 4)).block,(ad628.add ((x5_1).toNat * 4)).off + 2,none⟩ = some (.int .i64 ((rd_T44 l0 x5_1).f1.f1))∧w'.cell? ⟨(ad628.add ((x5_1).toNat * 4)).block,(ad628.add ((x5_1).toNat * 4)).off + 3,none⟩ = some (.slice A628_3 ((rd_T44 l0 x5_1).f1.f2).length c628_3)∧w'.cell? (ad629.add ((x5_1).toNat * 4)) = some (.int .i64 ((rd_T44 l1 x5_1).f0))∧w'.cell? ⟨(ad629.add ((x5_1).toNat * 4)).block,(ad629.add ((x5_1).toNat * 4)).off + 1,none⟩ = some (.int .i64 ((rd_T44 l1 x5_1).f1.f0))∧w'.cell? ⟨(ad629.add ((x5_1).toNat * 4)).block,(ad629.add ((x5_1).toNat * 4)).off + 2,none⟩ = some (.int .i64 ((rd_T44 l1 x5_1).f1.f1))∧w'.cell? ⟨(ad629.add ((x5_1).toNat * 4)).block,(ad629.add ((x5_1).toNat * 4)).off + 3,none⟩ = some (.slice A629_3 ((rd_T44 l1 x5_1).f1.f2).length c629_3)) (ds:=[]) #[false,false,false,false,false,false,false,false,false,false,false,false,false,false,false,false,false,false,false,false,false,false,false,false,false] (by kernel_rfl) rfl rfl ⟨((HB.out.cell (World.block_lt_of_cell? w _ hw628_0)).trans hw628_0),((HB.out.cell (World.block_lt_of_cell? w _ hw628_1)).trans hw628_1),((HB.out.cell (World.block_lt_of_cell? w _ hw628_2)).trans hw628_2),((HB.out.cell (World.block_lt_of_cell? w _ hw628_3)).trans hw628_3),((HB.out.cell (World.block_lt_of_cell? w _ hw629_0)).trans hw629_0),((HB.out.cell (World.block_lt_of_cell? w _ hw629_1)).trans hw629_1),((HB.out.cell (World.block_lt_of_cell? w _ hw629_2)).trans hw629_2),((HB.out.cell (World.block_lt_of_cell? w _ hw629_3)).trans hw629_3),((HB.out.cell (World.block_lt_of_cell? w _ hw630_0)).trans hw630_0),((HB.out.cell (World.block_lt_of_cell? w _ hw630_1)).trans hw630_1),((HB.out.cell (World.block_lt_of_cell? w _ hw630_2)).trans hw630_2),((HB.out.cell (World.block_lt_of_cell? w _ hw630_3)).trans hw630_3),((HB.out.cell (World.block_lt_of_cell? w _ hw631_0)).trans hw631_0),((HB.out.cell (World.block_lt_of_cell? w _ hw631_1)).trans hw631_1),((HB.out.cell (World.block_lt_of_cell? w _ hw631_2)).trans hw631_2),((HB.out.cell (World.block_lt_of_cell? w _ hw631_3)).trans hw631_3)⟩ (fun hHeld=>?_);refine with_tabW laws_mnTicks.tab6 laws_mnTicks.bits6 (fun HT_ HW_=>?_)
    generalize wr.drew = w12 at HB HR628_3 HR629_3 HR630_3 HR631_3 hx628_0 hx628_1 hx628_2 hx628_3 hx629_0 hx629_1 hx629_2 hx629_3 hx630_0 hx630_1 hx630_2 hx630_3 hx631_0 hx631_1 hx631_2 hx631_3 hHeld ⊢
    refine pur (i:=0) (N:=some 17) #[true,false,false,false,false,false,false,false,false,false,false,false,false,false,false,false,false,false,false,false,false,false,false,false,false] ?_
    refine pur (i:=1) (N:=some 18) #[true,true,false,false,false,false,false,false,false,false,false,false,false,false,false,false,false,false,false,false,false,false,false,false,false] ?_
    refine pur (i:=2) (N:=some 19) #[true,true,true,false,false,false,false,false,false,false,false,false,false,false,false,false,false,false,false,false,false,false,false,false,false] ?_
    refine pur (i:=3) (N:=some 20) #[true,true,true,true,false,false,false,false,false,false,false,false,false,false,false,false,false,false,false,false,false,false,false,false,false] ?_
    refine pur (i:=5) (N:=some 22) #[true,true,true,true,false,true,false,false,false,false,false,false,false,false,false,false,false,false,false,false,false,false,false,false,false] ?_
    refine pur (i:=6) (N:=some 23) #[true,true,true,true,false,true,true,false,false,false,false,false,false,false,false,false,false,false,false,false,false,false,false,false,false] ?_
    refine pur (i:=7) (N:=some 24) #[true,true,true,true,false,true,true,true,false,false,false,false,false,false,false,false,false,false,false,false,false,false,false,false,false] ?_
    refine pur (i:=8) (N:=some 25) #[true,true,true,true,false,true,true,true,true,false,false,false,false,false,false,false,false,false,false,false,false,false,false,false,false] ?_
    refine tak (i:=4) (N:=some 21) #[true,true,true,true,true,true,true,true,true,false,false,false,false,false,false,false,false,false,false,false,false,false,false,false,false] ?_
    refine tak (i:=9) (N:=some 26) #[true,true,true,true,true,true,true,true,true,true,false,false,false,false,false,false,false,false,false,false,false,false,false,false,false] ?_
    refine pur (i:=10) (N:=some 27) #[true,true,true,true,true,true,true,true,true,true,true,false,false,false,false,false,false,false,false,false,false,false,false,false,false] ?_
    refine pur (i:=11) (N:=some 28) #[true,true,true,true,true,true,true,true,true,true,true,true,false,false,false,false,false,false,false,false,false,false,false,false,false] ?_
    refine pur (i:=12) (N:=some 29) #[true,true,true,true,true,true,true,true,true,true,true,true,true,false,false,false,false,false,false,false,false,false,false,false,false] ?_
    refine pur (i:=13) (N:=some 30) #[true,true,true,true,true,true,true,true,true,true,true,true,true,true,false,false,false,false,false,false,false,false,false,false,false] ?_
    refine pur (i:=14) (N:=some 31) #[true,true,true,true,true,true,true,true,true,true,true,true,true,true,true,false,false,false,false,false,false,false,false,false,false] ?_
    refine pur (i:=15) (N:=some 32) #[true,true,true,true,true,true,true,true,true,true,true,true,true,true,true,true,false,false,false,false,false,false,false,false,false] ?_
    refine pur (i:=17) (N:=some 34) #[true,true,true,true,true,true,true,true,true,true,true,true,true,true,true,true,false,true,false,false,false,false,false,false,false] ?_
    refine pur (i:=18) (N:=some 35) #[true,true,true,true,true,true,true,true,true,true,true,true,true,true,true,true,false,true,true,false,false,false,false,false,false] ?_
    refine pur (i:=19) (N:=some 36) #[true,true,true,true,true,true,true,true,true,true,true,true,true,true,true,true,false,true,true,true,false,false,false,false,false] ?_
    refine pur (i:=20) (N:=some 37) #[true,true,true,true,true,true,true,true,true,true,true,true,true,true,true,true,false,true,true,true,true,false,false,false,false] ?_
    refine tak (i:=16) (N:=some 33) #[true,true,true,true,true,true,true,true,true,true,true,true,true,true,true,true,true,true,true,true,true,false,false,false,false] ?_
    refine tak (i:=21) (N:=some 38) #[true,true,true,true,true,true,true,true,true,true,true,true,true,true,true,true,true,true,true,true,true,true,false,false,false] ?_
    refine one_ (i:=22) (N:=some 39) #[true,true,true,true,true,true,true,true,true,true,true,true,true,true,true,true,true,true,true,true,true,true,true,false,false] rfl rfl (one_of HT_.out (by kernel_rfl)) (by decide) (fun K hK=>?_)
    refine goes1 Try.func32 #[.agg #[.int .i64 ((rd_T44 l0 x5_1).f1.f0),.int .i64 ((rd_T44 l0 x5_1).f1.f1),.slice A628_3 ((rd_T44 l0 x5_1).f1.f2).length c628_3],.agg #[.int .i64 ((rd_T44 l1 x5_1).f1.f0),.int .i64 ((rd_T44 l1 x5_1).f1.f1),.slice A629_3 ((rd_T44 l1 x5_1).f1.f2).length c629_3]] ?_
    with_reducible refine (laws_mnClock.calls k1 ((rd_T44 l0 x5_1).f1.f0) ((rd_T44 l0 x5_1).f1.f1) _ _ ((rd_T44 l0 x5_1).f1.f2) ((rd_T44 l1 x5_1).f1.f0) ((rd_T44 l1 x5_1).f1.f1) _ _ ((rd_T44 l1 x5_1).f1.f2) false _ ?side1 ?side2 ?side3 ?side4 A8.out).mono ?_
    (case side1=>repeat (first | exact (Kd.C_below HR630_3.out HB.out) | (with_reducible refine Kd.C_alloc ?_ _) | (with_reducible refine Kd.C_drewN ?_ _) | (with_reducible refine Kd.C_drew ?_)))
    (case side2=>exact HC630_3.out)
    (case side3=>repeat (first | exact (Kd.C_below HR631_3.out HB.out) | (with_reducible refine Kd.C_alloc ?_ _) | (with_reducible refine Kd.C_drewN ?_ _) | (with_reducible refine Kd.C_drew ?_)))
    (case side4=>exact HC631_3.out)
    rintro e w13 ⟨rfl,hb⟩
    refine ⟨_,rfl,?_⟩
    replace HB:=aQ (below_step bB hb)
    (try clear hb)
    refine hK.out _ _ ⟨((HB.out.cell (World.block_lt_of_cell? w _ hw628_0)).trans hw628_0),((HB.out.cell (World.block_lt_of_cell? w _ hw628_1)).trans hw628_1),((HB.out.cell (World.block_lt_of_cell? w _ hw628_2)).trans hw628_2),((HB.out.cell (World.block_lt_of_cell? w _ hw628_3)).trans hw628_3),((HB.out.cell (World.block_lt_of_cell? w _ hw629_0)).trans hw629_0),((HB.out.cell (World.block_lt_of_cell? w _ hw629_1)).trans hw629_1),((HB.out.cell (World.block_lt_of_cell? w _ hw629_2)).trans hw629_2),((HB.out.cell (World.block_lt_of_cell? w _ hw629_3)).trans hw629_3),((HB.out.cell (World.block_lt_of_cell? w _ hw630_0)).trans hw630_0),((HB.out.cell (World.block_lt_of_cell? w _ hw630_1)).trans hw630_1),((HB.out.cell (World.block_lt_of_cell? w _ hw630_2)).trans hw630_2),((HB.out.cell (World.block_lt_of_cell? w _ hw630_3)).trans hw630_3),((HB.out.cell (World.block_lt_of_cell? w _ hw631_0)).trans hw631_0),((HB.out.cell (World.block_lt_of_cell? w _ hw631_1)).trans hw631_1),((HB.out.cell (World.block_lt_of_cell? w _ hw631_2)).trans hw631_2),((HB.out.cell (World.block_lt_of_cell? w _ hw631_3)).trans hw631_3)⟩ (fun hHeld=>?_)
    clear hK K
    refine nrm (N:=some 39) ?_
    refine pur (i:=23) (N:=some 40) #[true,true,true,true,true,true,true,true,true,true,true,true,true,true,true,true,true,true,true,true,true,true,true,true,false] ?_
    refine pur (i:=24) (N:=some 41) #[true,true,true,true,true,true,true,true,true,true,true,true,true,true,true,true,true,true,true,true,true,true,true,true,true] ?_
    refine done_ (done_of HT_.out (by kernel_rfl)) ?_
    try go_wp2
    go_ret
    exact ⟨rfl,bB⟩
def impl_ClockOk.f (k:Nat) (a0_0:Int) (a0_1:Int) (l0_2:List (S29)):Option (Bool):=(impl_clockNodes.f k a0_0 a0_1 l0_2 16).bind fun t155=>(if t155 ≤ 16 then ((impl_clockShape.f k a0_0 a0_1 l0_2).bind fun t156=>(some t156)) else (some false))
theorem impl_ClockOk.mono:∀ a0 a1 a2 k,LeO (impl_ClockOk.f k a0 a1 a2) (impl_ClockOk.f (k + 1) a0 a1 a2):=by
 intro a0 a1 a2 k
 unfold impl_ClockOk.f
 repeat' first
   | (with_reducible exact impl_clockNodes.mono _ _ _ _ _)
   | (with_reducible exact impl_clockShape.mono _ _ _ _)
   | (with_reducible exact LeO.refl _)
   | (with_reducible exact LeO.none _)
   | (with_reducible refine LeO.ite ?_ ?_)
   | (with_reducible refine LeO.bind ?_ (fun _=>?_))
   | exact impl_clockNodes.mono _ _ _ _ _
   | exact impl_clockShape.mono _ _ _ _
   | exact LeO.none _
   | refine LeO.ite ?_ ?_
   | refine LeO.bind ?_ (fun _=>?_)
set_option maxHeartbeats 8000000 in
set_option maxRecDepth 100000 in
theorem impl_ClockOk.calls (k:Nat) (a0_0:Int) (a0_1:Int) (A0_2:Option Addr) (c0_2:Nat) (l0_2:List (S29)) (r:Bool) (w:World) (hr0_2:Kd.C k29 w A0_2 l0_2.length l0_2) (hc0_2:l0_2.length ≤ c0_2) (h:impl_ClockOk.f k a0_0 a0_1 l0_2 = some r) :
  Calls Try.prog 16 #[.agg #[.int .i64 a0_0,.int .i64 a0_1,.slice A0_2 l0_2.length c0_2]] w fun e w'=>e = .returned (.bool r)∧Below w.heap.size w w':=by
 have hu29:=Try.underlying29
 have HR0_2:=aQ hr0_2
 have HC0_2:=aQ hc0_2
 clear hr0_2 hc0_2
 have HB:=aQ (Below.refl w.heap.size w)
 have H:=h
 clear h
 obtain ⟨t155,A2,H⟩:=bQ H
 (try dsimp only at H)
 by_cases c3:t155 ≤ 16;rotate_left
 ·rw [if_neg c3] at H
  have c3b0:decide (t155 ≤ 16) = false:=decide_eq_false c3
  clear c3
  obtain rfl:=Option.some.inj H
  go_enter Try.func16,Try.ntmps16
  go_wp2_with (first | ((with_reducible refine gate_dst (N:=1) rfl ?_);refine box1 (N:=1) (cs:=#[.int .i64 a0_0,.int .i64 a0_1,.slice A0_2 l0_2.length c0_2]) (t:=29) ?_;intro gb154 hg w10 hbox hb;have BK154:=aQ (hbox);have GW154:=aQ ((by rw [hg];exact (below_size bB):w.heap.size ≤ gb154));have GE154:=aQ ((by rw [hg];exact (below_size bB):w.heap.size ≤ gb154));replace HB:=aQ (below_step bB hb);clear hb hbox hg;have hcz11_0:w10.cell? ⟨gb154,0,none⟩ = some (.int .i64 a0_0):=(blk_cell BK154.out 0).trans rfl;have hcz11_1:w10.cell? ⟨gb154,1,none⟩ = some (.int .i64 a0_1):=(blk_cell BK154.out 1).trans rfl;have hcz11_2:w10.cell? ⟨gb154,2,none⟩ = some (.slice A0_2 l0_2.length c0_2):=(blk_cell BK154.out 2).trans rfl;have hfz11_0:=blk_frozen BK154.out 0;have hfz11_1:=blk_frozen BK154.out 1;have hfz11_2:=blk_frozen BK154.out 2) | ((with_reducible refine gate_callee (f:=42) rfl ?_);refine goesL_ (some 4) rfl rfl Try.func42 (by kernel_rfl) rfl #[.agg #[.int .i64 a0_0,.int .i64 a0_1,.slice A0_2 l0_2.length c0_2],.int .i64 16] rfl mP ?_;(with_reducible refine (impl_clockNodes.calls k a0_0 a0_1 _ _ l0_2 16 t155 _ ?side1 ?side2 A2.out).mono ?_);(case side1=>repeat (first | exact (Kd.C_below HR0_2.out HB.out) | (with_reducible refine Kd.C_alloc ?_ _) | (with_reducible refine Kd.C_drewN ?_ _) | (with_reducible refine Kd.C_drew ?_)));(case side2=>exact HC0_2.out);rintro e w12 ⟨rfl,hb⟩;refine ⟨_,rfl,?_⟩;replace BK154:=aQ (blk_below (g:=gb154) (o:=.cells #[.int .i64 a0_0,.int .i64 a0_1,.slice A0_2 l0_2.length c0_2] 29 (0,0)) (nB BK154.out) hb);replace HB:=aQ (below_step bB hb);(try clear hb)))
  go_ret
  exact ⟨rfl,bB⟩
 rw [if_pos c3] at H
 have c3b0:decide (t155 ≤ 16) = true:=decide_eq_true c3
 clear c3
 obtain ⟨t156,A4,H⟩:=bQ H
 replace H:(some t156) = some r:=H
 obtain rfl:=Option.some.inj H
 go_enter Try.func16,Try.ntmps16
 go_wp2_with (first | ((with_reducible refine gate_dst (N:=1) rfl ?_);refine box1 (N:=1) (cs:=#[.int .i64 a0_0,.int .i64 a0_1,.slice A0_2 l0_2.length c0_2]) (t:=29) ?_;intro gb154 hg w5 hbox hb;have BK154:=aQ (hbox);have GW154:=aQ ((by rw [hg];exact (below_size bB):w.heap.size ≤ gb154));have GE154:=aQ ((by rw [hg];exact (below_size bB):w.heap.size ≤ gb154));replace HB:=aQ (below_step bB hb);clear hb hbox hg;have hcz6_0:w5.cell? ⟨gb154,0,none⟩ = some (.int .i64 a0_0):=(blk_cell BK154.out 0).trans rfl;have hcz6_1:w5.cell? ⟨gb154,1,none⟩ = some (.int .i64 a0_1):=(blk_cell BK154.out 1).trans rfl;have hcz6_2:w5.cell? ⟨gb154,2,none⟩ = some (.slice A0_2 l0_2.length c0_2):=(blk_cell BK154.out 2).trans rfl;have hfz6_0:=blk_frozen BK154.out 0;have hfz6_1:=blk_frozen BK154.out 1;have hfz6_2:=blk_frozen BK154.out 2) | ((with_reducible refine gate_callee (f:=42) rfl ?_);refine goesL_ (some 4) rfl rfl Try.func42 (by kernel_rfl) rfl #[.agg #[.int .i64 a0_0,.int .i64 a0_1,.slice A0_2 l0_2.length c0_2],.int .i64 16] rfl mP ?_;(with_reducible refine (impl_clockNodes.calls k a0_0 a0_1 _ _ l0_2 16 t155 _ ?side1 ?side2 A2.out).mono ?_);(case side1=>repeat (first | exact (Kd.C_below HR0_2.out HB.out) | (with_reducible refine Kd.C_alloc ?_ _) | (with_reducible refine Kd.C_drewN ?_ _) | (with_reducible refine Kd.C_drew ?_)));(case side2=>exact HC0_2.out);rintro e w7 ⟨rfl,hb⟩;refine ⟨_,rfl,?_⟩;replace BK154:=aQ (blk_below (g:=gb154) (o:=.cells #[.int .i64 a0_0,.int .i64 a0_1,.slice A0_2 l0_2.length c0_2] 29 (0,0)) (nB BK154.out) hb);replace HB:=aQ (below_step bB hb);(try clear hb);have hcz8_0:w7.cell? ⟨gb154,0,none⟩ = some (.int .i64 a0_0):=(blk_cell BK154.out 0).trans rfl;have hcz8_1:w7.cell? ⟨gb154,1,none⟩ = some (.int .i64 a0_1):=(blk_cell BK154.out 1).trans rfl;have hcz8_2:w7.cell? ⟨gb154,2,none⟩ = some (.slice A0_2 l0_2.length c0_2):=(blk_cell BK154.out 2).trans rfl;have hfz8_0:=blk_frozen BK154.out 0;have hfz8_1:=blk_frozen BK154.out 1;have hfz8_2:=blk_frozen BK154.out 2) | (go_at_call 43;(with_reducible refine (impl_clockShape.calls k a0_0 a0_1 _ _ l0_2 t156 _ ?side1 ?side2 A4.out).mono ?_);(case side1=>repeat (first | exact (Kd.C_below HR0_2.out HB.out) | (with_reducible refine Kd.C_alloc ?_ _) | (with_reducible refine Kd.C_drewN ?_ _) | (with_reducible refine Kd.C_drew ?_)));(case side2=>exact HC0_2.out);rintro e w9 ⟨rfl,hb⟩;replace BK154:=aQ (blk_below (g:=gb154) (o:=.cells #[.int .i64 a0_0,.int .i64 a0_1,.slice A0_2 l0_2.length c0_2] 29 (0,0)) (nB BK154.out) hb);replace HB:=aQ (below_step bB hb);(try clear hb)))
 go_ret
 exact ⟨rfl,bB⟩
def impl_ClockSteps.l0:Nat → List (S44) → Int → Int → Option ((List (S44)) × Bool)
 | 0,_,_,_=>none
 | k + 1,x4,x12,x13=>if x13 < x12 then (if 0 ≤ x13 then (if x13 < (x4.length:Int) then ((impl_copyClock.f k ((rd_T44 x4 x13).f1.f0) ((rd_T44 x4 x13).f1.f1) ((rd_T44 x4 x13).f1.f2)).bind fun bt397=>(impl_ClockSteps.l0 k (x4.set (x13:Int).toNat (⟨(rd_T44 x4 x13).f0,(⟨bt397.1,bt397.2.1,bt397.2.2⟩:S29)⟩:S44)) x12 (wrap64 (x13 + 1)))) else (none)) else (none)) else (some (x4,true))
def impl_ClockSteps.f (k:Nat) (a0_0:Int) (a0_1:Int) (l0_2:List (S29)):Option ((List (S44)) × Bool):=(impl_ClockOk.f k a0_0 a0_1 l0_2).bind fun t392=>(if t392 = true then ((impl_ticksOf.f k a0_0 a0_1 l0_2).bind fun t393=>(impl_ClockSteps.l0 k t393 (t393.length:Int) 0)) else (some (([]:List (S44)),false)))
theorem impl_ClockSteps.mono_l:∀ k,(∀ y0 y1 y2,LeO (impl_ClockSteps.l0 k y0 y1 y2) (impl_ClockSteps.l0 (k + 1) y0 y1 y2))
 | 0=>fun _ _ _ r h=>by simp [impl_ClockSteps.l0] at h
 | k + 1=>by
  have ih0:=impl_ClockSteps.mono_l k
  ·intro y0 y1 y2
   unfold impl_ClockSteps.l0
   repeat' first
   | (with_reducible exact ih0 _ _ _)
   | (with_reducible exact impl_ClockOk.mono _ _ _ _)
   | (with_reducible exact impl_copyClock.mono _ _ _ _)
   | (with_reducible exact impl_ticksOf.mono _ _ _ _)
   | (with_reducible exact LeO.refl _)
   | (with_reducible exact LeO.none _)
   | (with_reducible refine LeO.ite ?_ ?_)
   | (with_reducible refine LeO.bind ?_ (fun _=>?_))
   | exact ih0 _ _ _
   | exact impl_ClockOk.mono _ _ _ _
   | exact impl_copyClock.mono _ _ _ _
   | exact impl_ticksOf.mono _ _ _ _
   | exact LeO.none _
   | refine LeO.ite ?_ ?_
   | refine LeO.bind ?_ (fun _=>?_)
theorem impl_ClockSteps.mono:∀ a0 a1 a2 k,LeO (impl_ClockSteps.f k a0 a1 a2) (impl_ClockSteps.f (k + 1) a0 a1 a2):=by
 intro a0 a1 a2 k
 have ih0:=impl_ClockSteps.mono_l k
 unfold impl_ClockSteps.f
 repeat' first
   | (with_reducible exact ih0 _ _ _)
   | (with_reducible exact impl_ClockOk.mono _ _ _ _)
   | (with_reducible exact impl_copyClock.mono _ _ _ _)
   | (with_reducible exact impl_ticksOf.mono _ _ _ _)
   | (with_reducible exact LeO.refl _)
   | (with_reducible exact LeO.none _)
   | (with_reducible refine LeO.ite ?_ ?_)
   | (with_reducible refine LeO.bind ?_ (fun _=>?_))
   | exact ih0 _ _ _
   | exact impl_ClockOk.mono _ _ _ _
   | exact impl_copyClock.mono _ _ _ _
   | exact impl_ticksOf.mono _ _ _ _
   | exact LeO.none _
   | refine LeO.ite ?_ ?_
   | refine LeO.bind ?_ (fun _=>?_)
set_option maxHeartbeats 8000000 in
set_option maxRecDepth 100000 in
theorem impl_ClockSteps.calls (k:Nat) (a0_0:Int) (a0_1:Int) (P0_2_:Nat → Prop) (A0_2:Option Addr) (c0_2:Nat) (l0_2:List (S29)) (r1:List (S44)) (r2:Bool) (w:World) (hs0_2:Kd.V k29 29 w w.heap.size (fun k_=>P0_2_ k_) (.slice A0_2 l0_2.length c0_2) l0_2) (h:impl_ClockSteps.f k a0_0 a0_1 l0_2 = some (r1,r2)) :
  Calls Try.prog 19 #[.agg #[.int .i64 a0_0,.int .i64 a0_1,.slice A0_2 l0_2.length c0_2]] w fun e w'=>∃ v0_:Value,e = .returned (.tuple #[v0_,.bool r2])∧Kd.N k44 44 w' w.heap.size (fun k_=>(P0_2_ k_ ∨ w.heap.size ≤ k_)) v0_ r1∧Below w.heap.size w w':=by
 have hu29:=Try.underlying29
 have HO0_2:=aQ (show Kd.V k29 29 w w.heap.size (fun k_=>(P0_2_ k_ ∨ w.heap.size ≤ k_)) (.slice A0_2 l0_2.length c0_2) l0_2 from Kd.V_mono hs0_2 (fun k_ hk=>.inl hk))
 have HB:=aQ (Below.refl w.heap.size w)
 have H:=h
 clear h
 obtain ⟨t392,A2,H⟩:=bQ H
 (try dsimp only at H)
 by_cases c3:t392 = true
 ·subst c3
  have H1:((impl_ticksOf.f k a0_0 a0_1 l0_2).bind fun t393=>(impl_ClockSteps.l0 k t393 (t393.length:Int) 0)) = some (r1,r2):=by rw [if_pos rfl] at H;exact H
  clear H
  have H:=H1
  clear H1
  obtain ⟨t393,A4,H⟩:=bQ H
  (try dsimp only at H)
  have H':=aQ H
  clear H
  go_enter Try.func19,Try.ntmps19
  go_wp2_with (first | ((with_reducible refine gate_dst (N:=1) rfl ?_);refine box1 (N:=1) (cs:=#[.int .i64 a0_0,.int .i64 a0_1,.slice A0_2 l0_2.length c0_2]) (t:=29) ?_;intro gb391 hg w5 hbox hb;replace HO0_2:=aQ (Kd.V_below (Kd.V_elderB (nV HO0_2.out) gb391 (Nat.le_of_eq hg.symm)) hb);have BK391:=aQ (hbox);have GW391:=aQ ((by rw [hg];exact (below_size bB):w.heap.size ≤ gb391));have GE391:=aQ ((by rw [hg];exact (below_size bB):w.heap.size ≤ gb391));replace HB:=aQ (below_step bB hb);clear hb hbox hg;have hcz6_0:w5.cell? ⟨gb391,0,none⟩ = some (.int .i64 a0_0):=(blk_cell BK391.out 0).trans rfl;have hcz6_1:w5.cell? ⟨gb391,1,none⟩ = some (.int .i64 a0_1):=(blk_cell BK391.out 1).trans rfl;have hcz6_2:w5.cell? ⟨gb391,2,none⟩ = some (.slice A0_2 l0_2.length c0_2):=(blk_cell BK391.out 2).trans rfl;have hfz6_0:=blk_frozen BK391.out 0;have hfz6_1:=blk_frozen BK391.out 1;have hfz6_2:=blk_frozen BK391.out 2) | ((with_reducible refine gate_callee (f:=16) rfl ?_);refine goesL_ (some 7) rfl rfl Try.func16 (by kernel_rfl) rfl #[.agg #[.int .i64 a0_0,.int .i64 a0_1,.slice A0_2 l0_2.length c0_2]] rfl mP ?_;(with_reducible refine (impl_ClockOk.calls k a0_0 a0_1 _ _ l0_2 true _ ?side1 ?side2 A2.out).mono ?_);(case side1=>repeat (first | exact (Kd.V_reads' HO0_2.out).2.2 | (with_reducible refine Kd.C_alloc ?_ _) | (with_reducible refine Kd.C_drewN ?_ _) | (with_reducible refine Kd.C_drew ?_)));(case side2=>exact (Kd.V_reads' HO0_2.out).2.1);rintro e w7 ⟨rfl,hb⟩;refine ⟨_,rfl,?_⟩;replace HO0_2:=aQ (Kd.V_below (nV HO0_2.out) hb);replace BK391:=aQ (blk_below (g:=gb391) (o:=.cells #[.int .i64 a0_0,.int .i64 a0_1,.slice A0_2 l0_2.length c0_2] 29 (0,0)) (nB BK391.out) hb);replace HB:=aQ (below_step bB hb);(try clear hb);have hcz8_0:w7.cell? ⟨gb391,0,none⟩ = some (.int .i64 a0_0):=(blk_cell BK391.out 0).trans rfl;have hcz8_1:w7.cell? ⟨gb391,1,none⟩ = some (.int .i64 a0_1):=(blk_cell BK391.out 1).trans rfl;have hcz8_2:w7.cell? ⟨gb391,2,none⟩ = some (.slice A0_2 l0_2.length c0_2):=(blk_cell BK391.out 2).trans rfl;have hfz8_0:=blk_frozen BK391.out 0;have hfz8_1:=blk_frozen BK391.out 1;have hfz8_2:=blk_frozen BK391.out 2) | ((with_reducible refine gate_callee (f:=47) rfl ?_);refine goesL_ (some 10) rfl rfl Try.func47 (by kernel_rfl) rfl #[.agg #[.int .i64 a0_0,.int .i64 a0_1,.slice A0_2 l0_2.length c0_2]] rfl mP ?_;(with_reducible refine (impl_ticksOf.calls k a0_0 a0_1 (fun k_=>((P0_2_ k_ ∨ w.heap.size ≤ k_)∧k_ ≠ gb391)) _ _ l0_2 t393 _ ?side1 A4.out).mono ?_);(case side1=>exact HO0_2.out);rintro e w9 ⟨v394,rfl,ho0,hb⟩;refine ⟨_,rfl,?_⟩;replace HO0_2:=aQ (Kd.V_elder' (nV HO0_2.out) (Kd.N_base ho0) hb);have HO395:=aQ (Kd.N_lower (Kd.N_mono (ok':=fun k_=>(P0_2_ k_ ∨ w.heap.size ≤ k_)∧k_ ≠ gb391) ho0 (fun k_ hk_=>⟨Or.elim hk_ (fun hs_=>hs_.1) (fun hn_=>(.inr (Nat.le_trans (below_size bB) hn_))),Or.elim hk_ (fun hs_=>hs_.2) (fun hn_=>(Kd.freshB (g:=gb391) (o:=.cells #[.int .i64 a0_0,.int .i64 a0_1,.slice A0_2 l0_2.length c0_2] 29 (0,0)) (nB BK391.out) k_ hn_))⟩)) (below_size bB));replace BK391:=aQ (blk_below (g:=gb391) (o:=.cells #[.int .i64 a0_0,.int .i64 a0_1,.slice A0_2 l0_2.length c0_2] 29 (0,0)) (nB BK391.out) hb);replace HB:=aQ (below_step bB hb);(try clear hb);(try clear ho0);obtain ⟨Ao10,co10,eo10⟩:=Kd.N_slice HO395.out;subst eo10))
  go_loopg [13] k (fun kq v13 w'=>∃ (x4_1:List (S44)) (x13_1:Int),v13 = .int .i64 x13_1∧Aside0 (impl_ClockSteps.l0 kq x4_1 (t393.length:Int) x13_1 = some (r1,r2))∧Aside0 (kq ≤ k)∧Aside0 (Kd.N k44 44 w' w.heap.size (fun k_=>(P0_2_ k_ ∨ w.heap.size ≤ k_)∧k_ ≠ gb391) (.slice Ao10 t393.length co10) x4_1)∧Aside0 (Kd.V k29 29 w' w.heap.size (fun k_=>(P0_2_ k_ ∨ w.heap.size ≤ k_)∧some k_ ≠ ((.slice Ao10 t393.length co10):Value).ownBlock∧k_ ≠ gb391) (.slice A0_2 l0_2.length c0_2) l0_2)∧Aside0 (w'.heap[gb391]? = some (.cells #[.int .i64 a0_0,.int .i64 a0_1,(.slice A0_2 l0_2.length c0_2)] 29 (0,0)))∧Aside0 (Below w.heap.size w w'))
  case atStart=>exact ⟨(t393),(0),rfl,H',⟨Nat.le_refl _⟩,⟨nN HO395.out⟩,⟨nV (Kd.V_mono HO0_2.out (fun _ hk=>⟨hk.1.1,⟨hk.2,hk.1.2⟩⟩))⟩,⟨nB BK391.out⟩,⟨bB⟩⟩
  case round =>
   clear H'
   try clear hcz6_0
   try clear hcz6_1
   try clear hcz6_2
   try clear hcz8_0
   try clear hcz8_1
   try clear hcz8_2
   try clear hfz6_0
   try clear hfz6_1
   try clear hfz6_2
   try clear hfz8_0
   try clear hfz8_1
   try clear hfz8_2
   repeat (first | clear HO_4 | clear HO_392002 | clear BK391 | clear HB)
   obtain ⟨x4_1,x13_1,rfl,HA,HK1,HO_4,HO_392002,BK391,HB⟩:=hrel
   have hl4_1:=(Kd.N_reads' HO_4.out).1
   rw [hl4_1] at HO_4
   (try simp only [hl4_1])
   (try simp only [hl4_1] at BK391)
   (try simp only [hl4_1] at HO_392002)
   cases gk with
   | zero=>exact absurd HA.out (by simp [impl_ClockSteps.l0])
   | succ k1 =>
    have H:=HA.out
    clear HA
    simp only [impl_ClockSteps.l0] at H
    by_cases c11:x13_1 < (t393.length:Int);rotate_left
    ·rw [if_neg c11] at H
     have c11b0:decide (x13_1 < (t393.length:Int)) = false:=decide_eq_false c11
     (try rw [hl4_1] at c11b0)
     clear c11
     simp only [Option.some.injEq,Prod.mk.injEq] at H
     obtain ⟨rfl,rfl⟩:=H
     go_wp2
     go_ret2
     exact ⟨_,rfl,by (with_reducible repeat (first | apply Kd.N_alloc | apply Kd.N_drewN | apply Kd.N_drew));exact Kd.N_mono HO_4.out (fun _ hk=>hk.1),bB⟩
    rw [if_pos c11] at H
    have c11b0:decide (x13_1 < (t393.length:Int)) = true:=decide_eq_true c11
    clear c11
    by_cases c12:0 ≤ x13_1;rotate_left
    ·rw [if_neg c12] at H
     exact absurd H (by simp)
    rw [if_pos c12] at H
    have c12b0:decide (0 ≤ x13_1) = true:=decide_eq_true c12
    clear c12
    by_cases c13:x13_1 < (x4_1.length:Int);rotate_left
    ·rw [if_neg c13] at H
     exact absurd H (by simp)
    rw [if_pos c13] at H
    have c13b0:decide (x13_1 < (x4_1.length:Int)) = true:=decide_eq_true c13
    clear c13
    obtain ⟨⟨t397,t398,t399⟩,A14,H⟩:=bQ H
    dsimp only at H
    obtain ⟨y402,hy402⟩:∃ y_:List (S44),y_ = (x4_1.set (x13_1:Int).toNat (⟨(rd_T44 x4_1 x13_1).f0,(⟨t397,t398,t399⟩:S29)⟩:S44)):=⟨_,rfl⟩
    replace H:(impl_ClockSteps.l0 k1 y402 (t393.length:Int) (wrap64 (x13_1 + 1))) = some (r1,r2):=by rw [hy402];exact H
    have Ny402:=aQ hy402
    clear hy402
    have H':=aQ H
    clear H
    have p396:0 ≤ (x13_1:Int):=of_decide_eq_true (by first | (with_reducible assumption) | assumption)
    have q396:x13_1 < (x4_1.length:Int):=of_decide_eq_true (by first | (with_reducible assumption) | assumption)
    obtain ⟨ad396,A396_3,c396_3,e396,hx396_0,hx396_1,hx396_2,hx396_3,hl396_3,hi396_3⟩:=at_T44 (Kd.N_reads' HO_4.out).2.2 x13_1 p396 q396
    cases e396
    obtain ⟨ce396,hce396,hMe396,hcc396⟩:=Kd.N_get HO_4.out z44 x13_1 p396 (by first | exact q396 | exact of_decide_eq_true (by first | (with_reducible assumption) | assumption) | (have e_:=(Kd.N_reads' HO_4.out).1;omega))
    obtain ⟨ua396_3,uc396_3,rfl,ul396_3,ge396_3⟩:=k44_openF hMe396
    have hv396_3:=hcc396 3 _ rfl
    rw [add_field _ _ 3 (by omega)] at hv396_3
    replace hv396_3:=Option.some.inj (hv396_3.symm.trans hx396_3)
    injection hv396_3 with hva_ hvn_ hvc_
    rw [hva_] at ge396_3
    rw [hvc_] at ul396_3
    have HL396_3:=aQ (show Kd.V k29 29 _ w.heap.size _ _ ((rd_T44 x4_1 x13_1).f1.f2) from Kd.V_mk ul396_3 ge396_3)
    clear hva_ hvn_ hvc_ ge396_3 ul396_3
    clear hcc396 hce396
    have HR396_3:=aQ hi396_3
    have HC396_3:=aQ hl396_3
    clear hi396_3 hl396_3
    replace p396:=eq_true p396
    replace q396:=eq_true q396
    go_wp2_with (first | ((with_reducible refine gate_callee (f:=48) rfl ?_);refine goesL_ (some 23) rfl rfl Try.func48 (by kernel_rfl) rfl #[.agg #[.int .i64 ((rd_T44 x4_1 x13_1).f1.f0),.int .i64 ((rd_T44 x4_1 x13_1).f1.f1),.slice A396_3 ((rd_T44 x4_1 x13_1).f1.f2).length c396_3]] rfl mP ?_;(with_reducible refine (impl_copyClock.calls k1 ((rd_T44 x4_1 x13_1).f1.f0) ((rd_T44 x4_1 x13_1).f1.f1) _ _ ((rd_T44 x4_1 x13_1).f1.f2) t397 t398 t399 _ ?side1 ?side2 A14.out).mono ?_);(case side1=>repeat (first | exact (nC HR396_3.out) | (with_reducible refine Kd.C_alloc ?_ _) | (with_reducible refine Kd.C_drewN ?_ _) | (with_reducible refine Kd.C_drew ?_)));(case side2=>exact HC396_3.out);rintro e w16 ⟨v400,rfl,ho0,hb⟩;refine ⟨_,rfl,?_⟩;replace HO_392002:=aQ (Kd.V_elder' (nV HO_392002.out) (Kd.N_base ho0) hb);replace HL396_3:=aQ (Kd.V_elder' (nV HL396_3.out) (Kd.N_base ho0) hb);have HO401:=aQ (Kd.N_lower (Kd.N_mono (ok':=fun k_=>(P0_2_ k_ ∨ w.heap.size ≤ k_)∧some k_ ≠ (.slice (some ad396) x4_1.length co10:Value).ownBlock∧k_ ≠ gb391) ho0 (fun k_ hk_=>⟨(.inr (Nat.le_trans (below_size bB) hk_)),(Kd.fresh' (Kd.N_lt (nN HO_4.out)) k_ hk_),(Kd.freshB (g:=gb391) (o:=.cells #[.int .i64 a0_0,.int .i64 a0_1,.slice A0_2 l0_2.length c0_2] 29 (0,0)) (nB BK391.out) k_ hk_)⟩)) (below_size bB));replace HO_4:=aQ (Kd.N_elder' (nN HO_4.out) (Kd.N_base ho0) hb);replace BK391:=aQ (blk_below (g:=gb391) (o:=.cells #[.int .i64 a0_0,.int .i64 a0_1,.slice A0_2 l0_2.length c0_2] 29 (0,0)) (nB BK391.out) hb);replace HR396_3:=aQ (Kd.C_below (nC HR396_3.out) hb);replace HB:=aQ (below_step bB hb);(try clear hb);(try clear ho0);obtain ⟨Aq400,cq400,eq400⟩:=Kd.N_slice HO401.out;subst eq400;have p15:0 ≤ (x13_1:Int):=of_decide_eq_true (by first | (with_reducible assumption) | assumption);have q15:(x13_1:Int) < ((x4_1.length:Int):Int):=of_decide_eq_true (by first | (with_reducible assumption) | assumption);obtain ⟨go15,co15,eo15,gb15,gl15,cl15,HG15⟩:=Kd.N_form HO_4.out (by omega);(first | cases eo15 | (injection eo15 with ea_ en_ ec_;(first | subst ea_ | (injection ea_ with ea_;subst ea_));subst ec_;clear en_));have GB15:=aQ gb15;have GG15:=aQ HG15;clear gb15 gl15 HG15;(first | simp only [add_plain] at hx396_0 | skip);(first | simp only [add_plain] at hx396_1 | skip);(first | simp only [add_plain] at hx396_2 | skip);(first | simp only [add_plain] at hx396_3 | skip);obtain ⟨ce15,hcl15,hM15,hcc15,hfr15⟩:=Kd.N_elem HO_4.out z44 (x13_1:Int) p15 q15;obtain ⟨ua15_3,uc15_3,rfl,ul15_3,ge15_3⟩:=k44_openF hM15;have hx15_0:w16.cell? ⟨go15,(x13_1:Int).toNat * 4,none⟩ = some (.int .i64 ((rd_T44 x4_1 x13_1).f0)):=hcc15 0 _ rfl;have hx15_1:w16.cell? ⟨go15,(x13_1:Int).toNat * 4 + 1,none⟩ = some (.int .i64 ((rd_T44 x4_1 x13_1).f1.f0)):=hcc15 1 _ rfl;have hx15_2:w16.cell? ⟨go15,(x13_1:Int).toNat * 4 + 2,none⟩ = some (.int .i64 ((rd_T44 x4_1 x13_1).f1.f1)):=hcc15 2 _ rfl;have hx15_3:w16.cell? ⟨go15,(x13_1:Int).toNat * 4 + 3,none⟩ = some (.slice ua15_3 ((rd_T44 x4_1 x13_1).f1.f2).length uc15_3):=hcc15 3 _ rfl;have hf15_0:w16.frozen? ⟨go15,(x13_1:Int).toNat * 4,none⟩ = false:=hfr15 0;have hf15_1:w16.frozen? ⟨go15,(x13_1:Int).toNat * 4 + 1,none⟩ = false:=hfr15 1;have hf15_2:w16.frozen? ⟨go15,(x13_1:Int).toNat * 4 + 2,none⟩ = false:=hfr15 2;have hf15_3:w16.frozen? ⟨go15,(x13_1:Int).toNat * 4 + 3,none⟩ = false:=hfr15 3;clear hcl15 hcc15 hfr15;(try clear hM15);replace p15:=eq_true p15;replace q15:=eq_true q15;have n_:=aQ (Kd.N_mono (ok':=(fun k_=>(P0_2_ k_ ∨ w.heap.size ≤ k_)∧some k_ ≠ ((.slice Aq400 t399.length cq400):Value).ownBlock∧k_ ≠ gb391)) HO_4.out (fun k_ hk=>⟨hk.1.1,⟨hk.2,hk.1.2⟩⟩));clear HO_4;have HO_4:=n_;clear n_;have HX17:=aQ (show Kd.N k44 44 w16 w.heap.size (fun k_=>(P0_2_ k_ ∨ w.heap.size ≤ k_)∧k_ ≠ gb391) (.slice (some ⟨go15,0,none⟩) x4_1.length co10) x4_1 from (nN (Kd.N_mono HO_4.out (fun _ hk=>⟨hk.1,hk.2.2⟩))));obtain ⟨ce17,hcl17,hM17,hcc17,hfr17⟩:=Kd.N_elem HX17.out z44 (x13_1:Int) (of_decide_eq_true (by first | (with_reducible assumption) | assumption)) (by have h_:(x13_1:Int) < ((x4_1.length:Int):Int):=of_decide_eq_true (by first | (with_reducible assumption) | assumption);first | exact h_ | (have e_:=(Kd.N_reads' HO_4.out).1;omega) | simpa using h_);obtain ⟨ua17_3,uc17_3,rfl,ul17_3,ge17_3⟩:=k44_openF hM17;have HP17:=Kd.N_seg HX17.out (x13_1:Int) (of_decide_eq_true (by first | (with_reducible assumption) | assumption)) (by have h_:(x13_1:Int) < ((x4_1.length:Int):Int):=of_decide_eq_true (by first | (with_reducible assumption) | assumption);first | exact h_ | (have e_:=(Kd.N_reads' HO_4.out).1;omega) | simpa using h_) (seg:=[.int .i64 t397,.int .i64 t398,(.slice Aq400 t399.length cq400)]) (j:=1) hcl17 hcc17 (show 4 ≤ 4 from by decide) (x':=(⟨(rd_T44 x4_1 x13_1).f0,(⟨t397,t398,t399⟩:S29)⟩:S44)) (k44_mkF _ _ (⟨(rd_T44 x4_1 x13_1).f0,(⟨t397,t398,t399⟩:S29)⟩:S44) (Kd.N_reads' (Kd.N_mono (ok':=(fun k_=>((fun k_=>(P0_2_ k_ ∨ w.heap.size ≤ k_)∧k_ ≠ gb391)) k_∧k_ ≠ go15)) (HO401.out) (fun k_ hk=>⟨⟨hk.1,hk.2.2⟩,fun e_=>(hk.2.1) (by rw [e_];rfl)⟩))).2.1 (Kd.N_F (Kd.N_mono (ok':=(fun k_=>((fun k_=>(P0_2_ k_ ∨ w.heap.size ≤ k_)∧k_ ≠ gb391)) k_∧k_ ≠ go15)) (HO401.out) (fun k_ hk=>⟨⟨hk.1,hk.2.2⟩,fun e_=>(hk.2.1) (by rw [e_];rfl)⟩)))) (fun _ hk=>hk);have hx17_1:=hcc17 1 _ rfl;(try simp only [show (k44).sz = 4 from rfl,Nat.mul_one,Nat.add_zero] at hx17_1);have hf17_1:=hfr17 1;(try simp only [show (k44).sz = 4 from rfl,Nat.mul_one,Nat.add_zero] at hf17_1);have hx17_2:=hcc17 2 _ rfl;(try simp only [show (k44).sz = 4 from rfl,Nat.mul_one,Nat.add_zero] at hx17_2);have hf17_2:=hfr17 2;(try simp only [show (k44).sz = 4 from rfl,Nat.mul_one,Nat.add_zero] at hf17_2);have hx17_3:=hcc17 3 _ rfl;(try simp only [show (k44).sz = 4 from rfl,Nat.mul_one,Nat.add_zero] at hx17_3);have hf17_3:=hfr17 3;(try simp only [show (k44).sz = 4 from rfl,Nat.mul_one,Nat.add_zero] at hf17_3);clear hcl17 hcc17 hfr17;(try clear hM17)) | ((with_reducible refine gate_store (t:=29) (p:=25) rfl ?_);refine store_event (t:=29) (p:=25) (v:=?vo_w18) (w1:=(((w16.setCell ⟨go15,(x13_1:Int).toNat * 4 + 1,none⟩ (.int .i64 t397)).setCell ⟨go15,(x13_1:Int).toNat * 4 + 2,none⟩ (.int .i64 t398)).setCell ⟨go15,(x13_1:Int).toNat * 4 + 3,none⟩ ((.slice Aq400 t399.length cq400)))) ?hg ?ho ?hn ?hr ?_;(case ho=>rfl);(case hg=>rfl);(case hn=>rfl);(case hr=>first | (go_simp;done) | (go_simp;rfl) | (obtain ⟨Ax_,cx_,ex_⟩:=Kd.R_slice (v:=(.slice Aq400 t399.length cq400)) (Aside0.out (by assumption));subst ex_;first | (go_simp;done) | (go_simp;rfl)) | (obtain ⟨Ax_,cx_,ex_⟩:=Kd.S_slice (v:=(.slice Aq400 t399.length cq400)) (Aside0.out (by assumption));subst ex_;first | (go_simp;done) | (go_simp;rfl)));intro w18 hw;have hg:w16.grownBy w18 (some go15):=(by rw [hw];exact HP17.2);have hp_:Kd.N k44 44 w18 w.heap.size (fun k_=>(P0_2_ k_ ∨ w.heap.size ≤ k_)∧k_ ≠ gb391) (.slice (some ⟨go15,0,none⟩) x4_1.length co10) y402:=(by rw [hw,Ny402.out];exact HP17.1);clear HP17;have n0_:=aQ (hp_);have n1_:=aQ (Kd.V_afterv (v:=(.slice (some ⟨go15,0,none⟩) x4_1.length co10)) (v1:=(.slice (some ⟨go15,0,none⟩) x4_1.length co10)) (ok:=(fun k_=>(P0_2_ k_ ∨ w.heap.size ≤ k_)∧some k_ ≠ ((.slice Aq400 t399.length cq400):Value).ownBlock∧k_ ≠ gb391)) (nV (Kd.V_mono HO_392002.out (fun _ hk=>⟨⟨hk.1.1,⟨hk.2,hk.1.2.2⟩⟩,hk.1.2.1⟩))) hg (.inl rfl));have n2_:=aQ (blk_grown (g:=gb391) (o:=.cells #[.int .i64 a0_0,.int .i64 a0_1,.slice A0_2 l0_2.length c0_2] 29 (0,0)) (nB BK391.out) hg (Kd.N_ne HO_4.out BK391.out (by decide)));have n3_:=aQ (Kd.V_afterv (v:=(.slice (some ⟨go15,0,none⟩) x4_1.length co10)) (v1:=(.slice (some ⟨go15,0,none⟩) x4_1.length co10)) (ok:=(fun k_=>(P0_2_ k_ ∨ w.heap.size ≤ k_)∧some k_ ≠ ((.slice Aq400 t399.length cq400):Value).ownBlock∧k_ ≠ gb391)) (nV (Kd.V_mono HL396_3.out (fun _ hk=>⟨⟨hk.1.1.1,⟨hk.2,hk.1.1.2⟩⟩,hk.1.2⟩))) hg (.inl rfl));have n4_:=aQ ((by rw [hw];exact below_set (below_set (below_set (HB.out) GB15.out) GB15.out) GB15.out:Below w.heap.size w w18));clear HO_4;clear HO_392002;clear BK391;clear HL396_3;clear HB;clear HO401;have HO_4:=n0_;have HO_392002:=n1_;have BK391:=n2_;have HL396_3:=n3_;have HB:=n4_;clear n0_ n1_ n2_ n3_ n4_;clear hg hw hp_))
    (try simp only [← hl4_1])
    go_roundg k1
    case measure=>have:=HK1.out;omega
    case rel=>exact ⟨(y402),(wrap64 (x13_1 + 1)),rfl,H',⟨by have:=HK1.out;omega⟩,⟨by (try simp only [hl4_1]);(with_reducible repeat (first | apply Kd.N_alloc | apply Kd.N_drewN | apply Kd.N_drew));exact HO_4.out⟩,⟨by (try simp only [hl4_1]);(with_reducible repeat (first | apply Kd.V_alloc | apply Kd.V_drewN | apply Kd.V_drew));exact Kd.V_mono HO_392002.out (fun _ hk=>⟨hk.1.1,⟨hk.2,hk.1.2.2⟩⟩)⟩,⟨by (try simp only [hl4_1]);(with_reducible repeat (first | refine blk_drewN ?_ _ | refine blk_drew ?_ | refine blk_alloc ?_ _));exact BK391.out⟩,⟨bB⟩⟩
 ·replace c3:=Bool.eq_false_iff.mpr c3
  subst c3
  have H1:(some (([]:List (S44)),false)) = some (r1,r2):=by rw [if_neg (show ¬ (false = true) by decide)] at H;exact H
  clear H
  have H:=H1
  clear H1
  simp only [Option.some.injEq,Prod.mk.injEq] at H
  obtain ⟨rfl,rfl⟩:=H
  go_enter Try.func19,Try.ntmps19
  go_wp2_with (first | ((with_reducible refine gate_dst (N:=1) rfl ?_);refine box1 (N:=1) (cs:=#[.int .i64 a0_0,.int .i64 a0_1,.slice A0_2 l0_2.length c0_2]) (t:=29) ?_;intro gb391 hg w19 hbox hb;replace HO0_2:=aQ (Kd.V_below (Kd.V_elderB (nV HO0_2.out) gb391 (Nat.le_of_eq hg.symm)) hb);have BK391:=aQ (hbox);have GW391:=aQ ((by rw [hg];exact (below_size bB):w.heap.size ≤ gb391));have GE391:=aQ ((by rw [hg];exact (below_size bB):w.heap.size ≤ gb391));replace HB:=aQ (below_step bB hb);clear hb hbox hg;have hcz20_0:w19.cell? ⟨gb391,0,none⟩ = some (.int .i64 a0_0):=(blk_cell BK391.out 0).trans rfl;have hcz20_1:w19.cell? ⟨gb391,1,none⟩ = some (.int .i64 a0_1):=(blk_cell BK391.out 1).trans rfl;have hcz20_2:w19.cell? ⟨gb391,2,none⟩ = some (.slice A0_2 l0_2.length c0_2):=(blk_cell BK391.out 2).trans rfl;have hfz20_0:=blk_frozen BK391.out 0;have hfz20_1:=blk_frozen BK391.out 1;have hfz20_2:=blk_frozen BK391.out 2) | ((with_reducible refine gate_callee (f:=16) rfl ?_);refine goesL_ (some 7) rfl rfl Try.func16 (by kernel_rfl) rfl #[.agg #[.int .i64 a0_0,.int .i64 a0_1,.slice A0_2 l0_2.length c0_2]] rfl mP ?_;(with_reducible refine (impl_ClockOk.calls k a0_0 a0_1 _ _ l0_2 false _ ?side1 ?side2 A2.out).mono ?_);(case side1=>repeat (first | exact (Kd.V_reads' HO0_2.out).2.2 | (with_reducible refine Kd.C_alloc ?_ _) | (with_reducible refine Kd.C_drewN ?_ _) | (with_reducible refine Kd.C_drew ?_)));(case side2=>exact (Kd.V_reads' HO0_2.out).2.1);rintro e w21 ⟨rfl,hb⟩;refine ⟨_,rfl,?_⟩;replace HO0_2:=aQ (Kd.V_below (nV HO0_2.out) hb);replace BK391:=aQ (blk_below (g:=gb391) (o:=.cells #[.int .i64 a0_0,.int .i64 a0_1,.slice A0_2 l0_2.length c0_2] 29 (0,0)) (nB BK391.out) hb);replace HB:=aQ (below_step bB hb);(try clear hb)))
  go_ret2
  exact ⟨_,rfl,by first | exact Kd.R_nil _ _ _ _ _ | exact Kd.N_nil _ _ _ _ _ | exact Kd.V_nil _ _ _ _ _ | exact Kd.Q_nil _ _ _ _ _ | exact Kd.S_nil _ _ _ _ _,bB⟩
end Go.Proofs.Ytnkgcjdlfenepaa.P
