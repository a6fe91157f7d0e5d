/- A copy of a term with time lies apart at every depth. No condition. -/
import Derived.Test.YtnkgcjdlfenepaaP0
import Derived.Test.YtnkgcjdlfenepaaP1
import Derived.Test.YtnkgcjdlfenepaaDTree
namespace Go.Proofs.Ytnkgcjdlfenepaa.P
open Go.RowKit Go.Proofs.YtnkgcjdlfenepaaW.PrintWords Go.Proofs.YtnkgcjdlfenepaaW.PrintLast Go.Proofs.YtnkgcjdlfenepaaW.PrintMore
attribute [local go_sem] max2_int min2_int max_two min_two max_three min_three max_four min_four
set_option linter.unusedVariables false
set_option linter.unusedSimpArgs false
set_option maxHeartbeats 8000000 in
set_option maxRecDepth 100000 in
theorem copyClock_deep (k:Nat):∀ (a0_0:Int) (a0_1:Int) (A0_2:Option Addr) (c0_2:Nat) (l0_2:List (S29)) (r1:Int) (r2:Int) (r3:List (S29)) (w:World) (hr0_2:Kd.C k29 w A0_2 l0_2.length l0_2) (hc0_2:l0_2.length ≤ c0_2) (h:impl_copyClock.f k a0_0 a0_1 l0_2 = some (r1,r2,r3)),
  Calls Try.prog 48 #[.agg #[.int .i64 a0_0,.int .i64 a0_1,.slice A0_2 l0_2.length c0_2]] w fun e w'=>∃ v2_:Value,e = .returned (.agg #[.int .i64 r1,.int .i64 r2,v2_])∧Kd.S q29 29 w' w.heap.size (fun _=>True) v2_ r3∧Below w.heap.size w w':=by
 induction k using Nat.strongRecOn with
 | _ k ih =>
 intro a0_0 a0_1 A0_2 c0_2 l0_2 r1 r2 r3 w hr0_2 hc0_2 h
 cases k with
 | zero=>exact absurd h (by simp [impl_copyClock.f])
 | succ k =>
 simp only [impl_copyClock.f] at h
 have hu29:=Try.underlying29
 have HR0_2:=Aside0.mk hr0_2
 have HC0_2:=Aside0.mk hc0_2
 clear hr0_2 hc0_2
 have HB:=Aside0.mk (Below.refl w.heap.size w)
 have H:(impl_copyClock.l0 k l0_2 (l0_2.length:Int) 0 a0_0 a0_1 ([]:List (S29))) = some (r1,r2,r3):=h
 clear h
 have H':=Aside0.mk H
 clear H
 go_enter Try.func48,Try.ntmps48
 go_wp2_with (first | ((with_reducible refine gate_dst (N:=1) rfl ?_);refine box_event ?hg (N:=1) ?hd (cs:=#[.int .i64 a0_0,.int .i64 a0_1,.slice A0_2 l0_2.length c0_2]) (t:=29) ?hr ?_;(case hd=>rfl);(case hg=>rfl);(case hr=>first | (go_simp;done) | (go_simp;rfl));intro gb227 hg w2 hbox hb;have n0_:=Aside0.mk (below_step (by repeat (first | (with_reducible first | exact HB.out | apply below_alloc | apply pw_below_drewN | apply below_drew1) | exact HB.out)) hb);have n1_:=Aside0.mk (hbox);have n2_:=Aside0.mk ((by rw [hg];exact (below_size (by repeat (first | (with_reducible first | exact HB.out | apply below_alloc | apply pw_below_drewN | apply below_drew1) | exact HB.out))):w.heap.size ≤ gb227));have n3_:=Aside0.mk ((by rw [hg];exact (below_size (by repeat (first | (with_reducible first | exact HB.out | apply below_alloc | apply pw_below_drewN | apply below_drew1) | exact HB.out))):w.heap.size ≤ gb227));clear HB;have HB:=n0_;have BK227:=n1_;have GW227:=n2_;have GE227:=n3_;clear n0_ n1_ n2_ n3_;clear hb hbox hg) | ((with_reducible refine gate_dst (N:=2) rfl ?_);refine box_event ?hg (N:=2) ?hd (cs:=#[.int .i64 0,.int .i64 0,.slice none 0 0]) (t:=29) ?hr ?_;(case hd=>rfl);(case hg=>rfl);(case hr=>first | (go_simp;done) | (go_simp;rfl));intro gb228 hg w3 hbox hb;have n0_:=Aside0.mk (blk_below (g:=gb227) (o:=.cells #[.int .i64 a0_0,.int .i64 a0_1,.slice A0_2 l0_2.length c0_2] 29 (0,0)) (by (with_reducible repeat (first | refine blk_drewN ?_ _ | refine blk_drew ?_ | refine blk_alloc ?_ _));exact BK227.out) hb);have n1_:=Aside0.mk (below_step (by repeat (first | (with_reducible first | exact HB.out | apply below_alloc | apply pw_below_drewN | apply below_drew1 | refine below_set ?_ GE227.out) | exact HB.out)) hb);have n2_:=Aside0.mk (hbox);have n3_:=Aside0.mk ((by rw [hg];exact (below_size (by repeat (first | (with_reducible first | exact HB.out | apply below_alloc | apply pw_below_drewN | apply below_drew1 | refine below_set ?_ GE227.out) | exact HB.out))):w.heap.size ≤ gb228));have n4_:=Aside0.mk ((by rw [hg];exact (below_size (by repeat (first | (with_reducible first | exact HB.out | apply below_alloc | apply pw_below_drewN | apply below_drew1 | refine below_set ?_ GE227.out) | exact HB.out))):w.heap.size ≤ gb228));have n5_:=Aside0.mk ((by rw [hg];exact Nat.ne_of_lt (blk_lt (g:=gb227) (o:=.cells #[.int .i64 a0_0,.int .i64 a0_1,.slice A0_2 l0_2.length c0_2] 29 (0,0)) (by (with_reducible repeat (first | refine blk_drewN ?_ _ | refine blk_drew ?_ | refine blk_alloc ?_ _));exact BK227.out)):gb227 ≠ gb228));have n6_:=Aside0.mk ((by rw [hg];exact Nat.ne_of_gt (blk_lt (g:=gb227) (o:=.cells #[.int .i64 a0_0,.int .i64 a0_1,.slice A0_2 l0_2.length c0_2] 29 (0,0)) (by (with_reducible repeat (first | refine blk_drewN ?_ _ | refine blk_drew ?_ | refine blk_alloc ?_ _));exact BK227.out)):gb228 ≠ gb227));clear BK227;clear HB;have BK227:=n0_;have HB:=n1_;have BK228:=n2_;have GW228:=n3_;have GE228:=n4_;have NB227_228:=n5_;have NB228_227:=n6_;clear n0_ n1_ n2_ n3_ n4_ n5_ n6_;clear hb hbox hg;have hnb4:=NB227_228.out;have hnc4:=NB228_227.out;have hcz5_0:w3.cell? ⟨gb227,0,none⟩ = some (.int .i64 a0_0):=(blk_cell BK227.out 0).trans rfl;have hcz5_1:w3.cell? ⟨gb227,1,none⟩ = some (.int .i64 a0_1):=(blk_cell BK227.out 1).trans rfl;have hcz5_2:w3.cell? ⟨gb227,2,none⟩ = some (.slice A0_2 l0_2.length c0_2):=(blk_cell BK227.out 2).trans rfl;have hfz5_0:=blk_frozen BK227.out 0;have hfz5_1:=blk_frozen BK227.out 1;have hfz5_2:=blk_frozen BK227.out 2) | ((with_reducible refine gate_dst (N:=3) rfl ?_);refine box_event ?hg (N:=3) ?hd (cs:=#[.int .i64 0,.int .i64 0,.slice none 0 0]) (t:=29) ?hr ?_;(case hd=>rfl);(case hg=>rfl);(case hr=>first | (go_simp;done) | (go_simp;rfl));intro gb229 hg w6 hbox hb;have n0_:=Aside0.mk (blk_below (g:=gb227) (o:=.cells #[.int .i64 a0_0,.int .i64 a0_1,.slice A0_2 l0_2.length c0_2] 29 (0,0)) (by (with_reducible repeat (first | refine blk_drewN ?_ _ | refine blk_drew ?_ | refine blk_alloc ?_ _));exact BK227.out) hb);have n1_:=Aside0.mk (blk_below (g:=gb228) (o:=.cells #[.int .i64 0,.int .i64 0,.slice none 0 0] 29 (0,0)) (by (with_reducible repeat (first | refine blk_drewN ?_ _ | refine blk_drew ?_ | refine blk_alloc ?_ _));exact BK228.out) hb);have n2_:=Aside0.mk (below_step (by repeat (first | (with_reducible first | exact HB.out | apply below_alloc | apply pw_below_drewN | apply below_drew1 | refine below_set ?_ GE227.out | refine below_set ?_ GE228.out) | exact HB.out)) hb);have n3_:=Aside0.mk (hbox);have n4_:=Aside0.mk ((by rw [hg];exact (below_size (by repeat (first | (with_reducible first | exact HB.out | apply below_alloc | apply pw_below_drewN | apply below_drew1 | refine below_set ?_ GE227.out | refine below_set ?_ GE228.out) | exact HB.out))):w.heap.size ≤ gb229));have n5_:=Aside0.mk ((by rw [hg];exact (below_size (by repeat (first | (with_reducible first | exact HB.out | apply below_alloc | apply pw_below_drewN | apply below_drew1 | refine below_set ?_ GE227.out | refine below_set ?_ GE228.out) | exact HB.out))):w.heap.size ≤ gb229));have n6_:=Aside0.mk ((by rw [hg];exact Nat.ne_of_lt (blk_lt (g:=gb227) (o:=.cells #[.int .i64 a0_0,.int .i64 a0_1,.slice A0_2 l0_2.length c0_2] 29 (0,0)) (by (with_reducible repeat (first | refine blk_drewN ?_ _ | refine blk_drew ?_ | refine blk_alloc ?_ _));exact BK227.out)):gb227 ≠ gb229));have n7_:=Aside0.mk ((by rw [hg];exact Nat.ne_of_gt (blk_lt (g:=gb227) (o:=.cells #[.int .i64 a0_0,.int .i64 a0_1,.slice A0_2 l0_2.length c0_2] 29 (0,0)) (by (with_reducible repeat (first | refine blk_drewN ?_ _ | refine blk_drew ?_ | refine blk_alloc ?_ _));exact BK227.out)):gb229 ≠ gb227));have n8_:=Aside0.mk ((by rw [hg];exact Nat.ne_of_lt (blk_lt (g:=gb228) (o:=.cells #[.int .i64 0,.int .i64 0,.slice none 0 0] 29 (0,0)) (by (with_reducible repeat (first | refine blk_drewN ?_ _ | refine blk_drew ?_ | refine blk_alloc ?_ _));exact BK228.out)):gb228 ≠ gb229));have n9_:=Aside0.mk ((by rw [hg];exact Nat.ne_of_gt (blk_lt (g:=gb228) (o:=.cells #[.int .i64 0,.int .i64 0,.slice none 0 0] 29 (0,0)) (by (with_reducible repeat (first | refine blk_drewN ?_ _ | refine blk_drew ?_ | refine blk_alloc ?_ _));exact BK228.out)):gb229 ≠ gb228));clear BK227;clear BK228;clear HB;have BK227:=n0_;have BK228:=n1_;have HB:=n2_;have BK229:=n3_;have GW229:=n4_;have GE229:=n5_;have NB227_229:=n6_;have NB229_227:=n7_;have NB228_229:=n8_;have NB229_228:=n9_;clear n0_ n1_ n2_ n3_ n4_ n5_ n6_ n7_ n8_ n9_;clear hb hbox hg;have hnb7:=NB229_227.out;have hnc7:=NB227_229.out;have hnb8:=NB229_228.out;have hnc8:=NB228_229.out;have hcz9_0:w6.cell? ⟨gb229,0,none⟩ = some (.int .i64 0):=(blk_cell BK229.out 0).trans rfl;have hcz9_1:w6.cell? ⟨gb229,1,none⟩ = some (.int .i64 0):=(blk_cell BK229.out 1).trans rfl;have hcz9_2:w6.cell? ⟨gb229,2,none⟩ = some (.slice none 0 0):=(blk_cell BK229.out 2).trans rfl;have hfz9_0:=blk_frozen BK229.out 0;have hfz9_1:=blk_frozen BK229.out 1;have hfz9_2:=blk_frozen BK229.out 2;have hcz10_0:w6.cell? ⟨gb227,0,none⟩ = some (.int .i64 a0_0):=(blk_cell BK227.out 0).trans rfl;have hcz10_1:w6.cell? ⟨gb227,1,none⟩ = some (.int .i64 a0_1):=(blk_cell BK227.out 1).trans rfl;have hcz10_2:w6.cell? ⟨gb227,2,none⟩ = some (.slice A0_2 l0_2.length c0_2):=(blk_cell BK227.out 2).trans rfl;have hfz10_0:=blk_frozen BK227.out 0;have hfz10_1:=blk_frozen BK227.out 1;have hfz10_2:=blk_frozen BK227.out 2))
 go_loopg [14] k (fun kq v14 w'=>∃ (x14_1:Int) (x230002_1:List (S29)) (u230002:Value),v14 = .int .i64 x14_1∧Aside0 (impl_copyClock.l0 kq l0_2 (l0_2.length:Int) x14_1 a0_0 a0_1 x230002_1 = some (r1,r2,r3))∧Aside0 (kq ≤ k)∧Aside0 (Kd.S q29 29 w' w.heap.size (fun k_=>k_ ≠ gb227∧k_ ≠ gb228∧k_ ≠ gb229) u230002 x230002_1)∧Aside0 (w'.heap[gb227]? = some (.cells #[.int .i64 a0_0,.int .i64 a0_1,(.slice A0_2 l0_2.length c0_2)] 29 (0,0)))∧Aside0 (w'.heap[gb228]? = some (.cells #[.int .i64 0,.int .i64 0,(.slice none 0 0)] 29 (0,0)))∧Aside0 (w'.heap[gb229]? = some (.cells #[.int .i64 a0_0,.int .i64 a0_1,u230002] 29 (0,0)))∧Aside0 (Below w.heap.size w w'))
 case atStart=>exact ⟨(0),(([]:List (S29))),(.slice none 0 0),(by first | rfl | (simp;done) | (simp [*];done)),H',⟨Nat.le_refl _⟩,⟨by first | exact Kd.S_nil _ _ _ _ _ | exact Kd.N_nil _ _ _ _ _ | exact Kd.V_nil _ _ _ _ _ | exact Kd.Q_nil _ _ _ _ _ | exact Kd.S_nil _ _ _ _ _⟩,⟨by (with_reducible repeat (first | refine blk_drewN ?_ _ | refine blk_drew ?_ | refine blk_alloc ?_ _));refine blk_far ?_ NB227_229.out _;(with_reducible repeat (first | refine blk_drewN ?_ _ | refine blk_drew ?_ | refine blk_alloc ?_ _));refine blk_far ?_ NB227_229.out _;(with_reducible repeat (first | refine blk_drewN ?_ _ | refine blk_drew ?_ | refine blk_alloc ?_ _));refine blk_far ?_ NB227_229.out _;(with_reducible repeat (first | refine blk_drewN ?_ _ | refine blk_drew ?_ | refine blk_alloc ?_ _));exact BK227.out⟩,⟨by (with_reducible repeat (first | refine blk_drewN ?_ _ | refine blk_drew ?_ | refine blk_alloc ?_ _));refine blk_far ?_ NB228_229.out _;(with_reducible repeat (first | refine blk_drewN ?_ _ | refine blk_drew ?_ | refine blk_alloc ?_ _));refine blk_far ?_ NB228_229.out _;(with_reducible repeat (first | refine blk_drewN ?_ _ | refine blk_drew ?_ | refine blk_alloc ?_ _));refine blk_far ?_ NB228_229.out _;(with_reducible repeat (first | refine blk_drewN ?_ _ | refine blk_drew ?_ | refine blk_alloc ?_ _));exact BK228.out⟩,⟨by (with_reducible repeat (first | refine blk_drewN ?_ _ | refine blk_drew ?_ | refine blk_alloc ?_ _));refine blk_put (cs:=#[.int .i64 a0_0,.int .i64 a0_1,.slice none 0 0]) ?_ 2 _ rfl;(with_reducible repeat (first | refine blk_drewN ?_ _ | refine blk_drew ?_ | refine blk_alloc ?_ _));refine blk_put (cs:=#[.int .i64 a0_0,.int .i64 0,.slice none 0 0]) ?_ 1 _ rfl;(with_reducible repeat (first | refine blk_drewN ?_ _ | refine blk_drew ?_ | refine blk_alloc ?_ _));refine blk_put (cs:=#[.int .i64 0,.int .i64 0,.slice none 0 0]) ?_ 0 _ rfl;(with_reducible repeat (first | refine blk_drewN ?_ _ | refine blk_drew ?_ | refine blk_alloc ?_ _));exact BK229.out⟩,⟨by repeat (first | (with_reducible first | exact HB.out | apply below_alloc | apply pw_below_drewN | apply below_drew1 | refine below_set ?_ GE227.out | refine below_set ?_ GE228.out | refine below_set ?_ GE229.out) | exact HB.out)⟩⟩
 case round =>
  clear H'
  try clear p2
  try clear c4
  try clear c7
  try clear c8
  try clear hcz10_0
  try clear hcz10_1
  try clear hcz10_2
  try clear hcz5_0
  try clear hcz5_1
  try clear hcz5_2
  try clear hcz9_0
  try clear hcz9_1
  try clear hcz9_2
  try clear hfz10_0
  try clear hfz10_1
  try clear hfz10_2
  try clear hfz5_0
  try clear hfz5_1
  try clear hfz5_2
  try clear hfz9_0
  try clear hfz9_1
  try clear hfz9_2
  repeat (first | clear HO_230002 | clear BK227 | clear BK228 | clear BK229 | clear HB)
  obtain ⟨x14_1,x230002_1,u230002,rfl,HA,HK1,HO_230002,BK227,BK228,BK229,HB⟩:=hrel
  cases gk with
  | zero=>exact absurd HA.out (by simp [impl_copyClock.l0])
  | succ k1 =>
   have H:=HA.out
   clear HA
   simp only [impl_copyClock.l0] at H
   by_cases c11:x14_1 < (l0_2.length:Int)
   ·rw [if_pos c11] at H
    have c11b0:decide (x14_1 < (l0_2.length:Int)) = true:=decide_eq_true c11
    clear c11
    by_cases c12:0 ≤ x14_1
    ·rw [if_pos c12] at H
     have c12b0:decide (0 ≤ x14_1) = true:=decide_eq_true c12
     clear c12
     by_cases c13:x14_1 < (l0_2.length:Int)
     ·rw [if_pos c13] at H
      have c13b0:decide (x14_1 < (l0_2.length:Int)) = true:=decide_eq_true c13
      clear c13
      replace H:=Option.bind_eq_some_iff.mp H
      obtain ⟨⟨t232,t233,t234⟩,A140,H⟩:=H
      replace H:(if x230002_1.length < 3518437208883 then (impl_copyClock.l0 k1 l0_2 (l0_2.length:Int) (wrap64 (x14_1 + 1)) a0_0 a0_1 (x230002_1 ++ [(⟨t232,t233,t234⟩:S29)])) else (none)) = some (r1,r2,r3):=H
      have A14:=Aside0.mk A140
      clear A140
      by_cases c15:x230002_1.length < 3518437208883
      ·rw [if_pos c15] at H
       have LMc15:=Aside0.mk c15
       clear c15
       obtain ⟨y237,hy237⟩:∃ y_:List (S29),y_ = (x230002_1 ++ [(⟨t232,t233,t234⟩:S29)]):=⟨_,rfl⟩
       replace H:(impl_copyClock.l0 k1 l0_2 (l0_2.length:Int) (wrap64 (x14_1 + 1)) a0_0 a0_1 y237) = some (r1,r2,r3):=by first | (rw [hy237];with_reducible exact H) | (have H2_:=(Option.bind_some _ _).symm.trans H;rw [hy237];with_reducible exact H2_) | (have H2_:=(Option.bind_some _ _).symm.trans H;with_reducible exact H2_) | with_reducible exact H | (rw [hy237];exact H) | exact H
       have Ny237:=Aside0.mk hy237
       clear hy237
       have H':=Aside0.mk H
       clear H
       have p230:0 ≤ (x14_1:Int):=of_decide_eq_true (by first | (with_reducible assumption) | assumption)
       have q230:x14_1 < (l0_2.length:Int):=of_decide_eq_true (by first | (with_reducible assumption) | assumption)
       obtain ⟨ad230,A230_2,c230_2,e230,hx230_0,hx230_1,hx230_2,hl230_2,hi230_2⟩:=at_T29 HR0_2.out x14_1 p230 q230
       cases e230
       replace hx230_0:=(HB.out.cell (World.block_lt_of_cell? w _ hx230_0)).trans hx230_0
       replace hx230_1:=(HB.out.cell (World.block_lt_of_cell? w _ hx230_1)).trans hx230_1
       replace hx230_2:=(HB.out.cell (World.block_lt_of_cell? w _ hx230_2)).trans hx230_2
       have HR230_2:=Aside0.mk hi230_2
       have HC230_2:=Aside0.mk hl230_2
       clear hi230_2 hl230_2
       replace p230:=eq_true p230
       replace q230:=eq_true q230
       try go_wp2_with (first | ((with_reducible refine gate_dst (N:=5) rfl ?_);refine box_event ?hg (N:=5) ?hd (cs:=#[.int .i64 0,.int .i64 0,.slice none 0 0]) (t:=29) ?hr ?_;(case hd=>rfl);(case hg=>rfl);(case hr=>first | (go_simp;done) | (go_simp;rfl));intro gb231 hg w16 hbox hb;have n0_:=Aside0.mk (Kd.S_below (Kd.S_elderB (by (with_reducible repeat (first | apply Kd.S_alloc | apply Kd.S_drewN | apply Kd.S_drew));exact HO_230002.out) gb231 (Nat.le_of_eq hg.symm)) hb);have n1_:=Aside0.mk (blk_below (g:=gb227) (o:=.cells #[.int .i64 a0_0,.int .i64 a0_1,.slice (some ad230) l0_2.length c0_2] 29 (0,0)) (by (with_reducible repeat (first | refine blk_drewN ?_ _ | refine blk_drew ?_ | refine blk_alloc ?_ _));exact BK227.out) hb);have n2_:=Aside0.mk (blk_below (g:=gb228) (o:=.cells #[.int .i64 0,.int .i64 0,.slice none 0 0] 29 (0,0)) (by (with_reducible repeat (first | refine blk_drewN ?_ _ | refine blk_drew ?_ | refine blk_alloc ?_ _));exact BK228.out) hb);have n3_:=Aside0.mk (blk_below (g:=gb229) (o:=.cells #[.int .i64 a0_0,.int .i64 a0_1,u230002] 29 (0,0)) (by (with_reducible repeat (first | refine blk_drewN ?_ _ | refine blk_drew ?_ | refine blk_alloc ?_ _));exact BK229.out) hb);have n4_:=Aside0.mk (below_step (by repeat (first | (with_reducible first | exact HB.out | apply below_alloc | apply pw_below_drewN | apply below_drew1 | refine below_set ?_ GE227.out | refine below_set ?_ GE228.out | refine below_set ?_ GE229.out) | exact HB.out)) hb);have n5_:=Aside0.mk (hbox);have n6_:=Aside0.mk ((by rw [hg];exact (below_size (by repeat (first | (with_reducible first | exact HB.out | apply below_alloc | apply pw_below_drewN | apply below_drew1 | refine below_set ?_ GE227.out | refine below_set ?_ GE228.out | refine below_set ?_ GE229.out) | exact HB.out))):w.heap.size ≤ gb231));have n7_:=Aside0.mk ((by rw [hg];exact (below_size (by repeat (first | (with_reducible first | exact HB.out | apply below_alloc | apply pw_below_drewN | apply below_drew1 | refine below_set ?_ GE227.out | refine below_set ?_ GE228.out | refine below_set ?_ GE229.out) | exact HB.out))):w.heap.size ≤ gb231));have n8_:=Aside0.mk ((by rw [hg];exact Nat.ne_of_lt (blk_lt (g:=gb227) (o:=.cells #[.int .i64 a0_0,.int .i64 a0_1,.slice (some ad230) l0_2.length c0_2] 29 (0,0)) (by (with_reducible repeat (first | refine blk_drewN ?_ _ | refine blk_drew ?_ | refine blk_alloc ?_ _));exact BK227.out)):gb227 ≠ gb231));have n9_:=Aside0.mk ((by rw [hg];exact Nat.ne_of_gt (blk_lt (g:=gb227) (o:=.cells #[.int .i64 a0_0,.int .i64 a0_1,.slice (some ad230) l0_2.length c0_2] 29 (0,0)) (by (with_reducible repeat (first | refine blk_drewN ?_ _ | refine blk_drew ?_ | refine blk_alloc ?_ _));exact BK227.out)):gb231 ≠ gb227));have n10_:=Aside0.mk ((by rw [hg];exact Nat.ne_of_lt (blk_lt (g:=gb228) (o:=.cells #[.int .i64 0,.int .i64 0,.slice none 0 0] 29 (0,0)) (by (with_reducible repeat (first | refine blk_drewN ?_ _ | refine blk_drew ?_ | refine blk_alloc ?_ _));exact BK228.out)):gb228 ≠ gb231));have n11_:=Aside0.mk ((by rw [hg];exact Nat.ne_of_gt (blk_lt (g:=gb228) (o:=.cells #[.int .i64 0,.int .i64 0,.slice none 0 0] 29 (0,0)) (by (with_reducible repeat (first | refine blk_drewN ?_ _ | refine blk_drew ?_ | refine blk_alloc ?_ _));exact BK228.out)):gb231 ≠ gb228));have n12_:=Aside0.mk ((by rw [hg];exact Nat.ne_of_lt (blk_lt (g:=gb229) (o:=.cells #[.int .i64 a0_0,.int .i64 a0_1,u230002] 29 (0,0)) (by (with_reducible repeat (first | refine blk_drewN ?_ _ | refine blk_drew ?_ | refine blk_alloc ?_ _));exact BK229.out)):gb229 ≠ gb231));have n13_:=Aside0.mk ((by rw [hg];exact Nat.ne_of_gt (blk_lt (g:=gb229) (o:=.cells #[.int .i64 a0_0,.int .i64 a0_1,u230002] 29 (0,0)) (by (with_reducible repeat (first | refine blk_drewN ?_ _ | refine blk_drew ?_ | refine blk_alloc ?_ _));exact BK229.out)):gb231 ≠ gb229));clear HO_230002;clear BK227;clear BK228;clear BK229;clear HB;have HO_230002:=n0_;have BK227:=n1_;have BK228:=n2_;have BK229:=n3_;have HB:=n4_;have BK231:=n5_;have GW231:=n6_;have GE231:=n7_;have NB227_231:=n8_;have NB231_227:=n9_;have NB228_231:=n10_;have NB231_228:=n11_;have NB229_231:=n12_;have NB231_229:=n13_;clear n0_ n1_ n2_ n3_ n4_ n5_ n6_ n7_ n8_ n9_ n10_ n11_ n12_ n13_;clear hb hbox hg;have hnb17:=NB231_227.out;have hnc17:=NB227_231.out;have hnb18:=NB231_228.out;have hnc18:=NB228_231.out;have hnb19:=NB231_229.out;have hnc19:=NB229_231.out;have hcz20_0:w16.cell? ⟨gb231,0,none⟩ = some (.int .i64 0):=(blk_cell BK231.out 0).trans rfl;have hcz20_1:w16.cell? ⟨gb231,1,none⟩ = some (.int .i64 0):=(blk_cell BK231.out 1).trans rfl;have hcz20_2:w16.cell? ⟨gb231,2,none⟩ = some (.slice none 0 0):=(blk_cell BK231.out 2).trans rfl;have hfz20_0:=blk_frozen BK231.out 0;have hfz20_1:=blk_frozen BK231.out 1;have hfz20_2:=blk_frozen BK231.out 2))
       have n0_:Aside0 (Kd.S q29 29 (((w16.setCell ⟨gb231,0,none⟩ (.int .i64 ((rd_T29 l0_2 x14_1).f0))).setCell ⟨gb231,1,none⟩ (.int .i64 ((rd_T29 l0_2 x14_1).f1))).setCell ⟨gb231,2,none⟩ (.slice A230_2 ((rd_T29 l0_2 x14_1).f2).length c230_2)) w.heap.size (fun k_=>k_ ≠ gb227∧k_ ≠ gb228∧k_ ≠ gb229∧k_ ≠ gb231) u230002 x230002_1):=⟨by (with_reducible repeat (first | apply Kd.S_alloc | apply Kd.S_drewN | apply Kd.S_drew));exact Kd.S_mono (Kd.S_far (p:=⟨gb231,2,none⟩) (Kd.S_far (p:=⟨gb231,1,none⟩) (Kd.S_far (p:=⟨gb231,0,none⟩) (Kd.S_mono HO_230002.out (fun k_ hk=>(⟨hk,hk.2⟩:_∧k_ ≠ gb231))) (fun _ hk=>hk.2) (.int .i64 ((rd_T29 l0_2 x14_1).f0))) (fun _ hk=>hk.2) (.int .i64 ((rd_T29 l0_2 x14_1).f1))) (fun _ hk=>hk.2) (.slice A230_2 ((rd_T29 l0_2 x14_1).f2).length c230_2)) (fun _ hk=>⟨hk.1.1.1,⟨hk.1.1.2.1,⟨hk.1.1.2.2,hk.1.2⟩⟩⟩)⟩
       have n1_:Aside0 ((((w16.setCell ⟨gb231,0,none⟩ (.int .i64 ((rd_T29 l0_2 x14_1).f0))).setCell ⟨gb231,1,none⟩ (.int .i64 ((rd_T29 l0_2 x14_1).f1))).setCell ⟨gb231,2,none⟩ (.slice A230_2 ((rd_T29 l0_2 x14_1).f2).length c230_2)).heap[gb227]? = some (.cells #[.int .i64 a0_0,.int .i64 a0_1,.slice (some ad230) l0_2.length c0_2] 29 (0,0))):=⟨by (with_reducible repeat (first | refine blk_drewN ?_ _ | refine blk_drew ?_ | refine blk_alloc ?_ _));refine blk_far ?_ NB227_231.out _;(with_reducible repeat (first | refine blk_drewN ?_ _ | refine blk_drew ?_ | refine blk_alloc ?_ _));refine blk_far ?_ NB227_231.out _;(with_reducible repeat (first | refine blk_drewN ?_ _ | refine blk_drew ?_ | refine blk_alloc ?_ _));refine blk_far ?_ NB227_231.out _;(with_reducible repeat (first | refine blk_drewN ?_ _ | refine blk_drew ?_ | refine blk_alloc ?_ _));exact BK227.out⟩
       have n2_:Aside0 ((((w16.setCell ⟨gb231,0,none⟩ (.int .i64 ((rd_T29 l0_2 x14_1).f0))).setCell ⟨gb231,1,none⟩ (.int .i64 ((rd_T29 l0_2 x14_1).f1))).setCell ⟨gb231,2,none⟩ (.slice A230_2 ((rd_T29 l0_2 x14_1).f2).length c230_2)).heap[gb228]? = some (.cells #[.int .i64 0,.int .i64 0,.slice none 0 0] 29 (0,0))):=⟨by (with_reducible repeat (first | refine blk_drewN ?_ _ | refine blk_drew ?_ | refine blk_alloc ?_ _));refine blk_far ?_ NB228_231.out _;(with_reducible repeat (first | refine blk_drewN ?_ _ | refine blk_drew ?_ | refine blk_alloc ?_ _));refine blk_far ?_ NB228_231.out _;(with_reducible repeat (first | refine blk_drewN ?_ _ | refine blk_drew ?_ | refine blk_alloc ?_ _));refine blk_far ?_ NB228_231.out _;(with_reducible repeat (first | refine blk_drewN ?_ _ | refine blk_drew ?_ | refine blk_alloc ?_ _));exact BK228.out⟩
       have n3_:Aside0 ((((w16.setCell ⟨gb231,0,none⟩ (.int .i64 ((rd_T29 l0_2 x14_1).f0))).setCell ⟨gb231,1,none⟩ (.int .i64 ((rd_T29 l0_2 x14_1).f1))).setCell ⟨gb231,2,none⟩ (.slice A230_2 ((rd_T29 l0_2 x14_1).f2).length c230_2)).heap[gb229]? = some (.cells #[.int .i64 a0_0,.int .i64 a0_1,u230002] 29 (0,0))):=⟨by (with_reducible repeat (first | refine blk_drewN ?_ _ | refine blk_drew ?_ | refine blk_alloc ?_ _));refine blk_far ?_ NB229_231.out _;(with_reducible repeat (first | refine blk_drewN ?_ _ | refine blk_drew ?_ | refine blk_alloc ?_ _));refine blk_far ?_ NB229_231.out _;(with_reducible repeat (first | refine blk_drewN ?_ _ | refine blk_drew ?_ | refine blk_alloc ?_ _));refine blk_far ?_ NB229_231.out _;(with_reducible repeat (first | refine blk_drewN ?_ _ | refine blk_drew ?_ | refine blk_alloc ?_ _));exact BK229.out⟩
       have n4_:Aside0 ((((w16.setCell ⟨gb231,0,none⟩ (.int .i64 ((rd_T29 l0_2 x14_1).f0))).setCell ⟨gb231,1,none⟩ (.int .i64 ((rd_T29 l0_2 x14_1).f1))).setCell ⟨gb231,2,none⟩ (.slice A230_2 ((rd_T29 l0_2 x14_1).f2).length c230_2)).heap[gb231]? = some (.cells #[.int .i64 ((rd_T29 l0_2 x14_1).f0),.int .i64 ((rd_T29 l0_2 x14_1).f1),.slice A230_2 ((rd_T29 l0_2 x14_1).f2).length c230_2] 29 (0,0))):=⟨by (with_reducible repeat (first | refine blk_drewN ?_ _ | refine blk_drew ?_ | refine blk_alloc ?_ _));refine blk_put (cs:=#[.int .i64 ((rd_T29 l0_2 x14_1).f0),.int .i64 ((rd_T29 l0_2 x14_1).f1),.slice none 0 0]) ?_ 2 _ rfl;(with_reducible repeat (first | refine blk_drewN ?_ _ | refine blk_drew ?_ | refine blk_alloc ?_ _));refine blk_put (cs:=#[.int .i64 ((rd_T29 l0_2 x14_1).f0),.int .i64 0,.slice none 0 0]) ?_ 1 _ rfl;(with_reducible repeat (first | refine blk_drewN ?_ _ | refine blk_drew ?_ | refine blk_alloc ?_ _));refine blk_put (cs:=#[.int .i64 0,.int .i64 0,.slice none 0 0]) ?_ 0 _ rfl;(with_reducible repeat (first | refine blk_drewN ?_ _ | refine blk_drew ?_ | refine blk_alloc ?_ _));exact BK231.out⟩
       have n5_:Aside0 (Below w.heap.size w (((w16.setCell ⟨gb231,0,none⟩ (.int .i64 ((rd_T29 l0_2 x14_1).f0))).setCell ⟨gb231,1,none⟩ (.int .i64 ((rd_T29 l0_2 x14_1).f1))).setCell ⟨gb231,2,none⟩ (.slice A230_2 ((rd_T29 l0_2 x14_1).f2).length c230_2))):=⟨by repeat (first | (with_reducible first | exact HB.out | apply below_alloc | apply pw_below_drewN | apply below_drew1 | refine below_set ?_ GE227.out | refine below_set ?_ GE228.out | refine below_set ?_ GE229.out | refine below_set ?_ GE231.out) | exact HB.out)⟩
       (try clear HO_230002)
       (try clear BK227)
       (try clear BK228)
       (try clear BK229)
       (try clear BK231)
       (try clear HB)
       generalize (((w16.setCell ⟨gb231,0,none⟩ (.int .i64 ((rd_T29 l0_2 x14_1).f0))).setCell ⟨gb231,1,none⟩ (.int .i64 ((rd_T29 l0_2 x14_1).f1))).setCell ⟨gb231,2,none⟩ (.slice A230_2 ((rd_T29 l0_2 x14_1).f2).length c230_2)) = w21 at n0_ n1_ n2_ n3_ n4_ n5_ ⊢
       have HO_230002:=n0_
       have BK227:=n1_
       have BK228:=n2_
       have BK229:=n3_
       have BK231:=n4_
       have HB:=n5_
       clear n0_ n1_ n2_ n3_ n4_ n5_
       have n0_:=Aside0.mk (Kd.S_drew HO_230002.out)
       have n1_:=Aside0.mk (blk_drew BK227.out)
       have n2_:=Aside0.mk (blk_drew BK228.out)
       have n3_:=Aside0.mk (blk_drew BK229.out)
       have n4_:=Aside0.mk (blk_drew BK231.out)
       have n5_:=Aside0.mk (below_drew1 HB.out)
       clear HO_230002
       clear BK227
       clear BK228
       clear BK229
       clear BK231
       clear HB
       have HO_230002:=n0_
       have BK227:=n1_
       have BK228:=n2_
       have BK229:=n3_
       have BK231:=n4_
       have HB:=n5_
       clear n0_ n1_ n2_ n3_ n4_ n5_
       refine start_ (n:=8) (S:=fun w'=>w'.cell? ⟨gb229,0,none⟩ = some (.int .i64 a0_0)∧w'.cell? ⟨gb229,1,none⟩ = some (.int .i64 a0_1)∧w'.cell? ⟨gb229,2,none⟩ = some (u230002)∧w'.cell? ⟨gb231,0,none⟩ = some (.int .i64 ((rd_T29 l0_2 x14_1).f0))∧w'.cell? ⟨gb231,1,none⟩ = some (.int .i64 ((rd_T29 l0_2 x14_1).f1))∧w'.cell? ⟨gb231,2,none⟩ = some (.slice A230_2 ((rd_T29 l0_2 x14_1).f2).length c230_2)) (ds:=[7]) #[false,false,false,false,false,false,false,false] (by kernel_rfl) rfl rfl ⟨(blk_cell BK229.out 0).trans rfl,(blk_cell BK229.out 1).trans rfl,(blk_cell BK229.out 2).trans rfl,(blk_cell BK231.out 0).trans rfl,(blk_cell BK231.out 1).trans rfl,(blk_cell BK231.out 2).trans rfl⟩ (fun hHeld=>?_);refine with_tabW impl_copyClock.tab5 impl_copyClock.bits5 (fun HT_ HW_=>?_)
       generalize w21.drew = w22 at HO_230002 BK227 BK228 BK229 BK231 HB hHeld ⊢
       have GL227:=aQ (blk_lt BK227.out)
       have GL228:=aQ (blk_lt BK228.out)
       have GL229:=aQ (blk_lt BK229.out)
       have GL231:=aQ (blk_lt BK231.out)
       have GLU:=aQ (Kd.S_lt HO_230002.out)
       refine pure_ (i:=0) (N:=some 18) (v:=?_) (a':=?_) #[true,false,false,false,false,false,false,false] rfl rfl (any_of HT_.out (by kernel_rfl)) (fun _ _ _ h=>h) (Or.inl ⟨by rfl,?_⟩) ?_ ?_
       rotate_left;·intro w';go_simp;with_reducible rfl
       rotate_left;·simp only [Act.put,List.setIfInBounds_toArray,List.set_cons_zero,List.set_cons_succ,i64_w,i32_w];rfl
       refine take_ (i:=1) (N:=some 19) (v:=?_) (a':=?_) #[true,true,false,false,false,false,false,false] rfl rfl (take_ofW HT_.out HW_.out (by kernel_rfl)) (fun _ _ _ h=>h) (Or.inl ⟨by rfl,?_⟩) hHeld ?_ ?_
       rotate_left;·rintro w' ⟨s0,s1,s2,s3,s4,s5⟩;go_simp;with_reducible rfl
       rotate_left;·simp only [Act.put,List.setIfInBounds_toArray,List.set_cons_zero,List.set_cons_succ,i64_w,i32_w];rfl
       refine take_ (i:=2) (N:=some 20) (v:=?_) (a':=?_) #[true,true,true,false,false,false,false,false] rfl rfl (take_ofW HT_.out HW_.out (by kernel_rfl)) (fun _ _ _ h=>h) (Or.inl ⟨by rfl,?_⟩) hHeld ?_ ?_
       rotate_left;·rintro w' ⟨s0,s1,s2,s3,s4,s5⟩;go_simp;with_reducible rfl
       rotate_left;·simp only [Act.put,List.setIfInBounds_toArray,List.set_cons_zero,List.set_cons_succ,i64_w,i32_w];rfl
       refine one_ (i:=3) (N:=some 21) #[true,true,true,true,false,false,false,false] rfl rfl (one_of HT_.out (by kernel_rfl)) (by decide) (fun K hK=>?_)
       refine goes_ Try.func48 (by kernel_rfl) rfl #[.agg #[.int .i64 ((rd_T29 l0_2 x14_1).f0),.int .i64 ((rd_T29 l0_2 x14_1).f1),.slice A230_2 ((rd_T29 l0_2 x14_1).f2).length c230_2]] (by rfl) rfl rfl (by (try simp only [List.map_toArray,List.map_cons,List.map_nil]);first | done | rfl | (simp only [List.length_drop,List.length_take];rfl)) ?_
       with_reducible refine (ih k1 (by have:=HK1.out;omega) ((rd_T29 l0_2 x14_1).f0) ((rd_T29 l0_2 x14_1).f1) _ _ ((rd_T29 l0_2 x14_1).f2) t232 t233 t234 _ ?side1 ?side2 A14.out).mono ?_
       (case side1=>repeat (first | exact (Kd.C_below HR230_2.out HB.out) | (with_reducible refine Kd.C_alloc ?_ _) | (with_reducible refine Kd.C_drewN ?_ _) | (with_reducible refine Kd.C_drew ?_)))
       (case side2=>exact HC230_2.out)
       rintro e w23 ⟨v235,rfl,ho0,hb⟩
       refine ⟨_,rfl,?_⟩
       have n0_:=Aside0.mk (S_hole (nS HO_230002.out) hb)
       have n1_:=Aside0.mk (Kd.S_lower (Kd.S_mono (Kd.S_bound ho0) (fun _ hk=>hk.2.1)) (below_size bB))
       have n2_:=Aside0.mk (blk_below (g:=gb227) (o:=.cells #[.int .i64 a0_0,.int .i64 a0_1,.slice (some ad230) l0_2.length c0_2] 29 (0,0)) (by (with_reducible repeat (first | refine blk_drewN ?_ _ | refine blk_drew ?_ | refine blk_alloc ?_ _));exact BK227.out) hb)
       have n3_:=Aside0.mk (blk_below (g:=gb228) (o:=.cells #[.int .i64 0,.int .i64 0,.slice none 0 0] 29 (0,0)) (by (with_reducible repeat (first | refine blk_drewN ?_ _ | refine blk_drew ?_ | refine blk_alloc ?_ _));exact BK228.out) hb)
       have n4_:=Aside0.mk (blk_below (g:=gb229) (o:=.cells #[.int .i64 a0_0,.int .i64 a0_1,u230002] 29 (0,0)) (by (with_reducible repeat (first | refine blk_drewN ?_ _ | refine blk_drew ?_ | refine blk_alloc ?_ _));exact BK229.out) hb)
       have n5_:=Aside0.mk (blk_below (g:=gb231) (o:=.cells #[.int .i64 ((rd_T29 l0_2 x14_1).f0),.int .i64 ((rd_T29 l0_2 x14_1).f1),.slice A230_2 ((rd_T29 l0_2 x14_1).f2).length c230_2] 29 (0,0)) (by (with_reducible repeat (first | refine blk_drewN ?_ _ | refine blk_drew ?_ | refine blk_alloc ?_ _));exact BK231.out) hb)
       have n6_:=Aside0.mk (below_step (by repeat (first | (with_reducible first | exact HB.out | apply below_alloc | apply pw_below_drewN | apply below_drew1 | refine below_set ?_ GE227.out | refine below_set ?_ GE228.out | refine below_set ?_ GE229.out | refine below_set ?_ GE231.out) | exact HB.out)) hb)
       clear HO_230002
       clear BK227
       clear BK228
       clear BK229
       clear BK231
       clear HB
       have HO_230002:=n0_
       have HO236:=n1_
       have BK227:=n2_
       have BK228:=n3_
       have BK229:=n4_
       have BK231:=n5_
       have HB:=n6_
       clear n0_ n1_ n2_ n3_ n4_ n5_ n6_
       (try clear hb)
       (try clear hb2)
       (try clear hk)
       (try clear hi)
       (try clear ho0)
       obtain ⟨Ao25,co25,eo25⟩:=Kd.S_slice HO236.out
       (first | subst eo25 | (injection eo25 with f1_ f2_ f3_;have f4_:=f1_.symm;have f5_:=f3_.symm;clear f1_ f2_ f3_;subst f4_;subst f5_))
       refine hK.out _ _ ⟨(blk_cell BK229.out 0).trans rfl,(blk_cell BK229.out 1).trans rfl,(blk_cell BK229.out 2).trans rfl,(blk_cell BK231.out 0).trans rfl,(blk_cell BK231.out 1).trans rfl,(blk_cell BK231.out 2).trans rfl⟩ (fun hHeld=>?_)
       clear hK K
       refine norm_ (a':=?_) ?_ ?_
       rotate_left
       ·show Act.put _ (some 21) _ = _
        simp only [Act.put,List.setIfInBounds_toArray,List.set_cons_zero,List.set_cons_succ,i64_w,i32_w]
        rfl
       refine one_ (i:=4) (N:=some 22) #[true,true,true,true,true,false,false,false] rfl rfl (one_of HT_.out (by kernel_rfl)) (by decide) (fun K hK=>?_)
       refine value_ (w1:=?_) (v:=?_) (by rfl) rfl ?_ ?_
       rotate_left 2
       ·go_simp
        constructor
        ·rfl
        ·rfl
       refine hK.out _ _ ⟨(blk_cell (blk_alloc BK229.out _) 0).trans rfl,(blk_cell (blk_alloc BK229.out _) 1).trans rfl,(blk_cell (blk_alloc BK229.out _) 2).trans rfl,(blk_cell (blk_alloc BK231.out _) 0).trans rfl,(blk_cell (blk_alloc BK231.out _) 1).trans rfl,(blk_cell (blk_alloc BK231.out _) 2).trans rfl⟩ (fun hHeld=>?_)
       clear hK K
       refine norm_ (a':=?_) ?_ ?_
       rotate_left
       ·show Act.put _ (some 22) _ = _
        simp only [Act.put,List.setIfInBounds_toArray,List.set_cons_zero,List.set_cons_succ,i64_w,i32_w]
        rfl
       refine one_ (i:=5) (N:=some 23) #[true,true,true,true,true,true,false,false] rfl rfl (one_of HT_.out (by kernel_rfl)) (by decide) (fun K hK=>?_)
       refine Kd.S_append_step q29 (w0:=w) w.heap.size (by rfl) (.tmp 19) (.tmp 22) 27 29 (.agg #[(.int .i64 0),(.int .i64 0),(.slice none 0 0)]) 40 rfl Try.underlying27 info29 rfl (by decide) (by omega) u230002 x230002_1 (⟨t232,t233,t234⟩:S29) [.int .i64 t232,.int .i64 t233,.slice Ao25 t234.length co25] (fun k_=>k_ ≠ gb227∧k_ ≠ gb228∧k_ ≠ gb229∧k_ ≠ gb231) (fun k_=>w22.heap.size ≤ k_) rfl rfl ?aP (fun k_ hk=>⟨⟨by have:=GL227.out;omega,by have:=GL228.out;omega,by have:=GL229.out;omega,by have:=GL231.out;omega⟩,fun he=>by have:=GLU.out k_ he.symm;omega⟩) ?aF ?aO ?aB ?aS ?aL ?_
       (case aP=>exact q29_mkM _ _ _ (⟨t232,t233,t234⟩:S29) (HO236.out))
       (case aB=>exact (by repeat (first | (with_reducible first | exact HB.out | apply below_alloc | apply pw_below_drewN | apply below_drew1 | refine below_set ?_ GE227.out | refine below_set ?_ GE228.out | refine below_set ?_ GE229.out | refine below_set ?_ GE231.out) | exact HB.out)))
       (case aF=>exact (fun k_ hk=>⟨Kd.freshB (g:=gb227) (o:=.cells #[.int .i64 a0_0,.int .i64 a0_1,.slice (some ad230) l0_2.length c0_2] 29 (0,0)) (by (with_reducible repeat (first | refine blk_drewN ?_ _ | refine blk_drew ?_ | refine blk_alloc ?_ _));exact BK227.out) k_ hk,Kd.freshB (g:=gb228) (o:=.cells #[.int .i64 0,.int .i64 0,.slice none 0 0] 29 (0,0)) (by (with_reducible repeat (first | refine blk_drewN ?_ _ | refine blk_drew ?_ | refine blk_alloc ?_ _));exact BK228.out) k_ hk,Kd.freshB (g:=gb229) (o:=.cells #[.int .i64 a0_0,.int .i64 a0_1,u230002] 29 (0,0)) (by (with_reducible repeat (first | refine blk_drewN ?_ _ | refine blk_drew ?_ | refine blk_alloc ?_ _));exact BK229.out) k_ hk,Kd.freshB (g:=gb231) (o:=.cells #[.int .i64 ((rd_T29 l0_2 x14_1).f0),.int .i64 ((rd_T29 l0_2 x14_1).f1),.slice A230_2 ((rd_T29 l0_2 x14_1).f2).length c230_2] 29 (0,0)) (by (with_reducible repeat (first | refine blk_drewN ?_ _ | refine blk_drew ?_ | refine blk_alloc ?_ _));exact BK231.out) k_ hk⟩))
       (case aO=>exact Kd.S_mono (nS HO_230002.out) (fun _ hk=>⟨hk.1.resolve_right hk.2,hk.2⟩))
       (case aS=>exact (below_size (by repeat (first | (with_reducible first | exact HB.out | apply below_alloc | apply pw_below_drewN | apply below_drew1 | refine below_set ?_ GE227.out | refine below_set ?_ GE228.out | refine below_set ?_ GE229.out | refine below_set ?_ GE231.out) | exact HB.out))))
       (case aL=>have:=LMc15.out;omega)
       intro v238 w24 ho hb hg hat
       rw [← Ny237.out] at ho
       have n0_:=Aside0.mk (blk_grown (g:=gb227) (o:=.cells #[.int .i64 a0_0,.int .i64 a0_1,.slice (some ad230) l0_2.length c0_2] 29 (0,0)) (by (with_reducible repeat (first | refine blk_drewN ?_ _ | refine blk_drew ?_ | refine blk_alloc ?_ _));exact BK227.out) hg (Kd.S_away (Kd.S_mono (ok':=fun k_=>k_ ≠ gb227∧k_ ≠ gb228∧k_ ≠ gb229∧k_ ≠ gb231) HO_230002.out (fun _ hk=>hk.1.resolve_right hk.2)) (fun _ hk=>hk.1)))
       have n1_:=Aside0.mk (blk_grown (g:=gb228) (o:=.cells #[.int .i64 0,.int .i64 0,.slice none 0 0] 29 (0,0)) (by (with_reducible repeat (first | refine blk_drewN ?_ _ | refine blk_drew ?_ | refine blk_alloc ?_ _));exact BK228.out) hg (Kd.S_away (Kd.S_mono (ok':=fun k_=>k_ ≠ gb227∧k_ ≠ gb228∧k_ ≠ gb229∧k_ ≠ gb231) HO_230002.out (fun _ hk=>hk.1.resolve_right hk.2)) (fun _ hk=>hk.2.1)))
       have n2_:=Aside0.mk (blk_grown (g:=gb229) (o:=.cells #[.int .i64 a0_0,.int .i64 a0_1,u230002] 29 (0,0)) (by (with_reducible repeat (first | refine blk_drewN ?_ _ | refine blk_drew ?_ | refine blk_alloc ?_ _));exact BK229.out) hg (Kd.S_away (Kd.S_mono (ok':=fun k_=>k_ ≠ gb227∧k_ ≠ gb228∧k_ ≠ gb229∧k_ ≠ gb231) HO_230002.out (fun _ hk=>hk.1.resolve_right hk.2)) (fun _ hk=>hk.2.2.1)))
       have n3_:=Aside0.mk (blk_grown (g:=gb231) (o:=.cells #[.int .i64 ((rd_T29 l0_2 x14_1).f0),.int .i64 ((rd_T29 l0_2 x14_1).f1),.slice A230_2 ((rd_T29 l0_2 x14_1).f2).length c230_2] 29 (0,0)) (by (with_reducible repeat (first | refine blk_drewN ?_ _ | refine blk_drew ?_ | refine blk_alloc ?_ _));exact BK231.out) hg (Kd.S_away (Kd.S_mono (ok':=fun k_=>k_ ≠ gb227∧k_ ≠ gb228∧k_ ≠ gb229∧k_ ≠ gb231) HO_230002.out (fun _ hk=>hk.1.resolve_right hk.2)) (fun _ hk=>hk.2.2.2)))
       have n4_:=Aside0.mk (hb)
       have n5_:=Aside0.mk (ho)
       clear BK227
       clear BK228
       clear BK229
       clear BK231
       clear HB
       clear HO_230002
       clear HO236
       have BK227:=n0_
       have BK228:=n1_
       have BK229:=n2_
       have BK231:=n3_
       have HB:=n4_
       have HO239:=n5_
       clear n0_ n1_ n2_ n3_ n4_ n5_
       clear ho hb hg hat
       obtain ⟨Ao26,co26,eo26⟩:=Kd.S_slice HO239.out
       (first | subst eo26 | (injection eo26 with f1_ f2_ f3_;have f4_:=f1_.symm;have f5_:=f3_.symm;clear f1_ f2_ f3_;subst f4_;subst f5_))
       refine hK.out _ _ ⟨(blk_cell BK229.out 0).trans rfl,(blk_cell BK229.out 1).trans rfl,(blk_cell BK229.out 2).trans rfl,(blk_cell BK231.out 0).trans rfl,(blk_cell BK231.out 1).trans rfl,(blk_cell BK231.out 2).trans rfl⟩ (fun hHeld=>?_)
       clear hK K
       refine norm_ (a':=?_) ?_ ?_
       rotate_left
       ·show Act.put _ (some 23) _ = _
        simp only [Act.put,List.setIfInBounds_toArray,List.set_cons_zero,List.set_cons_succ,i64_w,i32_w]
        rfl
       refine pure_ (i:=6) (N:=some 24) (v:=?_) (a':=?_) #[true,true,true,true,true,true,true,false] rfl rfl (any_of HT_.out (by kernel_rfl)) (fun _ _ _ h=>h) (Or.inl ⟨by rfl,?_⟩) ?_ ?_
       rotate_left;·intro w';go_simp;with_reducible rfl
       rotate_left;·simp only [Act.put,List.setIfInBounds_toArray,List.set_cons_zero,List.set_cons_succ,i64_w,i32_w];rfl
       refine last_ (i:=7) (N:=none) #[true,true,true,true,true,true,true,true] rfl rfl (one_of HT_.out (by kernel_rfl)) (by decide) (fun K hK=>?_)
       have hs27:w24.cell? ⟨gb229,2,none⟩ = some (u230002):=(blk_cell BK229.out 2).trans rfl
       have hfs27:=blk_frozen BK229.out 2
       have hns27_0:=NB227_229.out
       have hns27_1:=NB228_229.out
       have hns27_3:=NB231_229.out
       have hms27_0:=NB229_227.out
       have hms27_1:=NB229_228.out
       have hms27_3:=NB229_231.out
       refine skip_ (w1:=?_) (by rfl) rfl ?_ ?_
       rotate_left
       ·go_simp
        rfl
       refine hK.out _ _ ?_
       clear hK K
       refine done_ (done_of HT_.out (by kernel_rfl)) ?_
       try go_wp2
       go_roundg k1
       case measure=>have:=HK1.out;omega
       case rel=>exact ⟨(wrap64 (x14_1 + 1)),(y237),(.slice Ao26 y237.length co26),(by first | rfl | (simp;done) | (simp [*];done)),H',⟨by have:=HK1.out;omega⟩,⟨by (with_reducible repeat (first | apply Kd.S_alloc | apply Kd.S_drewN | apply Kd.S_drew));exact Kd.S_mono (Kd.S_far (p:=⟨gb229,2,none⟩) (Kd.S_mono HO239.out (fun k_ hk=>(⟨hk,hk.2.2.1⟩:_∧k_ ≠ gb229))) (fun _ hk=>hk.2) (.slice Ao26 y237.length co26)) (fun _ hk=>⟨hk.1.1,⟨hk.1.2.1,hk.1.2.2.1⟩⟩)⟩,⟨by (with_reducible repeat (first | refine blk_drewN ?_ _ | refine blk_drew ?_ | refine blk_alloc ?_ _));refine blk_far ?_ NB227_229.out _;(with_reducible repeat (first | refine blk_drewN ?_ _ | refine blk_drew ?_ | refine blk_alloc ?_ _));exact BK227.out⟩,⟨by (with_reducible repeat (first | refine blk_drewN ?_ _ | refine blk_drew ?_ | refine blk_alloc ?_ _));refine blk_far ?_ NB228_229.out _;(with_reducible repeat (first | refine blk_drewN ?_ _ | refine blk_drew ?_ | refine blk_alloc ?_ _));exact BK228.out⟩,⟨by (with_reducible repeat (first | refine blk_drewN ?_ _ | refine blk_drew ?_ | refine blk_alloc ?_ _));refine blk_put (cs:=#[.int .i64 a0_0,.int .i64 a0_1,u230002]) ?_ 2 _ rfl;(with_reducible repeat (first | refine blk_drewN ?_ _ | refine blk_drew ?_ | refine blk_alloc ?_ _));exact BK229.out⟩,⟨by repeat (first | (with_reducible first | exact HB.out | apply below_alloc | apply pw_below_drewN | apply below_drew1 | refine below_set ?_ GE227.out | refine below_set ?_ GE228.out | refine below_set ?_ GE229.out | refine below_set ?_ GE231.out) | exact HB.out)⟩⟩
      ·rw [if_neg c15] at H
       exact absurd H (by simp)
     ·rw [if_neg c13] at H
      exact absurd H (by simp)
    ·rw [if_neg c12] at H
     exact absurd H (by simp)
   ·rw [if_neg c11] at H
    have c11b0:decide (x14_1 < (l0_2.length:Int)) = false:=decide_eq_false c11
    clear c11
    simp only [Option.some.injEq,Prod.mk.injEq] at H
    obtain ⟨rfl,rfl,rfl⟩:=H
    have hnb28:=NB229_227.out
    have hnc28:=NB227_229.out
    have hnb29:=NB229_228.out
    have hnc29:=NB228_229.out
    have hcz30_0:wr.cell? ⟨gb229,0,none⟩ = some (.int .i64 a0_0):=(blk_cell BK229.out 0).trans rfl
    have hcz30_1:wr.cell? ⟨gb229,1,none⟩ = some (.int .i64 a0_1):=(blk_cell BK229.out 1).trans rfl
    have hcz30_2:wr.cell? ⟨gb229,2,none⟩ = some (u230002):=(blk_cell BK229.out 2).trans rfl
    have hfz30_0:=blk_frozen BK229.out 0
    have hfz30_1:=blk_frozen BK229.out 1
    have hfz30_2:=blk_frozen BK229.out 2
    have hnb31:=NB228_227.out
    have hnc31:=NB227_228.out
    have hcz32_0:wr.cell? ⟨gb228,0,none⟩ = some (.int .i64 0):=(blk_cell BK228.out 0).trans rfl
    have hcz32_1:wr.cell? ⟨gb228,1,none⟩ = some (.int .i64 0):=(blk_cell BK228.out 1).trans rfl
    have hcz32_2:wr.cell? ⟨gb228,2,none⟩ = some (.slice none 0 0):=(blk_cell BK228.out 2).trans rfl
    have hfz32_0:=blk_frozen BK228.out 0
    have hfz32_1:=blk_frozen BK228.out 1
    have hfz32_2:=blk_frozen BK228.out 2
    obtain ⟨Ao33,co33,eo33⟩:=Kd.S_slice HO_230002.out
    subst eo33
    go_wp2
    refine bodyPost_ret (results_cell_row rfl _ _ gb228 29 #[.int .i64 a0_0,.int .i64 a0_1,.slice Ao33 x230002_1.length co33] (0,0) _ rfl (by (with_reducible repeat (first | refine blk_drewN ?_ _ | refine blk_drew ?_ | refine blk_alloc ?_ _));refine blk_put (cs:=#[.int .i64 a0_0,.int .i64 a0_1,.slice none 0 0]) ?_ 2 _ rfl;(with_reducible repeat (first | refine blk_drewN ?_ _ | refine blk_drew ?_ | refine blk_alloc ?_ _));refine blk_put (cs:=#[.int .i64 a0_0,.int .i64 0,.slice none 0 0]) ?_ 1 _ rfl;(with_reducible repeat (first | refine blk_drewN ?_ _ | refine blk_drew ?_ | refine blk_alloc ?_ _));refine blk_put (cs:=#[.int .i64 0,.int .i64 0,.slice none 0 0]) ?_ 0 _ rfl;(with_reducible repeat (first | refine blk_drewN ?_ _ | refine blk_drew ?_ | refine blk_alloc ?_ _));exact BK228.out) Try.underlying29 rfl (by kernel_rfl)) rfl ?_
    exact ⟨_,by first | rfl | (simp [errW_none,errW_some] <;> rfl) | (simp [*,errW_none,errW_some] <;> rfl),by (with_reducible repeat (first | apply Kd.S_alloc | apply Kd.S_drewN | apply Kd.S_drew));exact Kd.S_mono (Kd.S_far (p:=⟨gb228,2,none⟩) (Kd.S_far (p:=⟨gb228,1,none⟩) (Kd.S_far (p:=⟨gb228,0,none⟩) (Kd.S_mono HO_230002.out (fun k_ hk=>(⟨hk,hk.2.1⟩:_∧k_ ≠ gb228))) (fun _ hk=>hk.2) (.int .i64 a0_0)) (fun _ hk=>hk.2) (.int .i64 a0_1)) (fun _ hk=>hk.2) (.slice Ao33 x230002_1.length co33)) (fun _ hk=>trivial),by repeat (first | (with_reducible first | exact HB.out | apply below_alloc | apply pw_below_drewN | apply below_drew1 | refine below_set ?_ GE227.out | refine below_set ?_ GE228.out | refine below_set ?_ GE229.out) | exact HB.out)⟩
end Go.Proofs.Ytnkgcjdlfenepaa.P
