/- What the laws make of their arguments lies apart at every depth. No condition. -/
import Derived.Test.YtnkgcjdlfenepaaP0
import Derived.Test.YtnkgcjdlfenepaaP2
import Derived.Test.YtnkgcjdlfenepaaDTree
namespace Go.Proofs.Ytnkgcjdlfenepaa.P
open Go.RowKit Go.Proofs.YtnkgcjdlfenepaaW.PrintWords Go.Proofs.YtnkgcjdlfenepaaW.PrintLast Go.Proofs.YtnkgcjdlfenepaaW.PrintMore
attribute [local go_sem] max2_int min2_int max_two min_two max_three min_three max_four min_four
set_option linter.unusedVariables false
set_option linter.unusedSimpArgs false
abbrev toClockS_ConD (k:Nat):Prop:=∀ (A0:Option Addr) (c0:Nat) (l0:List (S24)) (r:List (S29)) (w:World) (hr0:Kd.C k24 w A0 l0.length l0) (hc0:l0.length ≤ c0) (h:laws_toClockS.f k l0 = some r),
  Calls Try.prog 41 #[.slice A0 l0.length c0] w fun e w'=>∃ v0_:Value,e = .returned (v0_)∧Kd.S q29 29 w' w.heap.size (fun _=>True) v0_ r∧Below w.heap.size w w'
set_option maxHeartbeats 8000000 in
set_option maxRecDepth 100000 in
theorem toClock_deep_of (k:Nat) (ihS:∀ j_,j_ ≤ k → toClockS_ConD j_) (a0_0:Int) (a0_1:Int) (A0_2:Option Addr) (c0_2:Nat) (l0_2:List (S24)) (r1:Int) (r2:Int) (r3:List (S29)) (w:World) (hr0_2:Kd.C k24 w A0_2 l0_2.length l0_2) (hc0_2:l0_2.length ≤ c0_2) (h:laws_toClock.f k a0_0 a0_1 l0_2 = some (r1,r2,r3)) :
  Calls Try.prog 15 #[.agg #[.int .i64 a0_0,.int .i64 a0_1,.slice A0_2 l0_2.length c0_2]] w fun e w'=>∃ v2_:Value,e = .returned (.agg #[.int .i64 r1,.int .i64 r2,v2_])∧Kd.S q29 29 w' w.heap.size (fun _=>True) v2_ r3∧Below w.heap.size w w':=by
 have hu24:=Try.underlying24
 have hu29:=Try.underlying29
 have HR0_2:=aQ hr0_2
 have HC0_2:=aQ hc0_2
 clear hr0_2 hc0_2
 have HB:=aQ (Below.refl w.heap.size w)
 have H:=h
 clear h
 obtain ⟨t147,A2,H⟩:=bQ H
 (try dsimp only at H)
 simp only [Option.some.injEq,Prod.mk.injEq] at H
 obtain ⟨rfl,rfl,rfl⟩:=H
 go_enter Try.func15,Try.ntmps15
 go_wp2_with (first | ((with_reducible refine gate_dst (N:=1) rfl ?_);refine box1 (N:=1) (cs:=#[.int .i64 a0_0,.int .i64 a0_1,.slice A0_2 l0_2.length c0_2]) (t:=24) ?_;intro gb144 hg w3 hbox hb;have BK144:=aQ (hbox);have GW144:=aQ ((by rw [hg];exact (below_size bB):w.heap.size ≤ gb144));have GE144:=aQ ((by rw [hg];exact (below_size bB):w.heap.size ≤ gb144));replace HB:=aQ (below_step bB hb);clear hb hbox hg) | ((with_reducible refine gate_dst (N:=2) rfl ?_);refine box1 (N:=2) (cs:=#[.int .i64 0,.int .i64 0,.slice none 0 0]) (t:=29) ?_;intro gb145 hg w4 hbox hb;have BK145:=aQ (hbox);have GW145:=aQ ((by rw [hg];exact (below_size bB):w.heap.size ≤ gb145));have GE145:=aQ ((by rw [hg];exact (below_size bB):w.heap.size ≤ gb145));replace HB:=aQ (below_step bB hb);have NB144_145:=aQ ((by rw [hg];exact Nat.ne_of_lt (blk_lt (g:=gb144) (o:=.cells #[.int .i64 a0_0,.int .i64 a0_1,.slice A0_2 l0_2.length c0_2] 24 (0,0)) (nB BK144.out)):gb144 ≠ gb145));have NB145_144:=aQ ((by rw [hg];exact Nat.ne_of_gt (blk_lt (g:=gb144) (o:=.cells #[.int .i64 a0_0,.int .i64 a0_1,.slice A0_2 l0_2.length c0_2] 24 (0,0)) (nB BK144.out)):gb145 ≠ gb144));replace BK144:=aQ (blk_below (g:=gb144) (o:=.cells #[.int .i64 a0_0,.int .i64 a0_1,.slice A0_2 l0_2.length c0_2] 24 (0,0)) (nB BK144.out) hb);clear hb hbox hg) | ((with_reducible refine gate_dst (N:=3) rfl ?_);refine box1 (N:=3) (cs:=#[.int .i64 0,.int .i64 0,.slice none 0 0]) (t:=29) ?_;intro gb146 hg w5 hbox hb;have BK146:=aQ (hbox);have GW146:=aQ ((by rw [hg];exact (below_size bB):w.heap.size ≤ gb146));have GE146:=aQ ((by rw [hg];exact (below_size bB):w.heap.size ≤ gb146));replace HB:=aQ (below_step bB hb);have NB144_146:=aQ ((by rw [hg];exact Nat.ne_of_lt (blk_lt (g:=gb144) (o:=.cells #[.int .i64 a0_0,.int .i64 a0_1,.slice A0_2 l0_2.length c0_2] 24 (0,0)) (nB BK144.out)):gb144 ≠ gb146));have NB146_144:=aQ ((by rw [hg];exact Nat.ne_of_gt (blk_lt (g:=gb144) (o:=.cells #[.int .i64 a0_0,.int .i64 a0_1,.slice A0_2 l0_2.length c0_2] 24 (0,0)) (nB BK144.out)):gb146 ≠ gb144));replace BK144:=aQ (blk_below (g:=gb144) (o:=.cells #[.int .i64 a0_0,.int .i64 a0_1,.slice A0_2 l0_2.length c0_2] 24 (0,0)) (nB BK144.out) hb);have NB145_146:=aQ ((by rw [hg];exact Nat.ne_of_lt (blk_lt (g:=gb145) (o:=.cells #[.int .i64 0,.int .i64 0,.slice none 0 0] 29 (0,0)) (nB BK145.out)):gb145 ≠ gb146));have NB146_145:=aQ ((by rw [hg];exact Nat.ne_of_gt (blk_lt (g:=gb145) (o:=.cells #[.int .i64 0,.int .i64 0,.slice none 0 0] 29 (0,0)) (nB BK145.out)):gb146 ≠ gb145));replace BK145:=aQ (blk_below (g:=gb145) (o:=.cells #[.int .i64 0,.int .i64 0,.slice none 0 0] 29 (0,0)) (nB BK145.out) hb);clear hb hbox hg;have hnb6:=NB144_145.out;have hnc6:=NB145_144.out;have hnb7:=NB144_146.out;have hnc7:=NB146_144.out;have hcz8_0:w5.cell? ⟨gb144,0,none⟩ = some (.int .i64 a0_0):=(blk_cell BK144.out 0).trans rfl;have hcz8_1:w5.cell? ⟨gb144,1,none⟩ = some (.int .i64 a0_1):=(blk_cell BK144.out 1).trans rfl;have hcz8_2:w5.cell? ⟨gb144,2,none⟩ = some (.slice A0_2 l0_2.length c0_2):=(blk_cell BK144.out 2).trans rfl;have hfz8_0:=blk_frozen BK144.out 0;have hfz8_1:=blk_frozen BK144.out 1;have hfz8_2:=blk_frozen BK144.out 2;have hnb9:=NB146_145.out;have hnc9:=NB145_146.out;have hcz10_0:w5.cell? ⟨gb146,0,none⟩ = some (.int .i64 0):=(blk_cell BK146.out 0).trans rfl;have hcz10_1:w5.cell? ⟨gb146,1,none⟩ = some (.int .i64 0):=(blk_cell BK146.out 1).trans rfl;have hcz10_2:w5.cell? ⟨gb146,2,none⟩ = some (.slice none 0 0):=(blk_cell BK146.out 2).trans rfl;have hfz10_0:=blk_frozen BK146.out 0;have hfz10_1:=blk_frozen BK146.out 1;have hfz10_2:=blk_frozen BK146.out 2) | ((with_reducible refine gate_callee (f:=41) rfl ?_);refine goesL_ (some 12) rfl rfl Try.func41 (by kernel_rfl) rfl #[.slice A0_2 l0_2.length c0_2] rfl mP ?_;(with_reducible refine (ihS k (Nat.le_refl _) _ _ l0_2 t147 _ ?side1 ?side2 A2.out).mono ?_);(case side1=>exact Kd.C_below HR0_2.out bB);(case side2=>exact HC0_2.out);rintro e w11 ⟨v148,rfl,ho0,hb⟩;refine ⟨_,rfl,?_⟩;have HO149:=aQ (Kd.S_lower (Kd.S_newB (Kd.S_newB ho0 (g:=gb145) (o:=.cells #[.int .i64 0,.int .i64 0,.slice none 0 0] 29 (0,0)) bF) (g:=gb146) (o:=.cells #[.int .i64 a0_0,.int .i64 a0_1,.slice none 0 0] 29 (0,0)) bP) (below_size bB));replace BK144:=aQ (blk_below (g:=gb144) (o:=.cells #[.int .i64 a0_0,.int .i64 a0_1,.slice A0_2 l0_2.length c0_2] 24 (0,0)) bF hb);replace BK145:=aQ (blk_below (g:=gb145) (o:=.cells #[.int .i64 0,.int .i64 0,.slice none 0 0] 29 (0,0)) bF hb);replace BK146:=aQ (blk_below (g:=gb146) (o:=.cells #[.int .i64 a0_0,.int .i64 a0_1,.slice none 0 0] 29 (0,0)) bP hb);replace HB:=aQ (below_step bB hb);(try clear hb);(try clear ho0);obtain ⟨Ao12,co12,eo12⟩:=Kd.S_slice HO149.out;subst eo12;have hcz13_0:w11.cell? ⟨gb146,0,none⟩ = some (.int .i64 a0_0):=(blk_cell BK146.out 0).trans rfl;have hcz13_1:w11.cell? ⟨gb146,1,none⟩ = some (.int .i64 a0_1):=(blk_cell BK146.out 1).trans rfl;have hcz13_2:w11.cell? ⟨gb146,2,none⟩ = some (.slice none 0 0):=(blk_cell BK146.out 2).trans rfl;have hfz13_0:=blk_frozen BK146.out 0;have hfz13_1:=blk_frozen BK146.out 1;have hfz13_2:=blk_frozen BK146.out 2;have hcz14_0:w11.cell? ⟨gb145,0,none⟩ = some (.int .i64 0):=(blk_cell BK145.out 0).trans rfl;have hcz14_1:w11.cell? ⟨gb145,1,none⟩ = some (.int .i64 0):=(blk_cell BK145.out 1).trans rfl;have hcz14_2:w11.cell? ⟨gb145,2,none⟩ = some (.slice none 0 0):=(blk_cell BK145.out 2).trans rfl;have hfz14_0:=blk_frozen BK145.out 0;have hfz14_1:=blk_frozen BK145.out 1;have hfz14_2:=blk_frozen BK145.out 2))
 refine bodyPost_ret (results_cell_row rfl _ _ gb145 29 #[.int .i64 a0_0,.int .i64 a0_1,.slice Ao12 t147.length co12] (0,0) _ rfl (by (with_reducible repeat (first | refine blk_drewN ?_ _ | refine blk_drew ?_ | refine blk_alloc ?_ _));refine blk_put (cs:=#[.int .i64 a0_0,.int .i64 a0_1,.slice none 0 0]) ?_ 2 _ rfl;(with_reducible repeat (first | refine blk_drewN ?_ _ | refine blk_drew ?_ | refine blk_alloc ?_ _));refine blk_put (cs:=#[.int .i64 a0_0,.int .i64 0,.slice none 0 0]) ?_ 1 _ rfl;(with_reducible repeat (first | refine blk_drewN ?_ _ | refine blk_drew ?_ | refine blk_alloc ?_ _));refine blk_put (cs:=#[.int .i64 0,.int .i64 0,.slice none 0 0]) ?_ 0 _ rfl;(with_reducible repeat (first | refine blk_drewN ?_ _ | refine blk_drew ?_ | refine blk_alloc ?_ _));refine blk_far ?_ NB145_146.out _;(with_reducible repeat (first | refine blk_drewN ?_ _ | refine blk_drew ?_ | refine blk_alloc ?_ _));exact BK145.out) Try.underlying29 rfl (by kernel_rfl)) rfl ?_
 exact ⟨_,rfl,by (with_reducible repeat (first | apply Kd.S_alloc | apply Kd.S_drewN | apply Kd.S_drew));exact Kd.S_mono (Kd.S_far (p:=⟨gb145,2,none⟩) (Kd.S_far (p:=⟨gb145,1,none⟩) (Kd.S_far (p:=⟨gb145,0,none⟩) (Kd.S_far (p:=⟨gb146,2,none⟩) (Kd.S_mono (Kd.S_mono HO149.out (fun k_ hk=>(⟨hk,hk.2⟩:_∧k_ ≠ gb146))) (fun k_ hk=>(⟨hk,hk.1.1.2⟩:_∧k_ ≠ gb145))) (fun _ hk=>hk.1.2) (.slice Ao12 t147.length co12)) (fun _ hk=>hk.2) (.int .i64 a0_0)) (fun _ hk=>hk.2) (.int .i64 a0_1)) (fun _ hk=>hk.2) (.slice Ao12 t147.length co12)) (fun _ hk=>trivial),bB⟩
set_option maxHeartbeats 8000000 in
set_option maxRecDepth 100000 in
theorem toClockS_deep (k:Nat):∀ (A0:Option Addr) (c0:Nat) (l0:List (S24)) (r:List (S29)) (w:World) (hr0:Kd.C k24 w A0 l0.length l0) (hc0:l0.length ≤ c0) (h:laws_toClockS.f k l0 = some r),
  Calls Try.prog 41 #[.slice A0 l0.length c0] w fun e w'=>∃ v0_:Value,e = .returned (v0_)∧Kd.S q29 29 w' w.heap.size (fun _=>True) v0_ r∧Below w.heap.size w w':=by
 induction k using Nat.strongRecOn with
 | _ k ih =>
 intro A0 c0 l0 r w hr0 hc0 h
 cases k with
 | zero=>exact absurd h (by simp [laws_toClockS.f])
 | succ k =>
 simp only [laws_toClockS.f] at h
 have hu24:=Try.underlying24
 have hu29:=Try.underlying29
 have HR0:=aQ hr0
 have HC0:=aQ hc0
 clear hr0 hc0
 have HB:=aQ (Below.refl w.heap.size w)
 have H:=h
 clear h
 by_cases c2:0 ≤ (l0.length:Int);rotate_left
 ·rw [if_neg c2] at H
  exact absurd H (by simp)
 rw [if_pos c2] at H
 have c2b0:=eq_true c2
 have c2b1:decide (0 ≤ (l0.length:Int)) = true:=decide_eq_true c2
 clear c2
 by_cases c3:((l0.length:Int):Int).toNat ≤ 7036874417766;rotate_left
 ·rw [if_neg c3] at H
  exact absurd H (by simp)
 rw [if_pos c3] at H
 have c3b0:=eq_true c3
 have c3b1:decide (((l0.length:Int):Int).toNat ≤ 7036874417766) = true:=decide_eq_true c3
 clear c3
 obtain ⟨y134,hy134⟩:∃ y_:List (S29),y_ = (List.replicate ((l0.length:Int):Int).toNat z29):=⟨_,rfl⟩
 replace H:(laws_toClockS.l0 k l0 y134 0) = some r:=by rw [hy134];exact H
 have Ny134:=aQ hy134
 clear hy134
 have H':=aQ H
 clear H
 go_enter Try.func41,Try.ntmps41
 go_wp2_with (first | ((with_reducible refine gate_dst (N:=7) rfl ?_);refine Kd.S_make q29 _ 29 rfl (N:=7) rfl 27 _ _ rfl (l0.length:Int) rfl rfl Try.underlying27 (.agg #[(.int .i64 0),(.int .i64 0),(.slice none 0 0)]) 40 info29 rfl (by decide) (by omega) z29 (ok:=fun _=>True) (okp:=fun _=>True) (q29_mkM _ _ _ z29 (Kd.S_nil _ _ _ _ _)) (fun _ hk=>hk) trivial (of_decide_eq_true (by first | (with_reducible assumption) | assumption)) (Nat.le_trans (Nat.mul_le_mul_right _ (of_decide_eq_true (by first | (with_reducible assumption) | assumption):(l0.length:Int).toNat ≤ 7036874417766)) (by omega)) (Below.refl _ _) (Nat.le_refl _) ?_;intro v135 w4 ho5 hb hg_ hnew_;clear hg_ hnew_;(first | rw [← Ny134.out] at ho5 | (simp only [Int.reduceToNat] at ho5;rw [← Ny134.out] at ho5));have HO136:=aQ (Kd.S_lower ho5 (below_size bB));replace HB:=aQ (below_step bB hb);clear hb ho5))
 go_loopg [4] k (fun kq v4 w'=>∃ (x3_1:List (S29)) (x4_1:Int),v4 = .int .i64 x4_1∧Aside0 (laws_toClockS.l0 kq l0 x3_1 x4_1 = some r)∧Aside0 (kq ≤ k)∧Aside0 (Kd.S q29 29 w' w.heap.size (fun _=>True) v135 x3_1)∧Aside0 (Below w.heap.size w w'))
 case atStart=>exact ⟨(y134),(0),rfl,H',⟨Nat.le_refl _⟩,⟨nS HO136.out⟩,⟨bB⟩⟩
 case round =>
  clear H'
  try clear c2b0
  try clear c2b1
  try clear c3b0
  try clear c3b1
  repeat (first | clear HO_3 | clear HB)
  obtain ⟨x3_1,x4_1,rfl,HA,HK1,HO_3,HB⟩:=hrel
  cases gk with
  | zero=>exact absurd HA.out (by simp [laws_toClockS.l0])
  | succ k1 =>
   have H:=HA.out
   clear HA
   simp only [laws_toClockS.l0] at H
   by_cases c6:x4_1 < (l0.length:Int);rotate_left
   ·rw [if_neg c6] at H
    have c6b0:decide (x4_1 < (l0.length:Int)) = false:=decide_eq_false c6
    clear c6
    obtain rfl:=Option.some.inj H
    go_wp2
    go_ret
    exact ⟨_,rfl,by (with_reducible repeat (first | apply Kd.S_alloc | apply Kd.S_drewN | apply Kd.S_drew));exact HO_3.out,bB⟩
   rw [if_pos c6] at H
   have c6b0:decide (x4_1 < (l0.length:Int)) = true:=decide_eq_true c6
   clear c6
   by_cases c7:0 ≤ x4_1;rotate_left
   ·rw [if_neg c7] at H
    exact absurd H (by simp)
   rw [if_pos c7] at H
   have c7b0:decide (0 ≤ x4_1) = true:=decide_eq_true c7
   clear c7
   obtain ⟨⟨t138,t139,t140⟩,A8,H⟩:=bQ H
   dsimp only at H
   by_cases c9:x4_1 < (x3_1.length:Int);rotate_left
   ·rw [if_neg c9] at H
    exact absurd H (by simp)
   rw [if_pos c9] at H
   have c9b0:decide (x4_1 < (x3_1.length:Int)) = true:=decide_eq_true c9
   clear c9
   obtain ⟨y143,hy143⟩:∃ y_:List (S29),y_ = (x3_1.set (x4_1:Int).toNat (⟨t138,t139,t140⟩:S29)):=⟨_,rfl⟩
   replace H:(laws_toClockS.l0 k1 l0 y143 (wrap64 (x4_1 + 1))) = some r:=by rw [hy143];exact H
   have Ny143:=aQ hy143
   clear hy143
   have H':=aQ H
   clear H
   have p137:0 ≤ (x4_1:Int):=of_decide_eq_true (by first | (with_reducible assumption) | assumption)
   have q137:x4_1 < (l0.length:Int):=of_decide_eq_true (by first | (with_reducible assumption) | assumption)
   obtain ⟨ad137,A137_2,c137_2,e137,hx137_0,hx137_1,hx137_2,hl137_2,hi137_2⟩:=at_T24 HR0.out x4_1 p137 q137
   cases e137
   replace hx137_0:=(HB.out.cell (World.block_lt_of_cell? w _ hx137_0)).trans hx137_0
   replace hx137_1:=(HB.out.cell (World.block_lt_of_cell? w _ hx137_1)).trans hx137_1
   replace hx137_2:=(HB.out.cell (World.block_lt_of_cell? w _ hx137_2)).trans hx137_2
   have HR137_2:=aQ hi137_2
   have HC137_2:=aQ hl137_2
   clear hi137_2 hl137_2
   replace p137:=eq_true p137
   replace q137:=eq_true q137
   go_wp2_with (first | ((with_reducible refine gate_callee (f:=15) rfl ?_);refine goesL_ (some 20) rfl rfl Try.func15 (by kernel_rfl) rfl #[.agg #[.int .i64 ((rd_T24 l0 x4_1).f0),.int .i64 ((rd_T24 l0 x4_1).f1),.slice A137_2 ((rd_T24 l0 x4_1).f2).length c137_2]] rfl mP ?_;(with_reducible refine (toClock_deep_of k1 (fun j_ hj_=>ih j_ (by first | omega | (have:=HK1.out;omega) | (have:=HK1.out;have:=HK2.out;omega))) ((rd_T24 l0 x4_1).f0) ((rd_T24 l0 x4_1).f1) _ _ ((rd_T24 l0 x4_1).f2) t138 t139 t140 _ ?side1 ?side2 A8.out).mono ?_);(case side1=>repeat (first | exact (Kd.C_below HR137_2.out HB.out) | (with_reducible refine Kd.C_alloc ?_ _) | (with_reducible refine Kd.C_drewN ?_ _) | (with_reducible refine Kd.C_drew ?_)));(case side2=>exact HC137_2.out);rintro e w11 ⟨v141,rfl,ho0,hb⟩;refine ⟨_,rfl,?_⟩;have p10:0 ≤ (x4_1:Int):=of_decide_eq_true (by first | (with_reducible assumption) | assumption);have q10:(x4_1:Int) < ((x3_1.length:Int):Int):=of_decide_eq_true (by first | (with_reducible assumption) | assumption);obtain ⟨go10,co10,eo10,gb10,gl10,cl10,HG10⟩:=Kd.S_form HO_3.out (by omega);subst eo10;have GB10:=aQ gb10;have HP12:=S_fresh_seg (nS HO_3.out) hb z29 (x4_1:Int) p10 q10 (seg:=[.int .i64 t138,.int .i64 t139,v141]) rfl (x':=(⟨t138,t139,t140⟩:S29)) (q29_mkM _ _ _ (⟨t138,t139,t140⟩:S29) (Kd.S_lower (Kd.S_mono (Kd.S_bound ho0) (fun _ hk=>hk.2.1)) (below_size bB)));obtain ⟨oki12,ce12,hcl12,hM12,hcc12,hfr12,-,-⟩:=Kd.S_elem (Kd.S_below (nS HO_3.out) hb) z29 (x4_1:Int) p10 q10;obtain ⟨ve12_2,rfl,ge12_2⟩:=q29_openM hM12;obtain ⟨Av_,cv_,ev_⟩:=Kd.S_slice ho0;replace HB:=aQ (below_step bB hb);subst ev_;clear hb ho0 gb10 gl10 HG10 HO_3;have hx12_0:=hcc12 0 _ rfl;(try simp only [show (q29).sz = 3 from rfl,Nat.mul_one,Nat.add_zero] at hx12_0);have hf12_0:=hfr12 0;(try simp only [show (q29).sz = 3 from rfl,Nat.mul_one,Nat.add_zero] at hf12_0);have hx12_1:=hcc12 1 _ rfl;(try simp only [show (q29).sz = 3 from rfl,Nat.mul_one,Nat.add_zero] at hx12_1);have hf12_1:=hfr12 1;(try simp only [show (q29).sz = 3 from rfl,Nat.mul_one,Nat.add_zero] at hf12_1);have hx12_2:=hcc12 2 _ rfl;(try simp only [show (q29).sz = 3 from rfl,Nat.mul_one,Nat.add_zero] at hx12_2);have hf12_2:=hfr12 2;(try simp only [show (q29).sz = 3 from rfl,Nat.mul_one,Nat.add_zero] at hf12_2);clear hcl12 hcc12 hfr12;(try clear hM12)) | ((with_reducible refine gate_store (t:=29) (p:=21) rfl ?_);refine store_event (t:=29) (p:=21) (v:=?vo_w13) (w1:=(((w11.setCell ⟨go10,(x4_1:Int).toNat * 3,none⟩ (.int .i64 t138)).setCell ⟨go10,(x4_1:Int).toNat * 3 + 1,none⟩ (.int .i64 t139)).setCell ⟨go10,(x4_1:Int).toNat * 3 + 2,none⟩ (.slice Av_ t140.length cv_))) ?hg ?ho ?hn ?hr ?_;(case ho=>rfl);(case hg=>rfl);(case hn=>rfl);(case hr=>first | (go_simp;done) | (go_simp;rfl) | (obtain ⟨Ax_,cx_,ex_⟩:=Kd.S_slice (v:=v141) (Aside0.out (by assumption));subst ex_;first | (go_simp;done) | (go_simp;rfl)) | (obtain ⟨Ax_,cx_,ex_⟩:=Kd.S_slice (v:=v141) (Aside0.out (by assumption));subst ex_;first | (go_simp;done) | (go_simp;rfl)));intro w13 hw;have hg:w11.grownBy w13 (some go10):=(by rw [hw];exact HP12.2);have hp_:Kd.S q29 29 w13 w.heap.size (fun _=>True) (.slice (some ⟨go10,0,none⟩) x3_1.length co10) y143:=(by rw [hw,Ny143.out];exact Kd.S_mono HP12.1 (fun _ _=>trivial));clear HP12;have n0_:=aQ (hp_);have n1_:=aQ ((by rw [hw];exact below_set (below_set (below_set (HB.out) GB10.out) GB10.out) GB10.out:Below w.heap.size w w13));clear HB;have HO_3:=n0_;have HB:=n1_;clear n0_ n1_;clear hg hw hp_))
   go_roundg k1
   case measure=>have:=HK1.out;omega
   case rel=>exact ⟨(y143),(wrap64 (x4_1 + 1)),rfl,H',⟨by have:=HK1.out;omega⟩,⟨nS HO_3.out⟩,⟨bB⟩⟩
end Go.Proofs.Ytnkgcjdlfenepaa.P
