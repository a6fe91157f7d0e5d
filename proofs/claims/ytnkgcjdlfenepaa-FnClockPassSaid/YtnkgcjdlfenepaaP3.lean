/- What the Go functions that the laws reach compute, and that their calls come to just that: told by a program of this session (aprint.py). No condition. -/
import Derived.Test.YtnkgcjdlfenepaaP0
import Derived.Test.YtnkgcjdlfenepaaP1
import Derived.Test.YtnkgcjdlfenepaaP2
import Derived.Test.YtnkgcjdlfenepaaCut
namespace Go.Proofs.Ytnkgcjdlfenepaa.P
open Go.RowKit Go.Proofs.YtnkgcjdlfenepaaW.PrintWords Go.Proofs.YtnkgcjdlfenepaaW.PrintLast Go.Proofs.YtnkgcjdlfenepaaW.PrintMore
attribute [local go_sem] max2_int min2_int max_two min_two max_three min_three max_four min_four
set_option linter.unusedVariables false
set_option linter.unusedSimpArgs false
def spec_l17Pass.f:Nat → Int → Int → List (S29) → Option (Int × Int × (List (S29)) × Bool)
 | 0,_,_,_=>none
 | k + 1,a0_0,a0_1,l0_2=>if a0_0 = 0 then (some (0,0,([]:List (S29)),true)) else (if a0_0 = 1 then ((spec_l17Copy.f k a0_0 a0_1 l0_2).bind fun bt521=>(some (bt521.1,bt521.2.1,bt521.2.2,(a0_1 != 0)))) else (if a0_0 = 2 then (if a0_1 = 1 then (if 0 < (l0_2.length:Int) then ((spec_l17Copy.f k ((rd_T29 l0_2 0).f0) ((rd_T29 l0_2 0).f1) ((rd_T29 l0_2 0).f2)).bind fun bt527=>(some (bt527.1,bt527.2.1,bt527.2.2,true))) else (none)) else (if 0 < (l0_2.length:Int) then ((spec_l17Copy.f k ((rd_T29 l0_2 0).f0) ((rd_T29 l0_2 0).f1) ((rd_T29 l0_2 0).f2)).bind fun bt533=>(some (a0_0,wrap64 (a0_1 - 1),(([(⟨bt533.1,bt533.2.1,bt533.2.2⟩:S29)]:List (S29))),true))) else (none))) else (if 0 < (l0_2.length:Int) then ((spec_l17Pass.f k ((rd_T29 l0_2 0).f0) ((rd_T29 l0_2 0).f1) ((rd_T29 l0_2 0).f2)).bind fun bt542=>(if 1 < (l0_2.length:Int) then ((spec_l17Pass.f k ((rd_T29 l0_2 1).f0) ((rd_T29 l0_2 1).f1) ((rd_T29 l0_2 1).f2)).bind fun bt550=>(if bt542.2.2.2 = true then (if bt550.2.2.2 = true then (if a0_0 = 4 then ((spec_l17Meet.f k ((rd_T29 l0_2 0).f0) ((rd_T29 l0_2 0).f1) ((rd_T29 l0_2 0).f2) ((rd_T29 l0_2 1).f0) ((rd_T29 l0_2 1).f1) ((rd_T29 l0_2 1).f2)).bind fun t559=>(if t559 = true then (some (0,0,([]:List (S29)),false)) else ((spec_l17Two.f a0_0 bt542.1 bt542.2.1 bt542.2.2.1 bt550.1 bt550.2.1 bt550.2.2.1).bind fun bt560=>(some (bt560.1,bt560.2.1,bt560.2.2,true))))) else ((spec_l17Two.f a0_0 bt542.1 bt542.2.1 bt542.2.2.1 bt550.1 bt550.2.1 bt550.2.2.1).bind fun bt565=>(some (bt565.1,bt565.2.1,bt565.2.2,true)))) else (some (0,0,([]:List (S29)),false))) else (some (0,0,([]:List (S29)),false)))) else (none))) else (none))))
theorem spec_l17Pass.mono_l:∀ k,(∀ y0 y1 y2,LeO (spec_l17Pass.f k y0 y1 y2) (spec_l17Pass.f (k + 1) y0 y1 y2))
 | 0=>fun _ _ _ r h=>by simp [spec_l17Pass.f] at h
 | k + 1=>by
  have ih0:=spec_l17Pass.mono_l k
  ·intro y0 y1 y2
   unfold spec_l17Pass.f
   repeat' first
   | (with_reducible exact ih0 _ _ _)
   | (with_reducible exact spec_l17Copy.mono _ _ _ _)
   | (with_reducible exact spec_l17Meet.mono _ _ _ _ _ _ _)
   | (with_reducible exact LeO.refl _)
   | (with_reducible exact LeO.none _)
   | (with_reducible refine LeO.ite ?_ ?_)
   | (with_reducible refine LeO.bind ?_ (fun _=>?_))
   | exact ih0 _ _ _
   | exact spec_l17Copy.mono _ _ _ _
   | exact spec_l17Meet.mono _ _ _ _ _ _ _
   | exact LeO.none _
   | refine LeO.ite ?_ ?_
   | refine LeO.bind ?_ (fun _=>?_)
theorem spec_l17Pass.mono:∀ a0 a1 a2 k,LeO (spec_l17Pass.f k a0 a1 a2) (spec_l17Pass.f (k + 1) a0 a1 a2):=by
 intro a0 a1 a2 k
 have ih0:=spec_l17Pass.mono_l k
 exact ih0 a0 a1 a2
def spec_l17Pass.T9:Bool × List (List Nat × List Nat):=(true,[([],[]),([0],[0]),([],[]),([2],[2]),([3],[3]),([],[]),([5],[5]),([6],[6]),([7],[7]),([8],[8]),([9],[9]),([1,4,10],[1,4,10]),([11,9,0,1,2,3,4,5,6,7,8,9,10,11],[11]),([12,0,1,2,3,4,5,6,7,8,9,10,11,12],[])])
def spec_l17Pass.B9:List Nat:=[0,1,0,4,12,0,32,96,224,480,992,2047,4095,8191]
theorem spec_l17Pass.tab9:rtab .any (opsOf Try.f50 9) = spec_l17Pass.T9:=by kernel_rfl
theorem spec_l17Pass.bits9:waitsOk spec_l17Pass.T9.2 spec_l17Pass.B9 = true:=by kernel_rfl
def spec_l17Pass.T12:Bool × List (List Nat × List Nat):=(true,[([],[]),([0],[0]),([1],[1]),([2],[2]),([3,2],[2,3]),([2,4],[2,4]),([5,2],[5]),([6],[6]),([7,6],[6,7]),([8,6],[6,8]),([9,6,6],[6,9]),([10],[10]),([11,10],[10,11]),([12,10],[10,12]),([13,10],[10,13]),([10],[10]),([15,10],[10,15]),([16,10],[10,16]),([17,10],[10,17]),([14,18,10,10],[10,14,18]),([10,19,6],[6,10,19]),([6,20],[6,20])])
def spec_l17Pass.B12:List Nat:=[0,1,3,7,15,31,63,127,255,511,1023,2047,4095,8191,16383,2047,34815,100351,231423,524287,1048575,2097151]
theorem spec_l17Pass.tab12:rtab .any (opsOf Try.f50 12) = spec_l17Pass.T12:=by kernel_rfl
theorem spec_l17Pass.bits12:waitsOk spec_l17Pass.T12.2 spec_l17Pass.B12 = true:=by kernel_rfl
set_option maxHeartbeats 8000000 in
set_option maxRecDepth 100000 in
theorem spec_l17Pass.calls (k:Nat):∀ (a0_0:Int) (a0_1:Int) (A0_2:Option Addr) (c0_2:Nat) (l0_2:List (S29)) (r1:Int) (r2:Int) (r3:List (S29)) (r4:Bool) (w:World) (hr0_2:Kd.C k29 w A0_2 l0_2.length l0_2) (hc0_2:l0_2.length ≤ c0_2) (h:spec_l17Pass.f k a0_0 a0_1 l0_2 = some (r1,r2,r3,r4)),
  Calls Try.prog 50 #[.agg #[.int .i64 a0_0,.int .i64 a0_1,.slice A0_2 l0_2.length c0_2]] w fun e w'=>∃ v2_:Value,e = .returned (.tuple #[.agg #[.int .i64 r1,.int .i64 r2,v2_],.bool r4])∧Kd.N k29 29 w' w.heap.size (fun k_=>(w.heap.size ≤ k_)) v2_ r3∧Below w.heap.size w w':=by
 induction k using Nat.strongRecOn with
 | _ k ih =>
 intro a0_0 a0_1 A0_2 c0_2 l0_2 r1 r2 r3 r4 w hr0_2 hc0_2 h
 cases k with
 | zero=>exact absurd h (by simp [spec_l17Pass.f])
 | succ k =>
 simp only [spec_l17Pass.f] at h
 have hu29:=Try.underlying29
 have ZV:=aQ hr0_2
 have Xu:=aQ hc0_2
 clear hr0_2 hc0_2
 have HB:=aQ (Below.refl w.heap.size w)
 have H:=h
 clear h
 by_cases c2:a0_0 = 0
 ·rw [if_pos c2] at H
  have c2b0:(a0_0 == 0) = true:=beq_iff_eq.mpr c2
  have c2b1:(a0_0 != 0) = false:=bne_eq_false_iff_eq.mpr c2
  clear c2
  simp only [Option.some.injEq,Prod.mk.injEq] at H
  obtain ⟨rfl,rfl,rfl,rfl⟩:=H
  go_enter Try.func50,Try.ntmps50
  go_wp2_with (first | ((with_reducible refine gate_dst (N:=1) rfl ?_);refine box1 (N:=1) (cs:=#[.int .i64 a0_0,.int .i64 a0_1,.slice A0_2 l0_2.length c0_2]) (t:=29) ?_;intro Zg hg w3 hbox hb;have Za:=aQ (hbox);have ZW:=aQ (gB:w.heap.size ≤ Zg);have YF:=ZW;replace HB:=aQ (below_step bB hb);clear hb hbox hg) | ((with_reducible refine gate_dst (N:=2) rfl ?_);refine box1 (N:=2) (cs:=#[.int .i64 0,.int .i64 0,.slice none 0 0]) (t:=29) ?_;intro Zd hg w4 hbox hb;have Ze:=aQ (hbox);have Zo:=aQ (gB:w.heap.size ≤ Zd);have YG:=Zo;replace HB:=aQ (below_step bB hb);have Zh:=aQ ((by rw [hg];exact Nat.ne_of_lt (blk_lt (nB Za.out)):Zg ≠ Zd));have Zq:=aQ Zh.out.symm;replace Za:=aQ (blk_below (nB Za.out) hb);clear hb hbox hg;have Rv:=Zh.out;have Rw:=Zq.out;obtain ⟨TU,TV,TW,TX,TY,TZ⟩:=cz3 Za.out;obtain ⟨Sa,Sb,Sc,Sd,Se,Sf⟩:=cz3 Ze.out))
  refine bodyPost_ret (results_ct rfl _ _ Zd 29 #[.int .i64 0,.int .i64 0,.slice none 0 0] (0,0) _ rfl bP Try.underlying29 rfl (by kernel_rfl)) rfl ?_
  exact ⟨_,rfl,by first | exact Kd.R_nil _ _ _ _ _ | exact Kd.N_nil _ _ _ _ _ | exact Kd.V_nil _ _ _ _ _ | exact Kd.Q_nil _ _ _ _ _ | exact Kd.S_nil _ _ _ _ _,bB⟩
 rw [if_neg c2] at H
 have c2b0:(a0_0 == 0) = false:=beq_eq_false_iff_ne.mpr c2
 have c2b1:(a0_0 != 0) = true:=bne_iff_ne.mpr c2
 by_cases c8:a0_0 = 1
 ·rw [if_pos c8] at H
  have c8b0:(a0_0 == 1) = true:=beq_iff_eq.mpr c8
  have c8b1:(a0_0 != 1) = false:=bne_eq_false_iff_eq.mpr c8
  clear c8
  obtain ⟨⟨t521,t522,t523⟩,A9,H⟩:=bQ H
  dsimp only at H
  simp only [Option.some.injEq,Prod.mk.injEq] at H
  obtain ⟨rfl,rfl,rfl,rfl⟩:=H
  go_enter Try.func50,Try.ntmps50
  try go_wp2_with (first | ((with_reducible refine gate_dst (N:=1) rfl ?_);refine box1 (N:=1) (cs:=#[.int .i64 a0_0,.int .i64 a0_1,.slice A0_2 l0_2.length c0_2]) (t:=29) ?_;intro Zg hg w10 hbox hb;have Za:=aQ (hbox);have ZW:=aQ (gB:w.heap.size ≤ Zg);have YF:=ZW;replace HB:=aQ (below_step bB hb);clear hb hbox hg) | ((with_reducible refine gate_dst (N:=2) rfl ?_);refine box1 (N:=2) (cs:=#[.int .i64 0,.int .i64 0,.slice none 0 0]) (t:=29) ?_;intro Zd hg w11 hbox hb;have Ze:=aQ (hbox);have Zo:=aQ (gB:w.heap.size ≤ Zd);have YG:=Zo;replace HB:=aQ (below_step bB hb);have Zh:=aQ ((by rw [hg];exact Nat.ne_of_lt (blk_lt (nB Za.out)):Zg ≠ Zd));have Zq:=aQ Zh.out.symm;replace Za:=aQ (blk_below (nB Za.out) hb);clear hb hbox hg;have SQ:=Zh.out;have SR:=Zq.out;obtain ⟨Uo,Up,Uq,Ur,Us,Ut⟩:=cz3 Za.out))
  replace Za:=aQ (blk_drew Za.out)
  replace Ze:=aQ (blk_drew Ze.out)
  replace HB:=aQ (below_drew1 HB.out)
  refine start_ (n:=7) (S:=fun w'=>w'.cell? ⟨Zg,0,none⟩ = some (.int .i64 a0_0)∧w'.cell? ⟨Zg,1,none⟩ = some (.int .i64 a0_1)∧w'.cell? ⟨Zg,2,none⟩ = some (.slice A0_2 l0_2.length c0_2)) (ds:=[]) (bn 7 0) (by kernel_rfl) rfl rfl ⟨(blk_cell Za.out 0).trans rfl,(blk_cell Za.out 1).trans rfl,(blk_cell Za.out 2).trans rfl⟩ (fun hHeld=>?_)
  generalize w11.drew = w14 at Za Ze HB hHeld ⊢
  refine pur (i:=2) (N:=some 17) (bn 7 4) ?_
  refine tak (i:=0) (N:=some 15) (bn 7 5) ?_
  refine tak (i:=3) (N:=some 18) (bn 7 13) ?_
  refine pur (i:=4) (N:=some 19) (bn 7 29) ?_
  refine one_ (i:=1) (N:=some 16) (bn 7 31) rfl rfl (by kernel_rfl) (by decide) (fun K hK=>?_)
  refine goes1 Try.func52 #[.agg #[.int .i64 a0_0,.int .i64 a0_1,.slice A0_2 l0_2.length c0_2]] ?_
  with_reducible refine (spec_l17Copy.calls k a0_0 a0_1 _ _ l0_2 t521 t522 t523 _ ?Zu ?Zv A9.out).mono ?_
  (case Zu=>repeat (first | exact (Kd.C_below ZV.out HB.out) | (with_reducible refine Kd.C_alloc ?_ _) | (with_reducible refine Kd.C_drewN ?_ _) | (with_reducible refine Kd.C_drew ?_)))
  (case Zv=>exact Xu.out)
  rintro e w15 ⟨v524,rfl,ho0,hb⟩
  refine ⟨_,rfl,?_⟩
  have Xg:=aQ (Kd.N_lower (Kd.N_mono (ok':=fun k_=>(w.heap.size ≤ k_)∧k_ ≠ Zg∧k_ ≠ Zd) ho0 (fun k_ hk_=>⟨(Nat.le_trans (below_size bB) hk_),(Kd.freshB (nB Za.out) k_ hk_),(Kd.freshB (nB Ze.out) k_ hk_)⟩)) (below_size bB))
  replace Za:=aQ (blk_below (nB Za.out) hb)
  replace Ze:=aQ (blk_below (nB Ze.out) hb)
  replace HB:=aQ (below_step bB hb)
  (try clear hb)
  (try clear ho0)
  obtain ⟨XH,XI,Xp⟩:=Kd.N_slice Xg.out
  (first | subst Xp | (injection Xp with f1_ f2_ f3_;have f4_:=f1_.symm;have f5_:=f3_.symm;clear f1_ f2_ f3_;subst f4_;subst f5_))
  refine hK.out _ _ ⟨(blk_cell Za.out 0).trans rfl,(blk_cell Za.out 1).trans rfl,(blk_cell Za.out 2).trans rfl⟩ (fun hHeld=>?_)
  clear hK K
  refine nrm (N:=some 16) ?_
  refine one_ (i:=5) (N:=none) (bn 7 63) rfl rfl (by kernel_rfl) (by decide) (fun K hK=>?_)
  have hs16:w15.cell? ⟨Zd,0,none⟩ = some (.int .i64 0):=(blk_cell Ze.out 0).trans rfl
  have hfs16:=blk_frozen Ze.out 0
  have hns16_0:=Zh.out
  have hms16_0:=Zq.out
  have hs17:w15.cell? ⟨Zd,1,none⟩ = some (.int .i64 0):=(blk_cell Ze.out 1).trans rfl
  have hfs17:=blk_frozen Ze.out 1
  have hns17_0:=Zh.out
  have hms17_0:=Zq.out
  have hs19:w15.cell? ⟨Zd,2,none⟩ = some (.slice none 0 0):=(blk_cell Ze.out 2).trans rfl
  have hfs19:=blk_frozen Ze.out 2
  have hns19_0:=Zh.out
  have hms19_0:=Zq.out
  refine skip_ (w1:=?_) (by rfl) rfl ?_ ?_
  rotate_left
  ·go_simp
   rfl
  refine hK.out _ _ ⟨((cell_far (p:=⟨Zd,_,none⟩) Zh.out _).trans (((cell_far (p:=⟨Zd,_,none⟩) Zh.out _).trans (((cell_far (p:=⟨Zd,_,none⟩) Zh.out _).trans (hHeld.1)))))),((cell_far (p:=⟨Zd,_,none⟩) Zh.out _).trans (((cell_far (p:=⟨Zd,_,none⟩) Zh.out _).trans (((cell_far (p:=⟨Zd,_,none⟩) Zh.out _).trans (hHeld.2.1)))))),((cell_far (p:=⟨Zd,_,none⟩) Zh.out _).trans (((cell_far (p:=⟨Zd,_,none⟩) Zh.out _).trans (((cell_far (p:=⟨Zd,_,none⟩) Zh.out _).trans (hHeld.2.2))))))⟩ (fun hHeld=>?_)
  clear hK K
  refine pur (i:=6) (N:=some 3) (bn 7 127) ?_
  refine done_ (by kernel_rfl) ?_
  try go_wp2
  refine bodyPost_ret (results_ct rfl _ _ Zd 29 #[.int .i64 t521,.int .i64 t522,.slice XH t523.length XI] (0,0) _ rfl bP Try.underlying29 rfl (by kernel_rfl)) rfl ?_
  exact ⟨_,rfl,by (with_reducible repeat (first | apply Kd.N_alloc | apply Kd.N_drewN | apply Kd.N_drew));exact Kd.N_mono (nFN (g:=Zd) Xg.out (fun k_ hk=>hk.2.2)) (fun _ hk=>hk.1),bB⟩
 rw [if_neg c8] at H
 have c8b0:(a0_0 == 1) = false:=beq_eq_false_iff_ne.mpr c8
 have c8b1:(a0_0 != 1) = true:=bne_iff_ne.mpr c8
 by_cases c20:a0_0 = 2
 ·rw [if_pos c20] at H
  have c20b0:(a0_0 == 2) = true:=beq_iff_eq.mpr c20
  have c20b1:(a0_0 != 2) = false:=bne_eq_false_iff_eq.mpr c20
  clear c20
  by_cases c21:a0_1 = 1
  ·rw [if_pos c21] at H
   have c21b0:(a0_1 == 1) = true:=beq_iff_eq.mpr c21
   have c21b1:(a0_1 != 1) = false:=bne_eq_false_iff_eq.mpr c21
   clear c21
   by_cases c22:0 < (l0_2.length:Int);rotate_left
   ·rw [if_neg c22] at H
    exact absurd H (by simp)
   rw [if_pos c22] at H
   have c22b0:decide (0 < (l0_2.length:Int)) = true:=decide_eq_true c22
   have c22b1:decide (0 < l0_2.length) = true:=decide_eq_true (by omega)
   clear c22
   obtain ⟨⟨t527,t528,t529⟩,A23,H⟩:=bQ H
   dsimp only at H
   simp only [Option.some.injEq,Prod.mk.injEq] at H
   obtain ⟨rfl,rfl,rfl,rfl⟩:=H
   go_enter Try.func50,Try.ntmps50
   go_wp2_with (first | ((with_reducible refine gate_dst (N:=1) rfl ?_);refine box1 (N:=1) (cs:=#[.int .i64 a0_0,.int .i64 a0_1,.slice A0_2 l0_2.length c0_2]) (t:=29) ?_;intro Zg hg w24 hbox hb;have Za:=aQ (hbox);have ZW:=aQ (gB:w.heap.size ≤ Zg);have YF:=ZW;replace HB:=aQ (below_step bB hb);clear hb hbox hg) | ((with_reducible refine gate_dst (N:=2) rfl ?_);refine box1 (N:=2) (cs:=#[.int .i64 0,.int .i64 0,.slice none 0 0]) (t:=29) ?_;intro Zd hg w25 hbox hb;have Ze:=aQ (hbox);have Zo:=aQ (gB:w.heap.size ≤ Zd);have YG:=Zo;replace HB:=aQ (below_step bB hb);have Zh:=aQ ((by rw [hg];exact Nat.ne_of_lt (blk_lt (nB Za.out)):Zg ≠ Zd));have Zq:=aQ Zh.out.symm;replace Za:=aQ (blk_below (nB Za.out) hb);clear hb hbox hg;have SS:=Zh.out;have ST:=Zq.out;obtain ⟨Uu,Uv,Uw,Ux,Uy,Uz⟩:=cz3 Za.out;have p526:0 ≤ (0:Int):=(by omega);have q526:0 < (l0_2.length:Int):=of_decide_eq_true (by first | (with_reducible assumption) | assumption);obtain ⟨SU,A526_2,c526_2,e526,YH,YI,YJ,YW,YX⟩:=at_T29 ZV.out 0 p526 q526;cases e526;have qi526:(0 < l0_2.length) = True:=eq_true (by omega);(try rw [show ((0:Int)).toNat = 0 from rfl,show 0 * 3 = 0 from rfl] at YH YI YJ);(try rw [Addr.add_zero'] at YH);(try rw [Addr.add_zero'] at YI);(try rw [Addr.add_zero'] at YJ);replace YH:=(HB.out.cell (World.block_lt_of_cell? w _ YH)).trans YH;replace YI:=(HB.out.cell (World.block_lt_of_cell? w _ YI)).trans YI;replace YJ:=(HB.out.cell (World.block_lt_of_cell? w _ YJ)).trans YJ;have Xm:=aQ YX;have Xn:=aQ YW;clear YX YW;replace p526:=eq_true p526;replace q526:=eq_true q526) | ((with_reducible refine gate_callee (f:=52) rfl ?_);refine goesL_ (some 29) rfl rfl Try.func52 (by kernel_rfl) rfl #[.agg #[.int .i64 ((rd_T29 l0_2 0).f0),.int .i64 ((rd_T29 l0_2 0).f1),.slice A526_2 ((rd_T29 l0_2 0).f2).length c526_2]] rfl mP ?_;(with_reducible refine (spec_l17Copy.calls k ((rd_T29 l0_2 0).f0) ((rd_T29 l0_2 0).f1) _ _ ((rd_T29 l0_2 0).f2) t527 t528 t529 _ ?Zu ?Zv A23.out).mono ?_);(case Zu=>repeat (first | exact (Kd.C_below Xm.out HB.out) | (with_reducible refine Kd.C_alloc ?_ _) | (with_reducible refine Kd.C_drewN ?_ _) | (with_reducible refine Kd.C_drew ?_)));(case Zv=>exact Xn.out);rintro e w28 ⟨v530,rfl,ho0,hb⟩;refine ⟨_,rfl,?_⟩;have Xh:=aQ (Kd.N_lower (Kd.N_mono (ok':=fun k_=>(w.heap.size ≤ k_)∧k_ ≠ Zg∧k_ ≠ Zd) ho0 (fun k_ hk_=>⟨(Nat.le_trans (below_size bB) hk_),(Kd.freshB (nB Za.out) k_ hk_),(Kd.freshB (nB Ze.out) k_ hk_)⟩)) (below_size bB));replace Za:=aQ (blk_below (nB Za.out) hb);replace Ze:=aQ (blk_below (nB Ze.out) hb);replace HB:=aQ (below_step bB hb);(try clear hb);(try clear ho0);obtain ⟨UA,UB,UC,UD,UE,UF⟩:=cz3 Ze.out;obtain ⟨XJ,XK,XL⟩:=Kd.N_slice Xh.out;subst XL))
   refine bodyPost_ret (results_ct rfl _ _ Zd 29 #[.int .i64 t527,.int .i64 t528,.slice XJ t529.length XK] (0,0) _ rfl bP Try.underlying29 rfl (by kernel_rfl)) rfl ?_
   exact ⟨_,rfl,by (with_reducible repeat (first | apply Kd.N_alloc | apply Kd.N_drewN | apply Kd.N_drew));exact Kd.N_mono (nFN (g:=Zd) Xh.out (fun k_ hk=>hk.2.2)) (fun _ hk=>hk.1),bB⟩
  rw [if_neg c21] at H
  have c21b0:(a0_1 == 1) = false:=beq_eq_false_iff_ne.mpr c21
  have c21b1:(a0_1 != 1) = true:=bne_iff_ne.mpr c21
  by_cases c31:0 < (l0_2.length:Int);rotate_left
  ·rw [if_neg c31] at H
   exact absurd H (by simp)
  rw [if_pos c31] at H
  have c31b0:decide (0 < (l0_2.length:Int)) = true:=decide_eq_true c31
  have c31b1:decide (0 < l0_2.length) = true:=decide_eq_true (by omega)
  clear c31
  obtain ⟨⟨t533,t534,t535⟩,A32,H⟩:=bQ H
  dsimp only at H
  obtain ⟨y538,Xb⟩:∃ y_:List (S29),y_ = (([(⟨t533,t534,t535⟩:S29)]:List (S29))):=⟨_,rfl⟩
  replace H:(some (a0_0,wrap64 (a0_1 - 1),y538,true)) = some (r1,r2,r3,r4):=by rw [Xb];exact H
  have Xi:=aQ Xb
  clear Xb
  simp only [Option.some.injEq,Prod.mk.injEq] at H
  obtain ⟨rfl,rfl,rfl,rfl⟩:=H
  go_enter Try.func50,Try.ntmps50
  try go_wp2_with (first | ((with_reducible refine gate_dst (N:=1) rfl ?_);refine box1 (N:=1) (cs:=#[.int .i64 a0_0,.int .i64 a0_1,.slice A0_2 l0_2.length c0_2]) (t:=29) ?_;intro Zg hg w33 hbox hb;have Za:=aQ (hbox);have ZW:=aQ (gB:w.heap.size ≤ Zg);have YF:=ZW;replace HB:=aQ (below_step bB hb);clear hb hbox hg) | ((with_reducible refine gate_dst (N:=2) rfl ?_);refine box1 (N:=2) (cs:=#[.int .i64 0,.int .i64 0,.slice none 0 0]) (t:=29) ?_;intro Zd hg w34 hbox hb;have Ze:=aQ (hbox);have Zo:=aQ (gB:w.heap.size ≤ Zd);have YG:=Zo;replace HB:=aQ (below_step bB hb);have Zh:=aQ ((by rw [hg];exact Nat.ne_of_lt (blk_lt (nB Za.out)):Zg ≠ Zd));have Zq:=aQ Zh.out.symm;replace Za:=aQ (blk_below (nB Za.out) hb);clear hb hbox hg;have SV:=Zh.out;have SW:=Zq.out;obtain ⟨UG,UH,UI,UJ,UK,UL⟩:=cz3 Za.out))
  replace Za:=aQ (blk_drew Za.out)
  replace Ze:=aQ (blk_drew Ze.out)
  replace HB:=aQ (below_drew1 HB.out)
  have p532:0 ≤ (0:Int):=(by omega)
  have q532:0 < (l0_2.length:Int):=of_decide_eq_true (by first | (with_reducible assumption) | assumption)
  obtain ⟨YQ,A532_2,c532_2,e532,Ys,Yt,Yu,YY,YZ⟩:=at_T29 ZV.out 0 p532 q532
  have Zw:=Yu
  (try rw [show ((0:Int)).toNat = 0 from rfl] at Zw)
  (try rw [show 0 * 3 = 0 from rfl] at Zw)
  (try rw [Addr.add_zero'] at Zw)
  have Zx:=Yt
  (try rw [show ((0:Int)).toNat = 0 from rfl] at Zx)
  (try rw [show 0 * 3 = 0 from rfl] at Zx)
  (try rw [Addr.add_zero'] at Zx)
  have Zy:=Ys
  (try rw [show ((0:Int)).toNat = 0 from rfl] at Zy)
  (try rw [show 0 * 3 = 0 from rfl] at Zy)
  (try rw [Addr.add_zero'] at Zy)
  cases e532
  have qi532:(0 < l0_2.length) = True:=eq_true (by omega)
  (try rw [show ((0:Int)).toNat = 0 from rfl,show 0 * 3 = 0 from rfl] at Ys Yt Yu)
  (try rw [Addr.add_zero'] at Ys)
  (try rw [Addr.add_zero'] at Yt)
  (try rw [Addr.add_zero'] at Yu)
  replace Ys:=(HB.out.cell (World.block_lt_of_cell? w _ Ys)).trans Ys
  replace Yt:=(HB.out.cell (World.block_lt_of_cell? w _ Yt)).trans Yt
  replace Yu:=(HB.out.cell (World.block_lt_of_cell? w _ Yu)).trans Yu
  have Xa:=aQ YZ
  have Xo:=aQ YY
  clear YZ YY
  replace p532:=eq_true p532
  replace q532:=eq_true q532
  refine start_ (n:=14) (S:=fun w'=>w'.cell? ⟨Zg,0,none⟩ = some (.int .i64 a0_0)∧w'.cell? ⟨Zg,1,none⟩ = some (.int .i64 a0_1)∧w'.cell? ⟨Zg,2,none⟩ = some (.slice (some YQ) l0_2.length c0_2)∧w'.cell? YQ = some (.int .i64 ((rd_T29 l0_2 0).f0))∧w'.cell? ⟨YQ.block,YQ.off + 1,none⟩ = some (.int .i64 ((rd_T29 l0_2 0).f1))∧w'.cell? ⟨YQ.block,YQ.off + 2,none⟩ = some (.slice A532_2 ((rd_T29 l0_2 0).f2).length c532_2)) (ds:=[]) (bn 14 0) (by kernel_rfl) rfl rfl ⟨(blk_cell Za.out 0).trans rfl,(blk_cell Za.out 1).trans rfl,(blk_cell Za.out 2).trans rfl,((HB.out.cell (World.block_lt_of_cell? w _ Zy)).trans Zy),((HB.out.cell (World.block_lt_of_cell? w _ Zx)).trans Zx),((HB.out.cell (World.block_lt_of_cell? w _ Zw)).trans Zw)⟩ (fun hHeld=>?_);refine with_tabW spec_l17Pass.tab9 spec_l17Pass.bits9 (fun HT_ HW_=>?_)
  generalize w34.drew = w37 at Za Ze HB Xa Ys Yt Yu hHeld ⊢
  refine pur (i:=0) (N:=some 30) (bn 14 1) ?_
  refine pur (i:=2) (N:=some 32) (bn 14 5) ?_
  refine pur (i:=5) (N:=some 35) (bn 14 37) ?_
  refine tak (i:=1) (N:=some 31) (bn 14 39) ?_
  refine tak (i:=3) (N:=some 33) (bn 14 47) ?_
  refine pur (i:=4) (N:=some 34) (bn 14 63) ?_
  refine tak (i:=6) (N:=some 36) (bn 14 127) ?_
  refine pur (i:=7) (N:=some 37) (bn 14 255) ?_
  refine tak (i:=8) (N:=some 38) (bn 14 511) ?_
  refine one_ (i:=9) (N:=some 39) (bn 14 1023) rfl rfl (one_of HT_.out (by kernel_rfl)) (by decide) (fun K hK=>?_)
  refine goes1 Try.func52 #[.agg #[.int .i64 ((rd_T29 l0_2 0).f0),.int .i64 ((rd_T29 l0_2 0).f1),.slice A532_2 ((rd_T29 l0_2 0).f2).length c532_2]] ?_
  with_reducible refine (spec_l17Copy.calls k ((rd_T29 l0_2 0).f0) ((rd_T29 l0_2 0).f1) _ _ ((rd_T29 l0_2 0).f2) t533 t534 t535 _ ?Zu ?Zv A32.out).mono ?_
  (case Zu=>repeat (first | exact (Kd.C_below Xa.out HB.out) | (with_reducible refine Kd.C_alloc ?_ _) | (with_reducible refine Kd.C_drewN ?_ _) | (with_reducible refine Kd.C_drew ?_)))
  (case Zv=>exact Xo.out)
  rintro e w38 ⟨v536,rfl,ho0,hb⟩
  refine ⟨_,rfl,?_⟩
  have YT:=aQ (Kd.N_lower (Kd.N_mono (ok':=fun k_=>(w.heap.size ≤ k_)∧k_ ≠ Zg∧k_ ≠ Zd) ho0 (fun k_ hk_=>⟨(Nat.le_trans (below_size bB) hk_),(Kd.freshB (nB Za.out) k_ hk_),(Kd.freshB (nB Ze.out) k_ hk_)⟩)) (below_size bB))
  replace Za:=aQ (blk_below (nB Za.out) hb)
  replace Ze:=aQ (blk_below (nB Ze.out) hb)
  replace HB:=aQ (below_step bB hb)
  (try clear hb)
  (try clear ho0)
  obtain ⟨Xq,Xr,Xs⟩:=Kd.N_slice YT.out
  (first | subst Xs | (injection Xs with f1_ f2_ f3_;have f4_:=f1_.symm;have f5_:=f3_.symm;clear f1_ f2_ f3_;subst f4_;subst f5_))
  refine hK.out _ _ ⟨(blk_cell Za.out 0).trans rfl,(blk_cell Za.out 1).trans rfl,(blk_cell Za.out 2).trans rfl,((HB.out.cell (World.block_lt_of_cell? w _ Zy)).trans Zy),((HB.out.cell (World.block_lt_of_cell? w _ Zx)).trans Zx),((HB.out.cell (World.block_lt_of_cell? w _ Zw)).trans Zw)⟩ (fun hHeld=>?_)
  clear hK K
  refine nrm (N:=some 39) ?_
  refine one_ (i:=10) (N:=some 40) (bn 14 2047) rfl rfl (one_of HT_.out (by kernel_rfl)) (by decide) (fun K hK=>?_)
  refine Kd.N_lit_step k29 _ 29 ?hg (N':=40) ?hd (xs:=([(⟨t533,t534,t535⟩:S29)]:List (S29))) (inner:=[.int .i64 t533,.int .i64 t534,.slice Xq t535.length Xr]) (ok:=(fun k_=>(w.heap.size ≤ k_)∧k_ ≠ Zg∧k_ ≠ Zd)) (okp:=(fun k_=>(w.heap.size ≤ k_)∧k_ ≠ Zg∧k_ ≠ Zd)) ?hr ?hp (fun _ hk=>hk) ((show ∀ k_,w38.heap.size ≤ k_ → (fun k_=>(w.heap.size ≤ k_)∧k_ ≠ Zg∧k_ ≠ Zd) k_ from fun k_ hk=>⟨(Nat.le_trans (below_size bB) hk),Kd.freshB (nB Za.out) k_ hk,Kd.freshB (nB Ze.out) k_ hk⟩) _ (Nat.le_refl _)) (Below.refl _ _) (Nat.le_refl _) (by simp) ?_;(case hd=>rfl);(case hg=>rfl);(case hr=>first | (go_simp;done) | (go_simp;rfl));(case hp=>exact (Reps.c3 (show Kd.FK k29 _ _ (⟨t533,t534,t535⟩:S29) [.int .i64 t533,.int .i64 t534,.slice Xq t535.length Xr] from (k29_mkF _ _ (⟨t533,t534,t535⟩:S29) (Kd.N_reads' (Kd.N_mono (ok':=(fun k_=>(w.heap.size ≤ k_)∧k_ ≠ Zg∧k_ ≠ Zd)) (YT.out) (fun k_ hk=>⟨hk.1,⟨hk.2.1,hk.2.2⟩⟩))).2.1 (Kd.N_F (Kd.N_mono (ok':=(fun k_=>(w.heap.size ≤ k_)∧k_ ≠ Zg∧k_ ≠ Zd)) (YT.out) (fun k_ hk=>⟨hk.1,⟨hk.2.1,hk.2.2⟩⟩))))) (Reps.none _ _)))
  intro v539 w40 ho41 hb hg_ hnew_
  clear hg_ hnew_
  (first | rw [← Xi.out] at ho41 | (simp only [Int.reduceToNat] at ho41;rw [← Xi.out] at ho41))
  have n0_:=aQ (Kd.N_lower ho41 (below_size bB))
  have n1_:=aQ (blk_below (nB Za.out) hb)
  have n2_:=aQ (blk_below (nB Ze.out) hb)
  have n3_:=aQ (below_step bB hb)
  clear Za Ze HB YT
  have Xj:=n0_
  have Za:=n1_
  have Ze:=n2_
  have HB:=n3_
  clear n0_ n1_ n2_ n3_
  clear hb ho41
  obtain ⟨XM,XN,Xt⟩:=Kd.N_slice Xj.out
  (first | subst Xt | (injection Xt with f1_ f2_ f3_;have f4_:=f1_.symm;have f5_:=f3_.symm;clear f1_ f2_ f3_;subst f4_;subst f5_))
  refine hK.out _ _ ⟨(blk_cell Za.out 0).trans rfl,(blk_cell Za.out 1).trans rfl,(blk_cell Za.out 2).trans rfl,((HB.out.cell (World.block_lt_of_cell? w _ Zy)).trans Zy),((HB.out.cell (World.block_lt_of_cell? w _ Zx)).trans Zx),((HB.out.cell (World.block_lt_of_cell? w _ Zw)).trans Zw)⟩ (fun hHeld=>?_)
  clear hK K
  refine nrm (N:=some 40) ?_
  refine pur (i:=11) (N:=some 41) (bn 14 4095) ?_
  refine one_ (i:=12) (N:=none) (bn 14 8191) rfl rfl (one_of HT_.out (by kernel_rfl)) (by decide) (fun K hK=>?_)
  have hs43:w40.cell? ⟨Zd,0,none⟩ = some (.int .i64 0):=(blk_cell Ze.out 0).trans rfl
  have hfs43:=blk_frozen Ze.out 0
  have hns43_0:=Zh.out
  have hms43_0:=Zq.out
  have hs44:w40.cell? ⟨Zd,1,none⟩ = some (.int .i64 0):=(blk_cell Ze.out 1).trans rfl
  have hfs44:=blk_frozen Ze.out 1
  have hns44_0:=Zh.out
  have hms44_0:=Zq.out
  have hs45:w40.cell? ⟨Zd,2,none⟩ = some (.slice none 0 0):=(blk_cell Ze.out 2).trans rfl
  have hfs45:=blk_frozen Ze.out 2
  have hns45_0:=Zh.out
  have hms45_0:=Zq.out
  refine skip_ (w1:=?_) (by rfl) rfl ?_ ?_
  rotate_left
  ·go_simp
   rfl
  refine hK.out _ _ ⟨((cell_far (p:=⟨Zd,_,none⟩) Zh.out _).trans (((cell_far (p:=⟨Zd,_,none⟩) Zh.out _).trans (((cell_far (p:=⟨Zd,_,none⟩) Zh.out _).trans (hHeld.1)))))),((cell_far (p:=⟨Zd,_,none⟩) Zh.out _).trans (((cell_far (p:=⟨Zd,_,none⟩) Zh.out _).trans (((cell_far (p:=⟨Zd,_,none⟩) Zh.out _).trans (hHeld.2.1)))))),((cell_far (p:=⟨Zd,_,none⟩) Zh.out _).trans (((cell_far (p:=⟨Zd,_,none⟩) Zh.out _).trans (((cell_far (p:=⟨Zd,_,none⟩) Zh.out _).trans (hHeld.2.2.1)))))),((cell_far (p:=⟨Zd,_,none⟩) (by first | exact Nat.ne_of_lt (Nat.lt_of_lt_of_le (by have:=World.block_lt_of_cell? _ _ Zy;first | rwa [add_block] at this | exact this) Zo.out) | (rw [add_block];exact Nat.ne_of_lt (Nat.lt_of_lt_of_le (by have:=World.block_lt_of_cell? _ _ Zy;first | rwa [add_block] at this | exact this) Zo.out)) | (show (Addr.add _ _).block ≠ _;rw [add_block];exact Nat.ne_of_lt (Nat.lt_of_lt_of_le (by have:=World.block_lt_of_cell? _ _ Zy;first | rwa [add_block] at this | exact this) Zo.out)) | (dsimp only;exact Nat.ne_of_lt (Nat.lt_of_lt_of_le (by have:=World.block_lt_of_cell? _ _ Zy;first | rwa [add_block] at this | exact this) Zo.out))) _).trans (((cell_far (p:=⟨Zd,_,none⟩) (by first | exact Nat.ne_of_lt (Nat.lt_of_lt_of_le (by have:=World.block_lt_of_cell? _ _ Zy;first | rwa [add_block] at this | exact this) Zo.out) | (rw [add_block];exact Nat.ne_of_lt (Nat.lt_of_lt_of_le (by have:=World.block_lt_of_cell? _ _ Zy;first | rwa [add_block] at this | exact this) Zo.out)) | (show (Addr.add _ _).block ≠ _;rw [add_block];exact Nat.ne_of_lt (Nat.lt_of_lt_of_le (by have:=World.block_lt_of_cell? _ _ Zy;first | rwa [add_block] at this | exact this) Zo.out)) | (dsimp only;exact Nat.ne_of_lt (Nat.lt_of_lt_of_le (by have:=World.block_lt_of_cell? _ _ Zy;first | rwa [add_block] at this | exact this) Zo.out))) _).trans (((cell_far (p:=⟨Zd,_,none⟩) (by first | exact Nat.ne_of_lt (Nat.lt_of_lt_of_le (by have:=World.block_lt_of_cell? _ _ Zy;first | rwa [add_block] at this | exact this) Zo.out) | (rw [add_block];exact Nat.ne_of_lt (Nat.lt_of_lt_of_le (by have:=World.block_lt_of_cell? _ _ Zy;first | rwa [add_block] at this | exact this) Zo.out)) | (show (Addr.add _ _).block ≠ _;rw [add_block];exact Nat.ne_of_lt (Nat.lt_of_lt_of_le (by have:=World.block_lt_of_cell? _ _ Zy;first | rwa [add_block] at this | exact this) Zo.out)) | (dsimp only;exact Nat.ne_of_lt (Nat.lt_of_lt_of_le (by have:=World.block_lt_of_cell? _ _ Zy;first | rwa [add_block] at this | exact this) Zo.out))) _).trans (hHeld.2.2.2.1)))))),((cell_far (p:=⟨Zd,_,none⟩) (by first | exact Nat.ne_of_lt (Nat.lt_of_lt_of_le (by have:=World.block_lt_of_cell? _ _ Zx;first | rwa [add_block] at this | exact this) Zo.out) | (rw [add_block];exact Nat.ne_of_lt (Nat.lt_of_lt_of_le (by have:=World.block_lt_of_cell? _ _ Zx;first | rwa [add_block] at this | exact this) Zo.out)) | (show (Addr.add _ _).block ≠ _;rw [add_block];exact Nat.ne_of_lt (Nat.lt_of_lt_of_le (by have:=World.block_lt_of_cell? _ _ Zx;first | rwa [add_block] at this | exact this) Zo.out)) | (dsimp only;exact Nat.ne_of_lt (Nat.lt_of_lt_of_le (by have:=World.block_lt_of_cell? _ _ Zx;first | rwa [add_block] at this | exact this) Zo.out))) _).trans (((cell_far (p:=⟨Zd,_,none⟩) (by first | exact Nat.ne_of_lt (Nat.lt_of_lt_of_le (by have:=World.block_lt_of_cell? _ _ Zx;first | rwa [add_block] at this | exact this) Zo.out) | (rw [add_block];exact Nat.ne_of_lt (Nat.lt_of_lt_of_le (by have:=World.block_lt_of_cell? _ _ Zx;first | rwa [add_block] at this | exact this) Zo.out)) | (show (Addr.add _ _).block ≠ _;rw [add_block];exact Nat.ne_of_lt (Nat.lt_of_lt_of_le (by have:=World.block_lt_of_cell? _ _ Zx;first | rwa [add_block] at this | exact this) Zo.out)) | (dsimp only;exact Nat.ne_of_lt (Nat.lt_of_lt_of_le (by have:=World.block_lt_of_cell? _ _ Zx;first | rwa [add_block] at this | exact this) Zo.out))) _).trans (((cell_far (p:=⟨Zd,_,none⟩) (by first | exact Nat.ne_of_lt (Nat.lt_of_lt_of_le (by have:=World.block_lt_of_cell? _ _ Zx;first | rwa [add_block] at this | exact this) Zo.out) | (rw [add_block];exact Nat.ne_of_lt (Nat.lt_of_lt_of_le (by have:=World.block_lt_of_cell? _ _ Zx;first | rwa [add_block] at this | exact this) Zo.out)) | (show (Addr.add _ _).block ≠ _;rw [add_block];exact Nat.ne_of_lt (Nat.lt_of_lt_of_le (by have:=World.block_lt_of_cell? _ _ Zx;first | rwa [add_block] at this | exact this) Zo.out)) | (dsimp only;exact Nat.ne_of_lt (Nat.lt_of_lt_of_le (by have:=World.block_lt_of_cell? _ _ Zx;first | rwa [add_block] at this | exact this) Zo.out))) _).trans (hHeld.2.2.2.2.1)))))),((cell_far (p:=⟨Zd,_,none⟩) (by first | exact Nat.ne_of_lt (Nat.lt_of_lt_of_le (by have:=World.block_lt_of_cell? _ _ Zw;first | rwa [add_block] at this | exact this) Zo.out) | (rw [add_block];exact Nat.ne_of_lt (Nat.lt_of_lt_of_le (by have:=World.block_lt_of_cell? _ _ Zw;first | rwa [add_block] at this | exact this) Zo.out)) | (show (Addr.add _ _).block ≠ _;rw [add_block];exact Nat.ne_of_lt (Nat.lt_of_lt_of_le (by have:=World.block_lt_of_cell? _ _ Zw;first | rwa [add_block] at this | exact this) Zo.out)) | (dsimp only;exact Nat.ne_of_lt (Nat.lt_of_lt_of_le (by have:=World.block_lt_of_cell? _ _ Zw;first | rwa [add_block] at this | exact this) Zo.out))) _).trans (((cell_far (p:=⟨Zd,_,none⟩) (by first | exact Nat.ne_of_lt (Nat.lt_of_lt_of_le (by have:=World.block_lt_of_cell? _ _ Zw;first | rwa [add_block] at this | exact this) Zo.out) | (rw [add_block];exact Nat.ne_of_lt (Nat.lt_of_lt_of_le (by have:=World.block_lt_of_cell? _ _ Zw;first | rwa [add_block] at this | exact this) Zo.out)) | (show (Addr.add _ _).block ≠ _;rw [add_block];exact Nat.ne_of_lt (Nat.lt_of_lt_of_le (by have:=World.block_lt_of_cell? _ _ Zw;first | rwa [add_block] at this | exact this) Zo.out)) | (dsimp only;exact Nat.ne_of_lt (Nat.lt_of_lt_of_le (by have:=World.block_lt_of_cell? _ _ Zw;first | rwa [add_block] at this | exact this) Zo.out))) _).trans (((cell_far (p:=⟨Zd,_,none⟩) (by first | exact Nat.ne_of_lt (Nat.lt_of_lt_of_le (by have:=World.block_lt_of_cell? _ _ Zw;first | rwa [add_block] at this | exact this) Zo.out) | (rw [add_block];exact Nat.ne_of_lt (Nat.lt_of_lt_of_le (by have:=World.block_lt_of_cell? _ _ Zw;first | rwa [add_block] at this | exact this) Zo.out)) | (show (Addr.add _ _).block ≠ _;rw [add_block];exact Nat.ne_of_lt (Nat.lt_of_lt_of_le (by have:=World.block_lt_of_cell? _ _ Zw;first | rwa [add_block] at this | exact this) Zo.out)) | (dsimp only;exact Nat.ne_of_lt (Nat.lt_of_lt_of_le (by have:=World.block_lt_of_cell? _ _ Zw;first | rwa [add_block] at this | exact this) Zo.out))) _).trans (hHeld.2.2.2.2.2))))))⟩ (fun hHeld=>?_)
  clear hK K
  refine pur (i:=13) (N:=some 3) (bn 14 16383) ?_
  refine done_ (done_of HT_.out (by kernel_rfl)) ?_
  try go_wp2
  refine bodyPost_ret (results_ct rfl _ _ Zd 29 #[.int .i64 a0_0,.int .i64 (wrap64 (a0_1 - 1)),.slice XM y538.length XN] (0,0) _ rfl bP Try.underlying29 rfl (by kernel_rfl)) rfl ?_
  exact ⟨_,rfl,by (with_reducible repeat (first | apply Kd.N_alloc | apply Kd.N_drewN | apply Kd.N_drew));exact Kd.N_mono (nFN (g:=Zd) Xj.out (fun k_ hk=>hk.2.2)) (fun _ hk=>hk.1),bB⟩
 rw [if_neg c20] at H
 have c20b0:(a0_0 == 2) = false:=beq_eq_false_iff_ne.mpr c20
 have c20b1:(a0_0 != 2) = true:=bne_iff_ne.mpr c20
 by_cases c46:0 < (l0_2.length:Int);rotate_left
 ·rw [if_neg c46] at H
  exact absurd H (by simp)
 rw [if_pos c46] at H
 have c46b0:decide (0 < (l0_2.length:Int)) = true:=decide_eq_true c46
 have c46b1:decide (0 < l0_2.length) = true:=decide_eq_true (by omega)
 clear c46
 obtain ⟨⟨t542,t543,t544,t547⟩,A47,H⟩:=bQ H
 dsimp only at H
 by_cases c48:1 < (l0_2.length:Int);rotate_left
 ·rw [if_neg c48] at H
  exact absurd H (by simp)
 rw [if_pos c48] at H
 have c48b0:decide (1 < (l0_2.length:Int)) = true:=decide_eq_true c48
 have c48b1:decide (1 < l0_2.length) = true:=decide_eq_true (by omega)
 clear c48
 obtain ⟨⟨t550,t551,t552,t555⟩,A49,H⟩:=bQ H
 dsimp only at H
 by_cases c50:t547 = true
 ·subst c50
  have H1:(if t555 = true then (if a0_0 = 4 then ((spec_l17Meet.f k ((rd_T29 l0_2 0).f0) ((rd_T29 l0_2 0).f1) ((rd_T29 l0_2 0).f2) ((rd_T29 l0_2 1).f0) ((rd_T29 l0_2 1).f1) ((rd_T29 l0_2 1).f2)).bind fun t559=>(if t559 = true then (some (0,0,([]:List (S29)),false)) else ((spec_l17Two.f a0_0 t542 t543 t544 t550 t551 t552).bind fun bt560=>(some (bt560.1,bt560.2.1,bt560.2.2,true))))) else ((spec_l17Two.f a0_0 t542 t543 t544 t550 t551 t552).bind fun bt565=>(some (bt565.1,bt565.2.1,bt565.2.2,true)))) else (some (0,0,([]:List (S29)),false))) = some (r1,r2,r3,r4):=by rw [if_pos rfl] at H;exact H
  clear H
  have H:=H1
  clear H1
  by_cases c51:t555 = true
  ·subst c51
   have H1:(if a0_0 = 4 then ((spec_l17Meet.f k ((rd_T29 l0_2 0).f0) ((rd_T29 l0_2 0).f1) ((rd_T29 l0_2 0).f2) ((rd_T29 l0_2 1).f0) ((rd_T29 l0_2 1).f1) ((rd_T29 l0_2 1).f2)).bind fun t559=>(if t559 = true then (some (0,0,([]:List (S29)),false)) else ((spec_l17Two.f a0_0 t542 t543 t544 t550 t551 t552).bind fun bt560=>(some (bt560.1,bt560.2.1,bt560.2.2,true))))) else ((spec_l17Two.f a0_0 t542 t543 t544 t550 t551 t552).bind fun bt565=>(some (bt565.1,bt565.2.1,bt565.2.2,true)))) = some (r1,r2,r3,r4):=by rw [if_pos rfl] at H;exact H
   clear H
   have H:=H1
   clear H1
   by_cases c52:a0_0 = 4;rotate_left
   ·rw [if_neg c52] at H
    have c52b0:(a0_0 == 4) = false:=beq_eq_false_iff_ne.mpr c52
    have c52b1:(a0_0 != 4) = true:=bne_iff_ne.mpr c52
    obtain ⟨⟨t565,t566,t567⟩,A105,H⟩:=bQ H
    dsimp only at H
    simp only [Option.some.injEq,Prod.mk.injEq] at H
    obtain ⟨rfl,rfl,rfl,rfl⟩:=H
    go_enter Try.func50,Try.ntmps50
    try go_wp2_with (first | ((with_reducible refine gate_dst (N:=1) rfl ?_);refine box1 (N:=1) (cs:=#[.int .i64 a0_0,.int .i64 a0_1,.slice A0_2 l0_2.length c0_2]) (t:=29) ?_;intro Zg hg w106 hbox hb;have Za:=aQ (hbox);have ZW:=aQ (gB:w.heap.size ≤ Zg);have YF:=ZW;replace HB:=aQ (below_step bB hb);clear hb hbox hg) | ((with_reducible refine gate_dst (N:=2) rfl ?_);refine box1 (N:=2) (cs:=#[.int .i64 0,.int .i64 0,.slice none 0 0]) (t:=29) ?_;intro Zd hg w107 hbox hb;have Ze:=aQ (hbox);have Zo:=aQ (gB:w.heap.size ≤ Zd);have YG:=Zo;replace HB:=aQ (below_step bB hb);have Zh:=aQ ((by rw [hg];exact Nat.ne_of_lt (blk_lt (nB Za.out)):Zg ≠ Zd));have Zq:=aQ Zh.out.symm;replace Za:=aQ (blk_below (nB Za.out) hb);clear hb hbox hg;have Sg:=Zh.out;have Sh:=Zq.out;obtain ⟨XO,XP,XQ,XR,XS,XT⟩:=cz3 Za.out;have p541:0 ≤ (0:Int):=(by omega);have q541:0 < (l0_2.length:Int):=of_decide_eq_true (by first | (with_reducible assumption) | assumption);obtain ⟨Zl,A541_2,c541_2,e541,Zr,Zs,Zt,ZR,ZS⟩:=at_T29 ZV.out 0 p541 q541;cases e541;have qi541:(0 < l0_2.length) = True:=eq_true (by omega);(try rw [show ((0:Int)).toNat = 0 from rfl,show 0 * 3 = 0 from rfl] at Zr Zs Zt);(try rw [Addr.add_zero'] at Zr);(try rw [Addr.add_zero'] at Zs);(try rw [Addr.add_zero'] at Zt);replace Zr:=(HB.out.cell (World.block_lt_of_cell? w _ Zr)).trans Zr;replace Zs:=(HB.out.cell (World.block_lt_of_cell? w _ Zs)).trans Zs;replace Zt:=(HB.out.cell (World.block_lt_of_cell? w _ Zt)).trans Zt;have Yc:=aQ ZS;have Yd:=aQ ZR;clear ZS ZR;replace p541:=eq_true p541;replace q541:=eq_true q541) | ((with_reducible refine gate_callee (f:=50) rfl ?_);refine goesL_ (some 47) rfl rfl Try.func50 (by kernel_rfl) rfl #[.agg #[.int .i64 ((rd_T29 l0_2 0).f0),.int .i64 ((rd_T29 l0_2 0).f1),.slice A541_2 ((rd_T29 l0_2 0).f2).length c541_2]] rfl mP ?_;(with_reducible refine (ih k (by omega) ((rd_T29 l0_2 0).f0) ((rd_T29 l0_2 0).f1) _ _ ((rd_T29 l0_2 0).f2) t542 t543 t544 true _ ?Zu ?Zv A47.out).mono ?_);(case Zu=>repeat (first | exact (Kd.C_below Yc.out HB.out) | (with_reducible refine Kd.C_alloc ?_ _) | (with_reducible refine Kd.C_drewN ?_ _) | (with_reducible refine Kd.C_drew ?_)));(case Zv=>exact Yd.out);rintro e w110 ⟨v545,rfl,ho0,hb⟩;refine ⟨_,rfl,?_⟩;have Zi:=aQ (Kd.N_lower (Kd.N_mono (ok':=fun k_=>(w.heap.size ≤ k_)∧k_ ≠ Zg∧k_ ≠ Zd) ho0 (fun k_ hk_=>⟨(Nat.le_trans (below_size bB) hk_),(Kd.freshB (nB Za.out) k_ hk_),(Kd.freshB (nB Ze.out) k_ hk_)⟩)) (below_size bB));replace Za:=aQ (blk_below (nB Za.out) hb);replace Ze:=aQ (blk_below (nB Ze.out) hb);replace HB:=aQ (below_step bB hb);(try clear hb);(try clear ho0)) | ((with_reducible refine gate_dst (N:=4) rfl ?_);refine box1 (N:=4) (cs:=#[.int .i64 0,.int .i64 0,.slice none 0 0]) (t:=29) ?_;intro Zc hg w111 hbox hb;replace Zi:=aQ (Kd.N_below (Kd.N_elderB (nN Zi.out) Zc (Nat.le_of_eq hg.symm)) hb);have Zm:=aQ (hbox);have ZE:=aQ (gB:w.heap.size ≤ Zc);have YU:=ZE;replace HB:=aQ (below_step bB hb);have Zz:=aQ ((by rw [hg];exact Nat.ne_of_lt (blk_lt (nB Za.out)):Zg ≠ Zc));have ZX:=aQ Zz.out.symm;replace Za:=aQ (blk_below (nB Za.out) hb);have ZA:=aQ ((by rw [hg];exact Nat.ne_of_lt (blk_lt (nB Ze.out)):Zd ≠ Zc));have ZY:=aQ ZA.out.symm;replace Ze:=aQ (blk_below (nB Ze.out) hb);clear hb hbox hg;have Si:=ZX.out;have Sj:=Zz.out;have Sk:=ZY.out;have Sl:=ZA.out;obtain ⟨XU,XV,XW,XX,XY,XZ⟩:=cz3 Zm.out;obtain ⟨Ye,Yf,Xv⟩:=Kd.N_slice Zi.out;subst Xv;obtain ⟨Wa,Wb,Wc,Wd,We,Wf⟩:=cz3 Za.out;have p549:0 ≤ (1:Int):=(by omega);have q549:1 < (l0_2.length:Int):=of_decide_eq_true (by first | (with_reducible assumption) | assumption);obtain ⟨Yz,A549_2,c549_2,e549,Zf,Zj,Zk,ZT,ZU⟩:=at_T29 ZV.out 1 p549 q549;obtain rfl:Zl = Yz:=(by injection e549);(try simp only [show (1:Int).toNat = 1 from rfl,Nat.reduceMul,Nat.reduceEqDiff,Go.Addr.add,↓reduceIte] at Zf);(try simp only [show (1:Int).toNat = 1 from rfl,Nat.reduceMul,Nat.reduceEqDiff,Go.Addr.add,↓reduceIte] at Zj);(try simp only [show (1:Int).toNat = 1 from rfl,Nat.reduceMul,Nat.reduceEqDiff,Go.Addr.add,↓reduceIte] at Zk);have qi549:(1 < l0_2.length) = True:=eq_true (by omega);(try rw [show ((1:Int)).toNat = 1 from rfl,show 1 * 3 = 3 from rfl] at Zf Zj Zk);have hn549_0:Zl.block ≠ Zc:=Nat.ne_of_lt (Nat.lt_of_lt_of_le (by have:=World.block_lt_of_cell? _ _ Zf;first | rwa [add_block] at this | exact this) ZE.out);have hn549_1:Zl.block ≠ Zc:=Nat.ne_of_lt (Nat.lt_of_lt_of_le (by have:=World.block_lt_of_cell? _ _ Zf;first | rwa [add_block] at this | exact this) ZE.out);have hn549_2:Zl.block ≠ Zc:=Nat.ne_of_lt (Nat.lt_of_lt_of_le (by have:=World.block_lt_of_cell? _ _ Zf;first | rwa [add_block] at this | exact this) ZE.out);replace Zf:=(HB.out.cell (World.block_lt_of_cell? w _ Zf)).trans Zf;replace Zj:=(HB.out.cell (World.block_lt_of_cell? w _ Zj)).trans Zj;replace Zk:=(HB.out.cell (World.block_lt_of_cell? w _ Zk)).trans Zk;have Yg:=aQ ZU;have Yh:=aQ ZT;clear ZU ZT;replace Zf:=(cell_far (p:=⟨Zc,0,none⟩) (by first | (rw [add_block];exact hn549_0) | (show (Addr.add _ _).block ≠ _;rw [add_block];exact hn549_0) | exact hn549_0) (.int .i64 t542)).trans Zf;replace Zj:=(cell_far (p:=⟨Zc,0,none⟩) (by first | (rw [add_block];exact hn549_0) | (show (Addr.add _ _).block ≠ _;rw [add_block];exact hn549_0) | exact hn549_0) (.int .i64 t542)).trans Zj;replace Zk:=(cell_far (p:=⟨Zc,0,none⟩) (by first | (rw [add_block];exact hn549_0) | (show (Addr.add _ _).block ≠ _;rw [add_block];exact hn549_0) | exact hn549_0) (.int .i64 t542)).trans Zk;replace Zf:=(cell_far (p:=⟨Zc,1,none⟩) (by first | (rw [add_block];exact hn549_1) | (show (Addr.add _ _).block ≠ _;rw [add_block];exact hn549_1) | exact hn549_1) (.int .i64 t543)).trans Zf;replace Zj:=(cell_far (p:=⟨Zc,1,none⟩) (by first | (rw [add_block];exact hn549_1) | (show (Addr.add _ _).block ≠ _;rw [add_block];exact hn549_1) | exact hn549_1) (.int .i64 t543)).trans Zj;replace Zk:=(cell_far (p:=⟨Zc,1,none⟩) (by first | (rw [add_block];exact hn549_1) | (show (Addr.add _ _).block ≠ _;rw [add_block];exact hn549_1) | exact hn549_1) (.int .i64 t543)).trans Zk;replace Zf:=(cell_far (p:=⟨Zc,2,none⟩) (by first | (rw [add_block];exact hn549_2) | (show (Addr.add _ _).block ≠ _;rw [add_block];exact hn549_2) | exact hn549_2) (.slice Ye t544.length Yf)).trans Zf;replace Zj:=(cell_far (p:=⟨Zc,2,none⟩) (by first | (rw [add_block];exact hn549_2) | (show (Addr.add _ _).block ≠ _;rw [add_block];exact hn549_2) | exact hn549_2) (.slice Ye t544.length Yf)).trans Zj;replace Zk:=(cell_far (p:=⟨Zc,2,none⟩) (by first | (rw [add_block];exact hn549_2) | (show (Addr.add _ _).block ≠ _;rw [add_block];exact hn549_2) | exact hn549_2) (.slice Ye t544.length Yf)).trans Zk;clear hn549_0;clear hn549_1;clear hn549_2;replace p549:=eq_true p549;replace q549:=eq_true q549) | ((with_reducible refine gate_callee (f:=50) rfl ?_);refine goesL_ (some 55) rfl rfl Try.func50 (by kernel_rfl) rfl #[.agg #[.int .i64 ((rd_T29 l0_2 1).f0),.int .i64 ((rd_T29 l0_2 1).f1),.slice A549_2 ((rd_T29 l0_2 1).f2).length c549_2]] rfl mP ?_;(with_reducible refine (ih k (by omega) ((rd_T29 l0_2 1).f0) ((rd_T29 l0_2 1).f1) _ _ ((rd_T29 l0_2 1).f2) t550 t551 t552 true _ ?Zu ?Zv A49.out).mono ?_);(case Zu=>exact Kd.C_below Yg.out bB);(case Zv=>exact Yh.out);rintro e w117 ⟨v553,rfl,ho0,hb⟩;refine ⟨_,rfl,?_⟩;have Zn:=aQ (Kd.N_lower (Kd.N_mono (ok':=fun k_=>(w.heap.size ≤ k_)∧some k_ ≠ (.slice Ye t544.length Yf:Value).ownBlock∧k_ ≠ Zg∧k_ ≠ Zd∧k_ ≠ Zc) ho0 (fun k_ hk_=>⟨(Nat.le_trans (below_size bB) hk_),(Kd.fresh' (Kd.N_lt (nN ((Kd.N_mono (Kd.N_far (p:=⟨Zc,2,none⟩) (Kd.N_far (p:=⟨Zc,1,none⟩) (Kd.N_far (p:=⟨Zc,0,none⟩) (Kd.N_mono Zi.out (fun k_ hk=>(⟨hk,hk.2⟩:_∧k_ ≠ Zc))) (fun _ hk=>hk.2) (.int .i64 t542)) (fun _ hk=>hk.2) (.int .i64 t543)) (fun _ hk=>hk.2) (.slice Ye t544.length Yf)) (fun _ h_=>h_.1))))) k_ hk_),(Kd.freshB (g:=Zg) (o:=.cells #[.int .i64 a0_0,.int .i64 a0_1,.slice (some Zl) l0_2.length c0_2] 29 (0,0)) bF k_ hk_),(Kd.freshB (g:=Zd) (o:=.cells #[.int .i64 0,.int .i64 0,.slice none 0 0] 29 (0,0)) bF k_ hk_),(Kd.freshB (g:=Zc) (o:=.cells #[.int .i64 t542,.int .i64 t543,.slice Ye t544.length Yf] 29 (0,0)) bP k_ hk_)⟩)) (below_size bB));replace Zi:=aQ (Kd.N_elder' (nN ((Kd.N_mono (Kd.N_far (p:=⟨Zc,2,none⟩) (Kd.N_far (p:=⟨Zc,1,none⟩) (Kd.N_far (p:=⟨Zc,0,none⟩) (Kd.N_mono Zi.out (fun k_ hk=>(⟨hk,hk.2⟩:_∧k_ ≠ Zc))) (fun _ hk=>hk.2) (.int .i64 t542)) (fun _ hk=>hk.2) (.int .i64 t543)) (fun _ hk=>hk.2) (.slice Ye t544.length Yf)) (fun _ h_=>h_.1)))) (Kd.N_base ho0) hb);replace Za:=aQ (blk_below (g:=Zg) (o:=.cells #[.int .i64 a0_0,.int .i64 a0_1,.slice (some Zl) l0_2.length c0_2] 29 (0,0)) bF hb);replace Ze:=aQ (blk_below (g:=Zd) (o:=.cells #[.int .i64 0,.int .i64 0,.slice none 0 0] 29 (0,0)) bF hb);replace Zm:=aQ (blk_below (g:=Zc) (o:=.cells #[.int .i64 t542,.int .i64 t543,.slice Ye t544.length Yf] 29 (0,0)) bP hb);replace HB:=aQ (below_step bB hb);(try clear hb);(try clear ho0)) | ((with_reducible refine gate_dst (N:=6) rfl ?_);refine box1 (N:=6) (cs:=#[.int .i64 0,.int .i64 0,.slice none 0 0]) (t:=29) ?_;intro Zb hg w118 hbox hb;replace Zi:=aQ (Kd.N_below (Kd.N_elderB (nN Zi.out) Zb (Nat.le_of_eq hg.symm)) hb);replace Zn:=aQ (Kd.N_below (Kd.N_elderB (nN Zn.out) Zb (Nat.le_of_eq hg.symm)) hb);have Zp:=aQ (hbox);have YA:=aQ (gB:w.heap.size ≤ Zb);have YV:=YA;replace HB:=aQ (below_step bB hb);have ZB:=aQ ((by rw [hg];exact Nat.ne_of_lt (blk_lt (nB Za.out)):Zg ≠ Zb));have ZZ:=aQ ZB.out.symm;replace Za:=aQ (blk_below (nB Za.out) hb);have ZC:=aQ ((by rw [hg];exact Nat.ne_of_lt (blk_lt (nB Ze.out)):Zd ≠ Zb));have Ya:=aQ ZC.out.symm;replace Ze:=aQ (blk_below (nB Ze.out) hb);have ZD:=aQ ((by rw [hg];exact Nat.ne_of_lt (blk_lt (nB Zm.out)):Zc ≠ Zb));have Yb:=aQ ZD.out.symm;replace Zm:=aQ (blk_below (nB Zm.out) hb);clear hb hbox hg;have Sm:=ZZ.out;have Sn:=ZB.out;have So:=Ya.out;have Sp:=ZC.out;have Sq:=Yb.out;have Sr:=ZD.out;obtain ⟨Wg,Wh,Wi,Wj,Wk,Wl⟩:=cz3 Zp.out;obtain ⟨Yi,Yj,Xw⟩:=Kd.N_slice Zn.out;subst Xw))
    have n0_:Aside0 (Kd.N k29 29 (((w118.setCell ⟨Zb,0,none⟩ (.int .i64 t550)).setCell ⟨Zb,1,none⟩ (.int .i64 t551)).setCell ⟨Zb,2,none⟩ (.slice Yi t552.length Yj)) w.heap.size (fun k_=>(w.heap.size ≤ k_)∧some k_ ≠ (.slice Yi t552.length Yj:Value).ownBlock∧k_ ≠ Zg∧k_ ≠ Zd∧k_ ≠ Zc∧k_ ≠ Zb) (.slice Ye t544.length Yf) t544):=⟨Kd.N_mono (nFN (g:=Zb) Zi.out (fun k_ hk=>hk.2)) (fun _ hk=>⟨hk.1.1.1.1,⟨hk.1.2,⟨hk.1.1.1.2.1,⟨hk.1.1.1.2.2,⟨hk.1.1.2,hk.2⟩⟩⟩⟩⟩)⟩
    have n1_:Aside0 (Kd.N k29 29 (((w118.setCell ⟨Zb,0,none⟩ (.int .i64 t550)).setCell ⟨Zb,1,none⟩ (.int .i64 t551)).setCell ⟨Zb,2,none⟩ (.slice Yi t552.length Yj)) w.heap.size (fun k_=>(w.heap.size ≤ k_)∧some k_ ≠ (.slice Ye t544.length Yf:Value).ownBlock∧k_ ≠ Zg∧k_ ≠ Zd∧k_ ≠ Zc∧k_ ≠ Zb) (.slice Yi t552.length Yj) t552):=⟨Kd.N_mono (nFN (g:=Zb) Zn.out (fun k_ hk=>hk.2)) (fun _ hk=>⟨hk.1.1,⟨hk.1.2.1,⟨hk.1.2.2.1,⟨hk.1.2.2.2.1,⟨hk.1.2.2.2.2,hk.2⟩⟩⟩⟩⟩)⟩
    have n2_:Aside0 ((((w118.setCell ⟨Zb,0,none⟩ (.int .i64 t550)).setCell ⟨Zb,1,none⟩ (.int .i64 t551)).setCell ⟨Zb,2,none⟩ (.slice Yi t552.length Yj)).heap[Zg]? = some (.cells #[.int .i64 a0_0,.int .i64 a0_1,.slice (some Zl) l0_2.length c0_2] 29 (0,0))):=⟨bF⟩
    have n3_:Aside0 ((((w118.setCell ⟨Zb,0,none⟩ (.int .i64 t550)).setCell ⟨Zb,1,none⟩ (.int .i64 t551)).setCell ⟨Zb,2,none⟩ (.slice Yi t552.length Yj)).heap[Zd]? = some (.cells #[.int .i64 0,.int .i64 0,.slice none 0 0] 29 (0,0))):=⟨bF⟩
    have n4_:Aside0 ((((w118.setCell ⟨Zb,0,none⟩ (.int .i64 t550)).setCell ⟨Zb,1,none⟩ (.int .i64 t551)).setCell ⟨Zb,2,none⟩ (.slice Yi t552.length Yj)).heap[Zc]? = some (.cells #[.int .i64 t542,.int .i64 t543,.slice Ye t544.length Yf] 29 (0,0))):=⟨bF⟩
    have n5_:Aside0 ((((w118.setCell ⟨Zb,0,none⟩ (.int .i64 t550)).setCell ⟨Zb,1,none⟩ (.int .i64 t551)).setCell ⟨Zb,2,none⟩ (.slice Yi t552.length Yj)).heap[Zb]? = some (.cells #[.int .i64 t550,.int .i64 t551,.slice Yi t552.length Yj] 29 (0,0))):=⟨bP⟩
    have n6_:Aside0 (Below w.heap.size w (((w118.setCell ⟨Zb,0,none⟩ (.int .i64 t550)).setCell ⟨Zb,1,none⟩ (.int .i64 t551)).setCell ⟨Zb,2,none⟩ (.slice Yi t552.length Yj))):=⟨bB⟩
    (try clear Zi)
    (try clear Zn)
    (try clear Za)
    (try clear Ze)
    (try clear Zm)
    (try clear Zp)
    (try clear HB)
    generalize (((w118.setCell ⟨Zb,0,none⟩ (.int .i64 t550)).setCell ⟨Zb,1,none⟩ (.int .i64 t551)).setCell ⟨Zb,2,none⟩ (.slice Yi t552.length Yj)) = w124 at n0_ n1_ n2_ n3_ n4_ n5_ n6_ ⊢
    have Zi:=n0_
    have Zn:=n1_
    have Za:=n2_
    have Ze:=n3_
    have Zm:=n4_
    have Zp:=n5_
    have HB:=n6_
    clear n0_ n1_ n2_ n3_ n4_ n5_ n6_
    replace Zi:=aQ (Kd.N_drew Zi.out)
    replace Zn:=aQ (Kd.N_drew Zn.out)
    replace Za:=aQ (blk_drew Za.out)
    replace Ze:=aQ (blk_drew Ze.out)
    replace Zm:=aQ (blk_drew Zm.out)
    replace Zp:=aQ (blk_drew Zp.out)
    replace HB:=aQ (below_drew1 HB.out)
    refine start_ (n:=22) (S:=fun w'=>w'.cell? ⟨Zg,0,none⟩ = some (.int .i64 a0_0)∧w'.cell? ⟨Zg,1,none⟩ = some (.int .i64 a0_1)∧w'.cell? ⟨Zg,2,none⟩ = some (.slice (some Zl) l0_2.length c0_2)) (ds:=[]) (bn 22 0) (by kernel_rfl) rfl rfl ⟨(blk_cell Za.out 0).trans rfl,(blk_cell Za.out 1).trans rfl,(blk_cell Za.out 2).trans rfl⟩ (fun hHeld=>?_);refine with_tabW spec_l17Pass.tab12 spec_l17Pass.bits12 (fun HT_ HW_=>?_)
    generalize w124.drew = w125 at Zi Zn Za Ze Zm Zp HB hHeld ⊢
    refine pur (i:=0) (N:=some 58) (bn 22 1) ?_
    refine pur (i:=1) (N:=some 59) (bn 22 3) ?_
    refine pur (i:=2) (N:=some 60) (bn 22 7) ?_
    refine pur (i:=3) (N:=some 61) (bn 22 15) ?_
    refine pur (i:=4) (N:=some 62) (bn 22 31) ?_
    refine pur (i:=5) (N:=some 63) (bn 22 63) ?_
    refine pur (i:=6) (N:=some 64) (bn 22 127) ?_
    refine pur (i:=7) (N:=some 65) (bn 22 255) ?_
    refine tak (i:=8) (N:=some 66) (bn 22 511) ?_
    refine pur (i:=9) (N:=some 67) (bn 22 1023) ?_
    refine pur (i:=10) (N:=some 68) (bn 22 2047) ?_
    refine pur (i:=11) (N:=some 69) (v:=undef) (bn 22 4095) ?_
    refine pur (i:=12) (N:=some 70) (v:=undef) (bn 22 8191) ?_
    refine pur (i:=13) (N:=some 71) (v:=undef) (bn 22 16383) ?_
    refine pur (i:=14) (N:=some 72) (v:=undef) (bn 22 32767) ?_
    refine pur (i:=15) (N:=some 73) (v:=undef) (bn 22 65535) ?_
    refine pur (i:=16) (N:=some 74) (v:=undef) (bn 22 131071) ?_
    refine pur (i:=17) (N:=some 75) (v:=undef) (bn 22 262143) ?_
    refine pur (i:=18) (N:=some 76) (v:=undef) (bn 22 524287) ?_
    refine pur (i:=19) (N:=some 77) (v:=undef) (bn 22 1048575) ?_
    refine pur (i:=20) (N:=some 78) (bn 22 2097151) ?_
    refine pur (i:=21) (N:=some 79) (bn 22 4194303) ?_
    refine done_ (done_of HT_.out (by kernel_rfl)) ?_
    obtain ⟨Wm,Wn,Wo,Wp,Wq,Wr⟩:=cz3 Za.out
    obtain ⟨Ws,Wt,Wu,Wv,Ww,Wx⟩:=cz3 Zm.out
    obtain ⟨Wy,Wz,WA,WB,WC,WD⟩:=cz3 Zp.out
    try go_wp2_with (first | ((with_reducible refine gate_callee (f:=66) rfl ?_);refine goesL_ (some 85) rfl rfl Try.func66 (by kernel_rfl) rfl #[.int .i64 a0_0,.agg #[.int .i64 t542,.int .i64 t543,.slice Ye t544.length Yf],.agg #[.int .i64 t550,.int .i64 t551,.slice Yi t552.length Yj]] rfl mP ?_;(with_reducible refine (spec_l17Two.calls a0_0 t542 t543 (fun k_=>((w.heap.size ≤ k_)∧(some k_ ≠ (.slice Yi t552.length Yj:Value).ownBlock∧(k_ ≠ Zg∧(k_ ≠ Zd∧(k_ ≠ Zc∧k_ ≠ Zb)))))) _ _ t544 t550 t551 (fun k_=>((w.heap.size ≤ k_)∧(some k_ ≠ (.slice Ye t544.length Yf:Value).ownBlock∧(k_ ≠ Zg∧(k_ ≠ Zd∧(k_ ≠ Zc∧k_ ≠ Zb)))))) _ _ t552 t565 t566 t567 _ ?Zu ?Zv A105.out).mono ?_);(case Zu=>exact Kd.N_V (Zi.out));(case Zv=>exact Kd.N_V (Zn.out));rintro e w129 ⟨v568,rfl,ho0,hb⟩;refine ⟨_,rfl,?_⟩;replace Zi:=aQ (Kd.N_elder' (nN Zi.out) (Kd.N_base ho0) hb);replace Zn:=aQ (Kd.N_elder' (nN Zn.out) (Kd.N_base ho0) hb);have Xk:=aQ (Kd.N_lower (Kd.N_mono (ok':=fun k_=>(w.heap.size ≤ k_)∧k_ ≠ Zg∧k_ ≠ Zd∧k_ ≠ Zc∧k_ ≠ Zb) ho0 (fun k_ hk_=>⟨Or.elim hk_ (fun hs_=>Or.elim hs_ (fun hs_=>hs_.1) (fun hs_=>hs_.1)) (fun hn_=>(Nat.le_trans (below_size bB) hn_)),Or.elim hk_ (fun hs_=>Or.elim hs_ (fun hs_=>hs_.2.2.1) (fun hs_=>hs_.2.2.1)) (fun hn_=>(Kd.freshB (nB Za.out) k_ hn_)),Or.elim hk_ (fun hs_=>Or.elim hs_ (fun hs_=>hs_.2.2.2.1) (fun hs_=>hs_.2.2.2.1)) (fun hn_=>(Kd.freshB (nB Ze.out) k_ hn_)),Or.elim hk_ (fun hs_=>Or.elim hs_ (fun hs_=>hs_.2.2.2.2.1) (fun hs_=>hs_.2.2.2.2.1)) (fun hn_=>(Kd.freshB (nB Zm.out) k_ hn_)),Or.elim hk_ (fun hs_=>Or.elim hs_ (fun hs_=>hs_.2.2.2.2.2) (fun hs_=>hs_.2.2.2.2.2)) (fun hn_=>(Kd.freshB (nB Zp.out) k_ hn_))⟩)) (below_size bB));replace Za:=aQ (blk_below (nB Za.out) hb);replace Ze:=aQ (blk_below (nB Ze.out) hb);replace Zm:=aQ (blk_below (nB Zm.out) hb);replace Zp:=aQ (blk_below (nB Zp.out) hb);replace HB:=aQ (below_step bB hb);(try clear hb);(try clear ho0);obtain ⟨WE,WF,WG,WH,WI,WJ⟩:=cz3 Ze.out;obtain ⟨Xx,Xy,Xz⟩:=Kd.N_slice Xk.out;subst Xz))
    refine bodyPost_ret (results_ct rfl _ _ Zd 29 #[.int .i64 t565,.int .i64 t566,.slice Xx t567.length Xy] (0,0) _ rfl bP Try.underlying29 rfl (by kernel_rfl)) rfl ?_
    exact ⟨_,rfl,by (with_reducible repeat (first | apply Kd.N_alloc | apply Kd.N_drewN | apply Kd.N_drew));exact Kd.N_mono (nFN (g:=Zd) Xk.out (fun k_ hk=>hk.2.2.1)) (fun _ hk=>hk.1),bB⟩
   rw [if_pos c52] at H
   have c52b0:(a0_0 == 4) = true:=beq_iff_eq.mpr c52
   have c52b1:(a0_0 != 4) = false:=bne_eq_false_iff_eq.mpr c52
   clear c52
   obtain ⟨t559,A53,H⟩:=bQ H
   (try dsimp only at H)
   by_cases c54:t559 = true
   ·subst c54
    have H1:(some (0,0,([]:List (S29)),false)) = some (r1,r2,r3,r4):=by rw [if_pos rfl] at H;exact H
    clear H
    have H:=H1
    clear H1
    simp only [Option.some.injEq,Prod.mk.injEq] at H
    obtain ⟨rfl,rfl,rfl,rfl⟩:=H
    go_enter Try.func50,Try.ntmps50
    try go_wp2_with (first | ((with_reducible refine gate_dst (N:=1) rfl ?_);refine box1 (N:=1) (cs:=#[.int .i64 a0_0,.int .i64 a0_1,.slice A0_2 l0_2.length c0_2]) (t:=29) ?_;intro Zg hg w55 hbox hb;have Za:=aQ (hbox);have ZW:=aQ (gB:w.heap.size ≤ Zg);have YF:=ZW;replace HB:=aQ (below_step bB hb);clear hb hbox hg) | ((with_reducible refine gate_dst (N:=2) rfl ?_);refine box1 (N:=2) (cs:=#[.int .i64 0,.int .i64 0,.slice none 0 0]) (t:=29) ?_;intro Zd hg w56 hbox hb;have Ze:=aQ (hbox);have Zo:=aQ (gB:w.heap.size ≤ Zd);have YG:=Zo;replace HB:=aQ (below_step bB hb);have Zh:=aQ ((by rw [hg];exact Nat.ne_of_lt (blk_lt (nB Za.out)):Zg ≠ Zd));have Zq:=aQ Zh.out.symm;replace Za:=aQ (blk_below (nB Za.out) hb);clear hb hbox hg;have SX:=Zh.out;have SY:=Zq.out;obtain ⟨UM,UN,UO,UP,UQ,UR⟩:=cz3 Za.out;have p541:0 ≤ (0:Int):=(by omega);have q541:0 < (l0_2.length:Int):=of_decide_eq_true (by first | (with_reducible assumption) | assumption);obtain ⟨Zl,A541_2,c541_2,e541,Zr,Zs,Zt,ZR,ZS⟩:=at_T29 ZV.out 0 p541 q541;cases e541;have qi541:(0 < l0_2.length) = True:=eq_true (by omega);(try rw [show ((0:Int)).toNat = 0 from rfl,show 0 * 3 = 0 from rfl] at Zr Zs Zt);(try rw [Addr.add_zero'] at Zr);(try rw [Addr.add_zero'] at Zs);(try rw [Addr.add_zero'] at Zt);replace Zr:=(HB.out.cell (World.block_lt_of_cell? w _ Zr)).trans Zr;replace Zs:=(HB.out.cell (World.block_lt_of_cell? w _ Zs)).trans Zs;replace Zt:=(HB.out.cell (World.block_lt_of_cell? w _ Zt)).trans Zt;have Yc:=aQ ZS;have Yd:=aQ ZR;clear ZS ZR;replace p541:=eq_true p541;replace q541:=eq_true q541) | ((with_reducible refine gate_callee (f:=50) rfl ?_);refine goesL_ (some 47) rfl rfl Try.func50 (by kernel_rfl) rfl #[.agg #[.int .i64 ((rd_T29 l0_2 0).f0),.int .i64 ((rd_T29 l0_2 0).f1),.slice A541_2 ((rd_T29 l0_2 0).f2).length c541_2]] rfl mP ?_;(with_reducible refine (ih k (by omega) ((rd_T29 l0_2 0).f0) ((rd_T29 l0_2 0).f1) _ _ ((rd_T29 l0_2 0).f2) t542 t543 t544 true _ ?Zu ?Zv A47.out).mono ?_);(case Zu=>repeat (first | exact (Kd.C_below Yc.out HB.out) | (with_reducible refine Kd.C_alloc ?_ _) | (with_reducible refine Kd.C_drewN ?_ _) | (with_reducible refine Kd.C_drew ?_)));(case Zv=>exact Yd.out);rintro e w59 ⟨v545,rfl,ho0,hb⟩;refine ⟨_,rfl,?_⟩;have Zi:=aQ (Kd.N_lower (Kd.N_mono (ok':=fun k_=>(w.heap.size ≤ k_)∧k_ ≠ Zg∧k_ ≠ Zd) ho0 (fun k_ hk_=>⟨(Nat.le_trans (below_size bB) hk_),(Kd.freshB (nB Za.out) k_ hk_),(Kd.freshB (nB Ze.out) k_ hk_)⟩)) (below_size bB));replace Za:=aQ (blk_below (nB Za.out) hb);replace Ze:=aQ (blk_below (nB Ze.out) hb);replace HB:=aQ (below_step bB hb);(try clear hb);(try clear ho0)) | ((with_reducible refine gate_dst (N:=4) rfl ?_);refine box1 (N:=4) (cs:=#[.int .i64 0,.int .i64 0,.slice none 0 0]) (t:=29) ?_;intro Zc hg w60 hbox hb;replace Zi:=aQ (Kd.N_below (Kd.N_elderB (nN Zi.out) Zc (Nat.le_of_eq hg.symm)) hb);have Zm:=aQ (hbox);have ZE:=aQ (gB:w.heap.size ≤ Zc);have YU:=ZE;replace HB:=aQ (below_step bB hb);have Zz:=aQ ((by rw [hg];exact Nat.ne_of_lt (blk_lt (nB Za.out)):Zg ≠ Zc));have ZX:=aQ Zz.out.symm;replace Za:=aQ (blk_below (nB Za.out) hb);have ZA:=aQ ((by rw [hg];exact Nat.ne_of_lt (blk_lt (nB Ze.out)):Zd ≠ Zc));have ZY:=aQ ZA.out.symm;replace Ze:=aQ (blk_below (nB Ze.out) hb);clear hb hbox hg;have SZ:=ZX.out;have Ra:=Zz.out;have Rb:=ZY.out;have Rc:=ZA.out;obtain ⟨US,UT,UU,UV,UW,UX⟩:=cz3 Zm.out;obtain ⟨YB,YC,WK⟩:=Kd.N_slice Zi.out;subst WK;obtain ⟨UY,UZ,Ta,Tb,Tc,Td⟩:=cz3 Za.out;have p549:0 ≤ (1:Int):=(by omega);have q549:1 < (l0_2.length:Int):=of_decide_eq_true (by first | (with_reducible assumption) | assumption);obtain ⟨Yz,A549_2,c549_2,e549,Zf,Zj,Zk,ZT,ZU⟩:=at_T29 ZV.out 1 p549 q549;obtain rfl:Zl = Yz:=(by injection e549);(try simp only [show (1:Int).toNat = 1 from rfl,Nat.reduceMul,Nat.reduceEqDiff,Go.Addr.add,↓reduceIte] at Zf);(try simp only [show (1:Int).toNat = 1 from rfl,Nat.reduceMul,Nat.reduceEqDiff,Go.Addr.add,↓reduceIte] at Zj);(try simp only [show (1:Int).toNat = 1 from rfl,Nat.reduceMul,Nat.reduceEqDiff,Go.Addr.add,↓reduceIte] at Zk);have qi549:(1 < l0_2.length) = True:=eq_true (by omega);(try rw [show ((1:Int)).toNat = 1 from rfl,show 1 * 3 = 3 from rfl] at Zf Zj Zk);have hn549_0:Zl.block ≠ Zc:=Nat.ne_of_lt (Nat.lt_of_lt_of_le (by have:=World.block_lt_of_cell? _ _ Zf;first | rwa [add_block] at this | exact this) ZE.out);have hn549_1:Zl.block ≠ Zc:=Nat.ne_of_lt (Nat.lt_of_lt_of_le (by have:=World.block_lt_of_cell? _ _ Zf;first | rwa [add_block] at this | exact this) ZE.out);have hn549_2:Zl.block ≠ Zc:=Nat.ne_of_lt (Nat.lt_of_lt_of_le (by have:=World.block_lt_of_cell? _ _ Zf;first | rwa [add_block] at this | exact this) ZE.out);replace Zf:=(HB.out.cell (World.block_lt_of_cell? w _ Zf)).trans Zf;replace Zj:=(HB.out.cell (World.block_lt_of_cell? w _ Zj)).trans Zj;replace Zk:=(HB.out.cell (World.block_lt_of_cell? w _ Zk)).trans Zk;have Yg:=aQ ZU;have Yh:=aQ ZT;clear ZU ZT;replace Zf:=(cell_far (p:=⟨Zc,0,none⟩) (by first | (rw [add_block];exact hn549_0) | (show (Addr.add _ _).block ≠ _;rw [add_block];exact hn549_0) | exact hn549_0) (.int .i64 t542)).trans Zf;replace Zj:=(cell_far (p:=⟨Zc,0,none⟩) (by first | (rw [add_block];exact hn549_0) | (show (Addr.add _ _).block ≠ _;rw [add_block];exact hn549_0) | exact hn549_0) (.int .i64 t542)).trans Zj;replace Zk:=(cell_far (p:=⟨Zc,0,none⟩) (by first | (rw [add_block];exact hn549_0) | (show (Addr.add _ _).block ≠ _;rw [add_block];exact hn549_0) | exact hn549_0) (.int .i64 t542)).trans Zk;replace Zf:=(cell_far (p:=⟨Zc,1,none⟩) (by first | (rw [add_block];exact hn549_1) | (show (Addr.add _ _).block ≠ _;rw [add_block];exact hn549_1) | exact hn549_1) (.int .i64 t543)).trans Zf;replace Zj:=(cell_far (p:=⟨Zc,1,none⟩) (by first | (rw [add_block];exact hn549_1) | (show (Addr.add _ _).block ≠ _;rw [add_block];exact hn549_1) | exact hn549_1) (.int .i64 t543)).trans Zj;replace Zk:=(cell_far (p:=⟨Zc,1,none⟩) (by first | (rw [add_block];exact hn549_1) | (show (Addr.add _ _).block ≠ _;rw [add_block];exact hn549_1) | exact hn549_1) (.int .i64 t543)).trans Zk;replace Zf:=(cell_far (p:=⟨Zc,2,none⟩) (by first | (rw [add_block];exact hn549_2) | (show (Addr.add _ _).block ≠ _;rw [add_block];exact hn549_2) | exact hn549_2) (.slice YB t544.length YC)).trans Zf;replace Zj:=(cell_far (p:=⟨Zc,2,none⟩) (by first | (rw [add_block];exact hn549_2) | (show (Addr.add _ _).block ≠ _;rw [add_block];exact hn549_2) | exact hn549_2) (.slice YB t544.length YC)).trans Zj;replace Zk:=(cell_far (p:=⟨Zc,2,none⟩) (by first | (rw [add_block];exact hn549_2) | (show (Addr.add _ _).block ≠ _;rw [add_block];exact hn549_2) | exact hn549_2) (.slice YB t544.length YC)).trans Zk;clear hn549_0;clear hn549_1;clear hn549_2;replace p549:=eq_true p549;replace q549:=eq_true q549) | ((with_reducible refine gate_callee (f:=50) rfl ?_);refine goesL_ (some 55) rfl rfl Try.func50 (by kernel_rfl) rfl #[.agg #[.int .i64 ((rd_T29 l0_2 1).f0),.int .i64 ((rd_T29 l0_2 1).f1),.slice A549_2 ((rd_T29 l0_2 1).f2).length c549_2]] rfl mP ?_;(with_reducible refine (ih k (by omega) ((rd_T29 l0_2 1).f0) ((rd_T29 l0_2 1).f1) _ _ ((rd_T29 l0_2 1).f2) t550 t551 t552 true _ ?Zu ?Zv A49.out).mono ?_);(case Zu=>exact Kd.C_below Yg.out bB);(case Zv=>exact Yh.out);rintro e w66 ⟨v553,rfl,ho0,hb⟩;refine ⟨_,rfl,?_⟩;have Zn:=aQ (Kd.N_lower (Kd.N_mono (ok':=fun k_=>(w.heap.size ≤ k_)∧some k_ ≠ (.slice YB t544.length YC:Value).ownBlock∧k_ ≠ Zg∧k_ ≠ Zd∧k_ ≠ Zc) ho0 (fun k_ hk_=>⟨(Nat.le_trans (below_size bB) hk_),(Kd.fresh' (Kd.N_lt (nN ((Kd.N_mono (Kd.N_far (p:=⟨Zc,2,none⟩) (Kd.N_far (p:=⟨Zc,1,none⟩) (Kd.N_far (p:=⟨Zc,0,none⟩) (Kd.N_mono Zi.out (fun k_ hk=>(⟨hk,hk.2⟩:_∧k_ ≠ Zc))) (fun _ hk=>hk.2) (.int .i64 t542)) (fun _ hk=>hk.2) (.int .i64 t543)) (fun _ hk=>hk.2) (.slice YB t544.length YC)) (fun _ h_=>h_.1))))) k_ hk_),(Kd.freshB (g:=Zg) (o:=.cells #[.int .i64 a0_0,.int .i64 a0_1,.slice (some Zl) l0_2.length c0_2] 29 (0,0)) bF k_ hk_),(Kd.freshB (g:=Zd) (o:=.cells #[.int .i64 0,.int .i64 0,.slice none 0 0] 29 (0,0)) bF k_ hk_),(Kd.freshB (g:=Zc) (o:=.cells #[.int .i64 t542,.int .i64 t543,.slice YB t544.length YC] 29 (0,0)) bP k_ hk_)⟩)) (below_size bB));replace Zi:=aQ (Kd.N_elder' (nN ((Kd.N_mono (Kd.N_far (p:=⟨Zc,2,none⟩) (Kd.N_far (p:=⟨Zc,1,none⟩) (Kd.N_far (p:=⟨Zc,0,none⟩) (Kd.N_mono Zi.out (fun k_ hk=>(⟨hk,hk.2⟩:_∧k_ ≠ Zc))) (fun _ hk=>hk.2) (.int .i64 t542)) (fun _ hk=>hk.2) (.int .i64 t543)) (fun _ hk=>hk.2) (.slice YB t544.length YC)) (fun _ h_=>h_.1)))) (Kd.N_base ho0) hb);replace Za:=aQ (blk_below (g:=Zg) (o:=.cells #[.int .i64 a0_0,.int .i64 a0_1,.slice (some Zl) l0_2.length c0_2] 29 (0,0)) bF hb);replace Ze:=aQ (blk_below (g:=Zd) (o:=.cells #[.int .i64 0,.int .i64 0,.slice none 0 0] 29 (0,0)) bF hb);replace Zm:=aQ (blk_below (g:=Zc) (o:=.cells #[.int .i64 t542,.int .i64 t543,.slice YB t544.length YC] 29 (0,0)) bP hb);replace HB:=aQ (below_step bB hb);(try clear hb);(try clear ho0)) | ((with_reducible refine gate_dst (N:=6) rfl ?_);refine box1 (N:=6) (cs:=#[.int .i64 0,.int .i64 0,.slice none 0 0]) (t:=29) ?_;intro Zb hg w67 hbox hb;replace Zi:=aQ (Kd.N_below (Kd.N_elderB (nN Zi.out) Zb (Nat.le_of_eq hg.symm)) hb);replace Zn:=aQ (Kd.N_below (Kd.N_elderB (nN Zn.out) Zb (Nat.le_of_eq hg.symm)) hb);have Zp:=aQ (hbox);have YA:=aQ (gB:w.heap.size ≤ Zb);have YV:=YA;replace HB:=aQ (below_step bB hb);have ZB:=aQ ((by rw [hg];exact Nat.ne_of_lt (blk_lt (nB Za.out)):Zg ≠ Zb));have ZZ:=aQ ZB.out.symm;replace Za:=aQ (blk_below (nB Za.out) hb);have ZC:=aQ ((by rw [hg];exact Nat.ne_of_lt (blk_lt (nB Ze.out)):Zd ≠ Zb));have Ya:=aQ ZC.out.symm;replace Ze:=aQ (blk_below (nB Ze.out) hb);have ZD:=aQ ((by rw [hg];exact Nat.ne_of_lt (blk_lt (nB Zm.out)):Zc ≠ Zb));have Yb:=aQ ZD.out.symm;replace Zm:=aQ (blk_below (nB Zm.out) hb);clear hb hbox hg;have Rd:=ZZ.out;have Re:=ZB.out;have Rf:=Ya.out;have Rg:=ZC.out;have Rh:=Yb.out;have Ri:=ZD.out;obtain ⟨Te,Tf,Tg,Th,Ti,Tj⟩:=cz3 Zp.out;obtain ⟨YD,YE,WL⟩:=Kd.N_slice Zn.out;subst WL))
    have n0_:Aside0 (Kd.N k29 29 (((w67.setCell ⟨Zb,0,none⟩ (.int .i64 t550)).setCell ⟨Zb,1,none⟩ (.int .i64 t551)).setCell ⟨Zb,2,none⟩ (.slice YD t552.length YE)) w.heap.size (fun k_=>(w.heap.size ≤ k_)∧some k_ ≠ (.slice YD t552.length YE:Value).ownBlock∧k_ ≠ Zg∧k_ ≠ Zd∧k_ ≠ Zc∧k_ ≠ Zb) (.slice YB t544.length YC) t544):=⟨Kd.N_mono (nFN (g:=Zb) Zi.out (fun k_ hk=>hk.2)) (fun _ hk=>⟨hk.1.1.1.1,⟨hk.1.2,⟨hk.1.1.1.2.1,⟨hk.1.1.1.2.2,⟨hk.1.1.2,hk.2⟩⟩⟩⟩⟩)⟩
    have n1_:Aside0 (Kd.N k29 29 (((w67.setCell ⟨Zb,0,none⟩ (.int .i64 t550)).setCell ⟨Zb,1,none⟩ (.int .i64 t551)).setCell ⟨Zb,2,none⟩ (.slice YD t552.length YE)) w.heap.size (fun k_=>(w.heap.size ≤ k_)∧some k_ ≠ (.slice YB t544.length YC:Value).ownBlock∧k_ ≠ Zg∧k_ ≠ Zd∧k_ ≠ Zc∧k_ ≠ Zb) (.slice YD t552.length YE) t552):=⟨Kd.N_mono (nFN (g:=Zb) Zn.out (fun k_ hk=>hk.2)) (fun _ hk=>⟨hk.1.1,⟨hk.1.2.1,⟨hk.1.2.2.1,⟨hk.1.2.2.2.1,⟨hk.1.2.2.2.2,hk.2⟩⟩⟩⟩⟩)⟩
    have n2_:Aside0 ((((w67.setCell ⟨Zb,0,none⟩ (.int .i64 t550)).setCell ⟨Zb,1,none⟩ (.int .i64 t551)).setCell ⟨Zb,2,none⟩ (.slice YD t552.length YE)).heap[Zg]? = some (.cells #[.int .i64 a0_0,.int .i64 a0_1,.slice (some Zl) l0_2.length c0_2] 29 (0,0))):=⟨bF⟩
    have n3_:Aside0 ((((w67.setCell ⟨Zb,0,none⟩ (.int .i64 t550)).setCell ⟨Zb,1,none⟩ (.int .i64 t551)).setCell ⟨Zb,2,none⟩ (.slice YD t552.length YE)).heap[Zd]? = some (.cells #[.int .i64 0,.int .i64 0,.slice none 0 0] 29 (0,0))):=⟨bF⟩
    have n4_:Aside0 ((((w67.setCell ⟨Zb,0,none⟩ (.int .i64 t550)).setCell ⟨Zb,1,none⟩ (.int .i64 t551)).setCell ⟨Zb,2,none⟩ (.slice YD t552.length YE)).heap[Zc]? = some (.cells #[.int .i64 t542,.int .i64 t543,.slice YB t544.length YC] 29 (0,0))):=⟨bF⟩
    have n5_:Aside0 ((((w67.setCell ⟨Zb,0,none⟩ (.int .i64 t550)).setCell ⟨Zb,1,none⟩ (.int .i64 t551)).setCell ⟨Zb,2,none⟩ (.slice YD t552.length YE)).heap[Zb]? = some (.cells #[.int .i64 t550,.int .i64 t551,.slice YD t552.length YE] 29 (0,0))):=⟨bP⟩
    have n6_:Aside0 (Below w.heap.size w (((w67.setCell ⟨Zb,0,none⟩ (.int .i64 t550)).setCell ⟨Zb,1,none⟩ (.int .i64 t551)).setCell ⟨Zb,2,none⟩ (.slice YD t552.length YE))):=⟨bB⟩
    (try clear Zi)
    (try clear Zn)
    (try clear Za)
    (try clear Ze)
    (try clear Zm)
    (try clear Zp)
    (try clear HB)
    generalize (((w67.setCell ⟨Zb,0,none⟩ (.int .i64 t550)).setCell ⟨Zb,1,none⟩ (.int .i64 t551)).setCell ⟨Zb,2,none⟩ (.slice YD t552.length YE)) = w73 at n0_ n1_ n2_ n3_ n4_ n5_ n6_ ⊢
    have Zi:=n0_
    have Zn:=n1_
    have Za:=n2_
    have Ze:=n3_
    have Zm:=n4_
    have Zp:=n5_
    have HB:=n6_
    clear n0_ n1_ n2_ n3_ n4_ n5_ n6_
    replace Zi:=aQ (Kd.N_drew Zi.out)
    replace Zn:=aQ (Kd.N_drew Zn.out)
    replace Za:=aQ (blk_drew Za.out)
    replace Ze:=aQ (blk_drew Ze.out)
    replace Zm:=aQ (blk_drew Zm.out)
    replace Zp:=aQ (blk_drew Zp.out)
    replace HB:=aQ (below_drew1 HB.out)
    have p557:0 ≤ (0:Int):=(by omega)
    have q557:0 < (l0_2.length:Int):=of_decide_eq_true (by first | (with_reducible assumption) | assumption)
    obtain ⟨Xc,A557_2,c557_2,e557,ZF,ZG,ZH,YK,YL⟩:=at_T29 ZV.out 0 p557 q557
    have ZI:=ZH
    (try rw [show ((0:Int)).toNat = 0 from rfl] at ZI)
    (try rw [show 0 * 3 = 0 from rfl] at ZI)
    (try rw [Addr.add_zero'] at ZI)
    have ZJ:=ZG
    (try rw [show ((0:Int)).toNat = 0 from rfl] at ZJ)
    (try rw [show 0 * 3 = 0 from rfl] at ZJ)
    (try rw [Addr.add_zero'] at ZJ)
    have ZK:=ZF
    (try rw [show ((0:Int)).toNat = 0 from rfl] at ZK)
    (try rw [show 0 * 3 = 0 from rfl] at ZK)
    (try rw [Addr.add_zero'] at ZK)
    obtain rfl:Zl = Xc:=(by injection e557)
    have qi557:(0 < l0_2.length) = True:=eq_true (by omega)
    (try rw [show ((0:Int)).toNat = 0 from rfl,show 0 * 3 = 0 from rfl] at ZF ZG ZH)
    (try rw [Addr.add_zero'] at ZF)
    (try rw [Addr.add_zero'] at ZG)
    (try rw [Addr.add_zero'] at ZH)
    replace ZF:=(HB.out.cell (World.block_lt_of_cell? w _ ZF)).trans ZF
    replace ZG:=(HB.out.cell (World.block_lt_of_cell? w _ ZG)).trans ZG
    replace ZH:=(HB.out.cell (World.block_lt_of_cell? w _ ZH)).trans ZH
    have YM:=aQ YL
    have YR:=aQ YK
    clear YL YK
    replace p557:=eq_true p557
    replace q557:=eq_true q557
    have p558:0 ≤ (1:Int):=(by omega)
    have q558:1 < (l0_2.length:Int):=of_decide_eq_true (by first | (with_reducible assumption) | assumption)
    obtain ⟨Xd,A558_2,c558_2,e558,ZL,ZM,ZN,YN,YO⟩:=at_T29 ZV.out 1 p558 q558
    have ZO:=ZN
    (try rw [show ((1:Int)).toNat = 1 from rfl] at ZO)
    (try rw [show 1 * 3 = 3 from rfl] at ZO)
    (try simp only [Nat.reduceMul,Nat.reduceEqDiff,Go.Addr.add,↓reduceIte] at ZO)
    have ZP:=ZM
    (try rw [show ((1:Int)).toNat = 1 from rfl] at ZP)
    (try rw [show 1 * 3 = 3 from rfl] at ZP)
    (try simp only [Nat.reduceMul,Nat.reduceEqDiff,Go.Addr.add,↓reduceIte] at ZP)
    have ZQ:=ZL
    (try rw [show ((1:Int)).toNat = 1 from rfl] at ZQ)
    (try rw [show 1 * 3 = 3 from rfl] at ZQ)
    (try simp only [Nat.reduceMul,Nat.reduceEqDiff,Go.Addr.add,↓reduceIte] at ZQ)
    obtain rfl:Zl = Xd:=(by injection e558)
    (try simp only [show (1:Int).toNat = 1 from rfl,Nat.reduceMul,Nat.reduceEqDiff,Go.Addr.add,↓reduceIte] at ZL)
    (try simp only [show (1:Int).toNat = 1 from rfl,Nat.reduceMul,Nat.reduceEqDiff,Go.Addr.add,↓reduceIte] at ZM)
    (try simp only [show (1:Int).toNat = 1 from rfl,Nat.reduceMul,Nat.reduceEqDiff,Go.Addr.add,↓reduceIte] at ZN)
    have qi558:(1 < l0_2.length) = True:=eq_true (by omega)
    (try rw [show ((1:Int)).toNat = 1 from rfl,show 1 * 3 = 3 from rfl] at ZL ZM ZN)
    replace ZL:=(HB.out.cell (World.block_lt_of_cell? w _ ZL)).trans ZL
    replace ZM:=(HB.out.cell (World.block_lt_of_cell? w _ ZM)).trans ZM
    replace ZN:=(HB.out.cell (World.block_lt_of_cell? w _ ZN)).trans ZN
    have YP:=aQ YO
    have YS:=aQ YN
    clear YO YN
    replace p558:=eq_true p558
    replace q558:=eq_true q558
    refine start_ (n:=22) (S:=fun w'=>w'.cell? ⟨Zg,0,none⟩ = some (.int .i64 a0_0)∧w'.cell? ⟨Zg,1,none⟩ = some (.int .i64 a0_1)∧w'.cell? ⟨Zg,2,none⟩ = some (.slice (some Zl) l0_2.length c0_2)∧w'.cell? Zl = some (.int .i64 ((rd_T29 l0_2 0).f0))∧w'.cell? ⟨Zl.block,Zl.off + 1,none⟩ = some (.int .i64 ((rd_T29 l0_2 0).f1))∧w'.cell? ⟨Zl.block,Zl.off + 2,none⟩ = some (.slice A557_2 ((rd_T29 l0_2 0).f2).length c557_2)∧w'.cell? ⟨Zl.block,Zl.off + 3,none⟩ = some (.int .i64 ((rd_T29 l0_2 1).f0))∧w'.cell? ⟨Zl.block,Zl.off + 3 + 1,none⟩ = some (.int .i64 ((rd_T29 l0_2 1).f1))∧w'.cell? ⟨Zl.block,Zl.off + 3 + 2,none⟩ = some (.slice A558_2 ((rd_T29 l0_2 1).f2).length c558_2)) (ds:=[]) (bn 22 0) (by kernel_rfl) rfl rfl ⟨(blk_cell Za.out 0).trans rfl,(blk_cell Za.out 1).trans rfl,(blk_cell Za.out 2).trans rfl,((HB.out.cell (World.block_lt_of_cell? w _ ZK)).trans ZK),((HB.out.cell (World.block_lt_of_cell? w _ ZJ)).trans ZJ),((HB.out.cell (World.block_lt_of_cell? w _ ZI)).trans ZI),((HB.out.cell (World.block_lt_of_cell? w _ ZQ)).trans ZQ),((HB.out.cell (World.block_lt_of_cell? w _ ZP)).trans ZP),((HB.out.cell (World.block_lt_of_cell? w _ ZO)).trans ZO)⟩ (fun hHeld=>?_);refine with_tabW spec_l17Pass.tab12 spec_l17Pass.bits12 (fun HT_ HW_=>?_)
    generalize w73.drew = w74 at Zi Zn Za Ze Zm Zp HB YM YP ZF ZG ZH ZL ZM ZN hHeld ⊢
    refine pur (i:=0) (N:=some 58) (bn 22 1) ?_
    refine pur (i:=1) (N:=some 59) (bn 22 3) ?_
    refine pur (i:=2) (N:=some 60) (bn 22 7) ?_
    refine pur (i:=3) (N:=some 61) (bn 22 15) ?_
    refine pur (i:=4) (N:=some 62) (bn 22 31) ?_
    refine pur (i:=5) (N:=some 63) (bn 22 63) ?_
    refine pur (i:=6) (N:=some 64) (bn 22 127) ?_
    refine pur (i:=7) (N:=some 65) (bn 22 255) ?_
    refine tak (i:=8) (N:=some 66) (bn 22 511) ?_
    refine pur (i:=9) (N:=some 67) (bn 22 1023) ?_
    refine pur (i:=10) (N:=some 68) (bn 22 2047) ?_
    refine pur (i:=11) (N:=some 69) (bn 22 4095) ?_
    refine pur (i:=15) (N:=some 73) (bn 22 36863) ?_
    refine tak (i:=12) (N:=some 70) (bn 22 40959) ?_
    refine pur (i:=13) (N:=some 71) (bn 22 49151) ?_
    refine tak (i:=14) (N:=some 72) (bn 22 65535) ?_
    refine tak (i:=16) (N:=some 74) (bn 22 131071) ?_
    refine pur (i:=17) (N:=some 75) (bn 22 262143) ?_
    refine tak (i:=18) (N:=some 76) (bn 22 524287) ?_
    refine one_ (i:=19) (N:=some 77) (bn 22 1048575) rfl rfl (one_of HT_.out (by kernel_rfl)) (by decide) (fun K hK=>?_)
    refine goes1 Try.func65 #[.agg #[.int .i64 ((rd_T29 l0_2 0).f0),.int .i64 ((rd_T29 l0_2 0).f1),.slice A557_2 ((rd_T29 l0_2 0).f2).length c557_2],.agg #[.int .i64 ((rd_T29 l0_2 1).f0),.int .i64 ((rd_T29 l0_2 1).f1),.slice A558_2 ((rd_T29 l0_2 1).f2).length c558_2]] ?_
    with_reducible refine (spec_l17Meet.calls k ((rd_T29 l0_2 0).f0) ((rd_T29 l0_2 0).f1) _ _ ((rd_T29 l0_2 0).f2) ((rd_T29 l0_2 1).f0) ((rd_T29 l0_2 1).f1) _ _ ((rd_T29 l0_2 1).f2) true _ ?Zu ?Zv ?Xe ?Xf A53.out).mono ?_
    (case Zu=>repeat (first | exact (Kd.C_below YM.out HB.out) | (with_reducible refine Kd.C_alloc ?_ _) | (with_reducible refine Kd.C_drewN ?_ _) | (with_reducible refine Kd.C_drew ?_)))
    (case Zv=>exact YR.out)
    (case Xe=>repeat (first | exact (Kd.C_below YP.out HB.out) | (with_reducible refine Kd.C_alloc ?_ _) | (with_reducible refine Kd.C_drewN ?_ _) | (with_reducible refine Kd.C_drew ?_)))
    (case Xf=>exact YS.out)
    rintro e w75 ⟨rfl,hb⟩
    refine ⟨_,rfl,?_⟩
    replace Zi:=aQ (Kd.N_below (nN Zi.out) hb)
    replace Zn:=aQ (Kd.N_below (nN Zn.out) hb)
    replace Za:=aQ (blk_below (nB Za.out) hb)
    replace Ze:=aQ (blk_below (nB Ze.out) hb)
    replace Zm:=aQ (blk_below (nB Zm.out) hb)
    replace Zp:=aQ (blk_below (nB Zp.out) hb)
    replace HB:=aQ (below_step bB hb)
    (try clear hb)
    refine hK.out _ _ ⟨(blk_cell Za.out 0).trans rfl,(blk_cell Za.out 1).trans rfl,(blk_cell Za.out 2).trans rfl,((HB.out.cell (World.block_lt_of_cell? w _ ZK)).trans ZK),((HB.out.cell (World.block_lt_of_cell? w _ ZJ)).trans ZJ),((HB.out.cell (World.block_lt_of_cell? w _ ZI)).trans ZI),((HB.out.cell (World.block_lt_of_cell? w _ ZQ)).trans ZQ),((HB.out.cell (World.block_lt_of_cell? w _ ZP)).trans ZP),((HB.out.cell (World.block_lt_of_cell? w _ ZO)).trans ZO)⟩ (fun hHeld=>?_)
    clear hK K
    refine nrm (N:=some 77) ?_
    refine pur (i:=20) (N:=some 78) (bn 22 2097151) ?_
    refine pur (i:=21) (N:=some 79) (bn 22 4194303) ?_
    refine done_ (done_of HT_.out (by kernel_rfl)) ?_
    obtain ⟨Tk,Tl,Tm,Tn,To,Tp⟩:=cz3 Ze.out
    try go_wp2
    refine bodyPost_ret (results_ct rfl _ _ Zd 29 #[.int .i64 0,.int .i64 0,.slice none 0 0] (0,0) _ rfl bP Try.underlying29 rfl (by kernel_rfl)) rfl ?_
    exact ⟨_,rfl,by first | exact Kd.R_nil _ _ _ _ _ | exact Kd.N_nil _ _ _ _ _ | exact Kd.V_nil _ _ _ _ _ | exact Kd.Q_nil _ _ _ _ _ | exact Kd.S_nil _ _ _ _ _,bB⟩
   ·replace c54:=Bool.eq_false_iff.mpr c54
    subst c54
    have H1:((spec_l17Two.f a0_0 t542 t543 t544 t550 t551 t552).bind fun bt560=>(some (bt560.1,bt560.2.1,bt560.2.2,true))) = some (r1,r2,r3,r4):=by rw [if_neg (show ¬ (false = true) by decide)] at H;exact H
    clear H
    have H:=H1
    clear H1
    obtain ⟨⟨t560,t561,t562⟩,A77,H⟩:=bQ H
    dsimp only at H
    simp only [Option.some.injEq,Prod.mk.injEq] at H
    obtain ⟨rfl,rfl,rfl,rfl⟩:=H
    go_enter Try.func50,Try.ntmps50
    try go_wp2_with (first | ((with_reducible refine gate_dst (N:=1) rfl ?_);refine box1 (N:=1) (cs:=#[.int .i64 a0_0,.int .i64 a0_1,.slice A0_2 l0_2.length c0_2]) (t:=29) ?_;intro Zg hg w78 hbox hb;have Za:=aQ (hbox);have ZW:=aQ (gB:w.heap.size ≤ Zg);have YF:=ZW;replace HB:=aQ (below_step bB hb);clear hb hbox hg) | ((with_reducible refine gate_dst (N:=2) rfl ?_);refine box1 (N:=2) (cs:=#[.int .i64 0,.int .i64 0,.slice none 0 0]) (t:=29) ?_;intro Zd hg w79 hbox hb;have Ze:=aQ (hbox);have Zo:=aQ (gB:w.heap.size ≤ Zd);have YG:=Zo;replace HB:=aQ (below_step bB hb);have Zh:=aQ ((by rw [hg];exact Nat.ne_of_lt (blk_lt (nB Za.out)):Zg ≠ Zd));have Zq:=aQ Zh.out.symm;replace Za:=aQ (blk_below (nB Za.out) hb);clear hb hbox hg;have Rj:=Zh.out;have Rk:=Zq.out;obtain ⟨Tq,Tr,Ts,Tt,Tu,Tv⟩:=cz3 Za.out;have p541:0 ≤ (0:Int):=(by omega);have q541:0 < (l0_2.length:Int):=of_decide_eq_true (by first | (with_reducible assumption) | assumption);obtain ⟨Zl,A541_2,c541_2,e541,Zr,Zs,Zt,ZR,ZS⟩:=at_T29 ZV.out 0 p541 q541;cases e541;have qi541:(0 < l0_2.length) = True:=eq_true (by omega);(try rw [show ((0:Int)).toNat = 0 from rfl,show 0 * 3 = 0 from rfl] at Zr Zs Zt);(try rw [Addr.add_zero'] at Zr);(try rw [Addr.add_zero'] at Zs);(try rw [Addr.add_zero'] at Zt);replace Zr:=(HB.out.cell (World.block_lt_of_cell? w _ Zr)).trans Zr;replace Zs:=(HB.out.cell (World.block_lt_of_cell? w _ Zs)).trans Zs;replace Zt:=(HB.out.cell (World.block_lt_of_cell? w _ Zt)).trans Zt;have Yc:=aQ ZS;have Yd:=aQ ZR;clear ZS ZR;replace p541:=eq_true p541;replace q541:=eq_true q541) | ((with_reducible refine gate_callee (f:=50) rfl ?_);refine goesL_ (some 47) rfl rfl Try.func50 (by kernel_rfl) rfl #[.agg #[.int .i64 ((rd_T29 l0_2 0).f0),.int .i64 ((rd_T29 l0_2 0).f1),.slice A541_2 ((rd_T29 l0_2 0).f2).length c541_2]] rfl mP ?_;(with_reducible refine (ih k (by omega) ((rd_T29 l0_2 0).f0) ((rd_T29 l0_2 0).f1) _ _ ((rd_T29 l0_2 0).f2) t542 t543 t544 true _ ?Zu ?Zv A47.out).mono ?_);(case Zu=>repeat (first | exact (Kd.C_below Yc.out HB.out) | (with_reducible refine Kd.C_alloc ?_ _) | (with_reducible refine Kd.C_drewN ?_ _) | (with_reducible refine Kd.C_drew ?_)));(case Zv=>exact Yd.out);rintro e w82 ⟨v545,rfl,ho0,hb⟩;refine ⟨_,rfl,?_⟩;have Zi:=aQ (Kd.N_lower (Kd.N_mono (ok':=fun k_=>(w.heap.size ≤ k_)∧k_ ≠ Zg∧k_ ≠ Zd) ho0 (fun k_ hk_=>⟨(Nat.le_trans (below_size bB) hk_),(Kd.freshB (nB Za.out) k_ hk_),(Kd.freshB (nB Ze.out) k_ hk_)⟩)) (below_size bB));replace Za:=aQ (blk_below (nB Za.out) hb);replace Ze:=aQ (blk_below (nB Ze.out) hb);replace HB:=aQ (below_step bB hb);(try clear hb);(try clear ho0)) | ((with_reducible refine gate_dst (N:=4) rfl ?_);refine box1 (N:=4) (cs:=#[.int .i64 0,.int .i64 0,.slice none 0 0]) (t:=29) ?_;intro Zc hg w83 hbox hb;replace Zi:=aQ (Kd.N_below (Kd.N_elderB (nN Zi.out) Zc (Nat.le_of_eq hg.symm)) hb);have Zm:=aQ (hbox);have ZE:=aQ (gB:w.heap.size ≤ Zc);have YU:=ZE;replace HB:=aQ (below_step bB hb);have Zz:=aQ ((by rw [hg];exact Nat.ne_of_lt (blk_lt (nB Za.out)):Zg ≠ Zc));have ZX:=aQ Zz.out.symm;replace Za:=aQ (blk_below (nB Za.out) hb);have ZA:=aQ ((by rw [hg];exact Nat.ne_of_lt (blk_lt (nB Ze.out)):Zd ≠ Zc));have ZY:=aQ ZA.out.symm;replace Ze:=aQ (blk_below (nB Ze.out) hb);clear hb hbox hg;have Rl:=ZX.out;have Rm:=Zz.out;have Rn:=ZY.out;have Ro:=ZA.out;obtain ⟨Tw,Tx,Ty,Tz,TA,TB⟩:=cz3 Zm.out;obtain ⟨Yv,Yw,WM⟩:=Kd.N_slice Zi.out;subst WM;obtain ⟨TC,TD,TE,TF,TG,TH⟩:=cz3 Za.out;have p549:0 ≤ (1:Int):=(by omega);have q549:1 < (l0_2.length:Int):=of_decide_eq_true (by first | (with_reducible assumption) | assumption);obtain ⟨Yz,A549_2,c549_2,e549,Zf,Zj,Zk,ZT,ZU⟩:=at_T29 ZV.out 1 p549 q549;obtain rfl:Zl = Yz:=(by injection e549);(try simp only [show (1:Int).toNat = 1 from rfl,Nat.reduceMul,Nat.reduceEqDiff,Go.Addr.add,↓reduceIte] at Zf);(try simp only [show (1:Int).toNat = 1 from rfl,Nat.reduceMul,Nat.reduceEqDiff,Go.Addr.add,↓reduceIte] at Zj);(try simp only [show (1:Int).toNat = 1 from rfl,Nat.reduceMul,Nat.reduceEqDiff,Go.Addr.add,↓reduceIte] at Zk);have qi549:(1 < l0_2.length) = True:=eq_true (by omega);(try rw [show ((1:Int)).toNat = 1 from rfl,show 1 * 3 = 3 from rfl] at Zf Zj Zk);have hn549_0:Zl.block ≠ Zc:=Nat.ne_of_lt (Nat.lt_of_lt_of_le (by have:=World.block_lt_of_cell? _ _ Zf;first | rwa [add_block] at this | exact this) ZE.out);have hn549_1:Zl.block ≠ Zc:=Nat.ne_of_lt (Nat.lt_of_lt_of_le (by have:=World.block_lt_of_cell? _ _ Zf;first | rwa [add_block] at this | exact this) ZE.out);have hn549_2:Zl.block ≠ Zc:=Nat.ne_of_lt (Nat.lt_of_lt_of_le (by have:=World.block_lt_of_cell? _ _ Zf;first | rwa [add_block] at this | exact this) ZE.out);replace Zf:=(HB.out.cell (World.block_lt_of_cell? w _ Zf)).trans Zf;replace Zj:=(HB.out.cell (World.block_lt_of_cell? w _ Zj)).trans Zj;replace Zk:=(HB.out.cell (World.block_lt_of_cell? w _ Zk)).trans Zk;have Yg:=aQ ZU;have Yh:=aQ ZT;clear ZU ZT;replace Zf:=(cell_far (p:=⟨Zc,0,none⟩) (by first | (rw [add_block];exact hn549_0) | (show (Addr.add _ _).block ≠ _;rw [add_block];exact hn549_0) | exact hn549_0) (.int .i64 t542)).trans Zf;replace Zj:=(cell_far (p:=⟨Zc,0,none⟩) (by first | (rw [add_block];exact hn549_0) | (show (Addr.add _ _).block ≠ _;rw [add_block];exact hn549_0) | exact hn549_0) (.int .i64 t542)).trans Zj;replace Zk:=(cell_far (p:=⟨Zc,0,none⟩) (by first | (rw [add_block];exact hn549_0) | (show (Addr.add _ _).block ≠ _;rw [add_block];exact hn549_0) | exact hn549_0) (.int .i64 t542)).trans Zk;replace Zf:=(cell_far (p:=⟨Zc,1,none⟩) (by first | (rw [add_block];exact hn549_1) | (show (Addr.add _ _).block ≠ _;rw [add_block];exact hn549_1) | exact hn549_1) (.int .i64 t543)).trans Zf;replace Zj:=(cell_far (p:=⟨Zc,1,none⟩) (by first | (rw [add_block];exact hn549_1) | (show (Addr.add _ _).block ≠ _;rw [add_block];exact hn549_1) | exact hn549_1) (.int .i64 t543)).trans Zj;replace Zk:=(cell_far (p:=⟨Zc,1,none⟩) (by first | (rw [add_block];exact hn549_1) | (show (Addr.add _ _).block ≠ _;rw [add_block];exact hn549_1) | exact hn549_1) (.int .i64 t543)).trans Zk;replace Zf:=(cell_far (p:=⟨Zc,2,none⟩) (by first | (rw [add_block];exact hn549_2) | (show (Addr.add _ _).block ≠ _;rw [add_block];exact hn549_2) | exact hn549_2) (.slice Yv t544.length Yw)).trans Zf;replace Zj:=(cell_far (p:=⟨Zc,2,none⟩) (by first | (rw [add_block];exact hn549_2) | (show (Addr.add _ _).block ≠ _;rw [add_block];exact hn549_2) | exact hn549_2) (.slice Yv t544.length Yw)).trans Zj;replace Zk:=(cell_far (p:=⟨Zc,2,none⟩) (by first | (rw [add_block];exact hn549_2) | (show (Addr.add _ _).block ≠ _;rw [add_block];exact hn549_2) | exact hn549_2) (.slice Yv t544.length Yw)).trans Zk;clear hn549_0;clear hn549_1;clear hn549_2;replace p549:=eq_true p549;replace q549:=eq_true q549) | ((with_reducible refine gate_callee (f:=50) rfl ?_);refine goesL_ (some 55) rfl rfl Try.func50 (by kernel_rfl) rfl #[.agg #[.int .i64 ((rd_T29 l0_2 1).f0),.int .i64 ((rd_T29 l0_2 1).f1),.slice A549_2 ((rd_T29 l0_2 1).f2).length c549_2]] rfl mP ?_;(with_reducible refine (ih k (by omega) ((rd_T29 l0_2 1).f0) ((rd_T29 l0_2 1).f1) _ _ ((rd_T29 l0_2 1).f2) t550 t551 t552 true _ ?Zu ?Zv A49.out).mono ?_);(case Zu=>exact Kd.C_below Yg.out bB);(case Zv=>exact Yh.out);rintro e w89 ⟨v553,rfl,ho0,hb⟩;refine ⟨_,rfl,?_⟩;have Zn:=aQ (Kd.N_lower (Kd.N_mono (ok':=fun k_=>(w.heap.size ≤ k_)∧some k_ ≠ (.slice Yv t544.length Yw:Value).ownBlock∧k_ ≠ Zg∧k_ ≠ Zd∧k_ ≠ Zc) ho0 (fun k_ hk_=>⟨(Nat.le_trans (below_size bB) hk_),(Kd.fresh' (Kd.N_lt (nN ((Kd.N_mono (Kd.N_far (p:=⟨Zc,2,none⟩) (Kd.N_far (p:=⟨Zc,1,none⟩) (Kd.N_far (p:=⟨Zc,0,none⟩) (Kd.N_mono Zi.out (fun k_ hk=>(⟨hk,hk.2⟩:_∧k_ ≠ Zc))) (fun _ hk=>hk.2) (.int .i64 t542)) (fun _ hk=>hk.2) (.int .i64 t543)) (fun _ hk=>hk.2) (.slice Yv t544.length Yw)) (fun _ h_=>h_.1))))) k_ hk_),(Kd.freshB (g:=Zg) (o:=.cells #[.int .i64 a0_0,.int .i64 a0_1,.slice (some Zl) l0_2.length c0_2] 29 (0,0)) bF k_ hk_),(Kd.freshB (g:=Zd) (o:=.cells #[.int .i64 0,.int .i64 0,.slice none 0 0] 29 (0,0)) bF k_ hk_),(Kd.freshB (g:=Zc) (o:=.cells #[.int .i64 t542,.int .i64 t543,.slice Yv t544.length Yw] 29 (0,0)) bP k_ hk_)⟩)) (below_size bB));replace Zi:=aQ (Kd.N_elder' (nN ((Kd.N_mono (Kd.N_far (p:=⟨Zc,2,none⟩) (Kd.N_far (p:=⟨Zc,1,none⟩) (Kd.N_far (p:=⟨Zc,0,none⟩) (Kd.N_mono Zi.out (fun k_ hk=>(⟨hk,hk.2⟩:_∧k_ ≠ Zc))) (fun _ hk=>hk.2) (.int .i64 t542)) (fun _ hk=>hk.2) (.int .i64 t543)) (fun _ hk=>hk.2) (.slice Yv t544.length Yw)) (fun _ h_=>h_.1)))) (Kd.N_base ho0) hb);replace Za:=aQ (blk_below (g:=Zg) (o:=.cells #[.int .i64 a0_0,.int .i64 a0_1,.slice (some Zl) l0_2.length c0_2] 29 (0,0)) bF hb);replace Ze:=aQ (blk_below (g:=Zd) (o:=.cells #[.int .i64 0,.int .i64 0,.slice none 0 0] 29 (0,0)) bF hb);replace Zm:=aQ (blk_below (g:=Zc) (o:=.cells #[.int .i64 t542,.int .i64 t543,.slice Yv t544.length Yw] 29 (0,0)) bP hb);replace HB:=aQ (below_step bB hb);(try clear hb);(try clear ho0)) | ((with_reducible refine gate_dst (N:=6) rfl ?_);refine box1 (N:=6) (cs:=#[.int .i64 0,.int .i64 0,.slice none 0 0]) (t:=29) ?_;intro Zb hg w90 hbox hb;replace Zi:=aQ (Kd.N_below (Kd.N_elderB (nN Zi.out) Zb (Nat.le_of_eq hg.symm)) hb);replace Zn:=aQ (Kd.N_below (Kd.N_elderB (nN Zn.out) Zb (Nat.le_of_eq hg.symm)) hb);have Zp:=aQ (hbox);have YA:=aQ (gB:w.heap.size ≤ Zb);have YV:=YA;replace HB:=aQ (below_step bB hb);have ZB:=aQ ((by rw [hg];exact Nat.ne_of_lt (blk_lt (nB Za.out)):Zg ≠ Zb));have ZZ:=aQ ZB.out.symm;replace Za:=aQ (blk_below (nB Za.out) hb);have ZC:=aQ ((by rw [hg];exact Nat.ne_of_lt (blk_lt (nB Ze.out)):Zd ≠ Zb));have Ya:=aQ ZC.out.symm;replace Ze:=aQ (blk_below (nB Ze.out) hb);have ZD:=aQ ((by rw [hg];exact Nat.ne_of_lt (blk_lt (nB Zm.out)):Zc ≠ Zb));have Yb:=aQ ZD.out.symm;replace Zm:=aQ (blk_below (nB Zm.out) hb);clear hb hbox hg;have Rp:=ZZ.out;have Rq:=ZB.out;have Rr:=Ya.out;have Rs:=ZC.out;have Rt:=Yb.out;have Ru:=ZD.out;obtain ⟨TI,TJ,TK,TL,TM,TN⟩:=cz3 Zp.out;obtain ⟨Yx,Yy,WN⟩:=Kd.N_slice Zn.out;subst WN))
    have n0_:Aside0 (Kd.N k29 29 (((w90.setCell ⟨Zb,0,none⟩ (.int .i64 t550)).setCell ⟨Zb,1,none⟩ (.int .i64 t551)).setCell ⟨Zb,2,none⟩ (.slice Yx t552.length Yy)) w.heap.size (fun k_=>(w.heap.size ≤ k_)∧some k_ ≠ (.slice Yx t552.length Yy:Value).ownBlock∧k_ ≠ Zg∧k_ ≠ Zd∧k_ ≠ Zc∧k_ ≠ Zb) (.slice Yv t544.length Yw) t544):=⟨Kd.N_mono (nFN (g:=Zb) Zi.out (fun k_ hk=>hk.2)) (fun _ hk=>⟨hk.1.1.1.1,⟨hk.1.2,⟨hk.1.1.1.2.1,⟨hk.1.1.1.2.2,⟨hk.1.1.2,hk.2⟩⟩⟩⟩⟩)⟩
    have n1_:Aside0 (Kd.N k29 29 (((w90.setCell ⟨Zb,0,none⟩ (.int .i64 t550)).setCell ⟨Zb,1,none⟩ (.int .i64 t551)).setCell ⟨Zb,2,none⟩ (.slice Yx t552.length Yy)) w.heap.size (fun k_=>(w.heap.size ≤ k_)∧some k_ ≠ (.slice Yv t544.length Yw:Value).ownBlock∧k_ ≠ Zg∧k_ ≠ Zd∧k_ ≠ Zc∧k_ ≠ Zb) (.slice Yx t552.length Yy) t552):=⟨Kd.N_mono (nFN (g:=Zb) Zn.out (fun k_ hk=>hk.2)) (fun _ hk=>⟨hk.1.1,⟨hk.1.2.1,⟨hk.1.2.2.1,⟨hk.1.2.2.2.1,⟨hk.1.2.2.2.2,hk.2⟩⟩⟩⟩⟩)⟩
    have n2_:Aside0 ((((w90.setCell ⟨Zb,0,none⟩ (.int .i64 t550)).setCell ⟨Zb,1,none⟩ (.int .i64 t551)).setCell ⟨Zb,2,none⟩ (.slice Yx t552.length Yy)).heap[Zg]? = some (.cells #[.int .i64 a0_0,.int .i64 a0_1,.slice (some Zl) l0_2.length c0_2] 29 (0,0))):=⟨bF⟩
    have n3_:Aside0 ((((w90.setCell ⟨Zb,0,none⟩ (.int .i64 t550)).setCell ⟨Zb,1,none⟩ (.int .i64 t551)).setCell ⟨Zb,2,none⟩ (.slice Yx t552.length Yy)).heap[Zd]? = some (.cells #[.int .i64 0,.int .i64 0,.slice none 0 0] 29 (0,0))):=⟨bF⟩
    have n4_:Aside0 ((((w90.setCell ⟨Zb,0,none⟩ (.int .i64 t550)).setCell ⟨Zb,1,none⟩ (.int .i64 t551)).setCell ⟨Zb,2,none⟩ (.slice Yx t552.length Yy)).heap[Zc]? = some (.cells #[.int .i64 t542,.int .i64 t543,.slice Yv t544.length Yw] 29 (0,0))):=⟨bF⟩
    have n5_:Aside0 ((((w90.setCell ⟨Zb,0,none⟩ (.int .i64 t550)).setCell ⟨Zb,1,none⟩ (.int .i64 t551)).setCell ⟨Zb,2,none⟩ (.slice Yx t552.length Yy)).heap[Zb]? = some (.cells #[.int .i64 t550,.int .i64 t551,.slice Yx t552.length Yy] 29 (0,0))):=⟨bP⟩
    have n6_:Aside0 (Below w.heap.size w (((w90.setCell ⟨Zb,0,none⟩ (.int .i64 t550)).setCell ⟨Zb,1,none⟩ (.int .i64 t551)).setCell ⟨Zb,2,none⟩ (.slice Yx t552.length Yy))):=⟨bB⟩
    (try clear Zi)
    (try clear Zn)
    (try clear Za)
    (try clear Ze)
    (try clear Zm)
    (try clear Zp)
    (try clear HB)
    generalize (((w90.setCell ⟨Zb,0,none⟩ (.int .i64 t550)).setCell ⟨Zb,1,none⟩ (.int .i64 t551)).setCell ⟨Zb,2,none⟩ (.slice Yx t552.length Yy)) = w96 at n0_ n1_ n2_ n3_ n4_ n5_ n6_ ⊢
    have Zi:=n0_
    have Zn:=n1_
    have Za:=n2_
    have Ze:=n3_
    have Zm:=n4_
    have Zp:=n5_
    have HB:=n6_
    clear n0_ n1_ n2_ n3_ n4_ n5_ n6_
    replace Zi:=aQ (Kd.N_drew Zi.out)
    replace Zn:=aQ (Kd.N_drew Zn.out)
    replace Za:=aQ (blk_drew Za.out)
    replace Ze:=aQ (blk_drew Ze.out)
    replace Zm:=aQ (blk_drew Zm.out)
    replace Zp:=aQ (blk_drew Zp.out)
    replace HB:=aQ (below_drew1 HB.out)
    have p557:0 ≤ (0:Int):=(by omega)
    have q557:0 < (l0_2.length:Int):=of_decide_eq_true (by first | (with_reducible assumption) | assumption)
    obtain ⟨Xc,A557_2,c557_2,e557,ZF,ZG,ZH,YK,YL⟩:=at_T29 ZV.out 0 p557 q557
    have ZI:=ZH
    (try rw [show ((0:Int)).toNat = 0 from rfl] at ZI)
    (try rw [show 0 * 3 = 0 from rfl] at ZI)
    (try rw [Addr.add_zero'] at ZI)
    have ZJ:=ZG
    (try rw [show ((0:Int)).toNat = 0 from rfl] at ZJ)
    (try rw [show 0 * 3 = 0 from rfl] at ZJ)
    (try rw [Addr.add_zero'] at ZJ)
    have ZK:=ZF
    (try rw [show ((0:Int)).toNat = 0 from rfl] at ZK)
    (try rw [show 0 * 3 = 0 from rfl] at ZK)
    (try rw [Addr.add_zero'] at ZK)
    obtain rfl:Zl = Xc:=(by injection e557)
    have qi557:(0 < l0_2.length) = True:=eq_true (by omega)
    (try rw [show ((0:Int)).toNat = 0 from rfl,show 0 * 3 = 0 from rfl] at ZF ZG ZH)
    (try rw [Addr.add_zero'] at ZF)
    (try rw [Addr.add_zero'] at ZG)
    (try rw [Addr.add_zero'] at ZH)
    replace ZF:=(HB.out.cell (World.block_lt_of_cell? w _ ZF)).trans ZF
    replace ZG:=(HB.out.cell (World.block_lt_of_cell? w _ ZG)).trans ZG
    replace ZH:=(HB.out.cell (World.block_lt_of_cell? w _ ZH)).trans ZH
    have YM:=aQ YL
    have YR:=aQ YK
    clear YL YK
    replace p557:=eq_true p557
    replace q557:=eq_true q557
    have p558:0 ≤ (1:Int):=(by omega)
    have q558:1 < (l0_2.length:Int):=of_decide_eq_true (by first | (with_reducible assumption) | assumption)
    obtain ⟨Xd,A558_2,c558_2,e558,ZL,ZM,ZN,YN,YO⟩:=at_T29 ZV.out 1 p558 q558
    have ZO:=ZN
    (try rw [show ((1:Int)).toNat = 1 from rfl] at ZO)
    (try rw [show 1 * 3 = 3 from rfl] at ZO)
    (try simp only [Nat.reduceMul,Nat.reduceEqDiff,Go.Addr.add,↓reduceIte] at ZO)
    have ZP:=ZM
    (try rw [show ((1:Int)).toNat = 1 from rfl] at ZP)
    (try rw [show 1 * 3 = 3 from rfl] at ZP)
    (try simp only [Nat.reduceMul,Nat.reduceEqDiff,Go.Addr.add,↓reduceIte] at ZP)
    have ZQ:=ZL
    (try rw [show ((1:Int)).toNat = 1 from rfl] at ZQ)
    (try rw [show 1 * 3 = 3 from rfl] at ZQ)
    (try simp only [Nat.reduceMul,Nat.reduceEqDiff,Go.Addr.add,↓reduceIte] at ZQ)
    obtain rfl:Zl = Xd:=(by injection e558)
    (try simp only [show (1:Int).toNat = 1 from rfl,Nat.reduceMul,Nat.reduceEqDiff,Go.Addr.add,↓reduceIte] at ZL)
    (try simp only [show (1:Int).toNat = 1 from rfl,Nat.reduceMul,Nat.reduceEqDiff,Go.Addr.add,↓reduceIte] at ZM)
    (try simp only [show (1:Int).toNat = 1 from rfl,Nat.reduceMul,Nat.reduceEqDiff,Go.Addr.add,↓reduceIte] at ZN)
    have qi558:(1 < l0_2.length) = True:=eq_true (by omega)
    (try rw [show ((1:Int)).toNat = 1 from rfl,show 1 * 3 = 3 from rfl] at ZL ZM ZN)
    replace ZL:=(HB.out.cell (World.block_lt_of_cell? w _ ZL)).trans ZL
    replace ZM:=(HB.out.cell (World.block_lt_of_cell? w _ ZM)).trans ZM
    replace ZN:=(HB.out.cell (World.block_lt_of_cell? w _ ZN)).trans ZN
    have YP:=aQ YO
    have YS:=aQ YN
    clear YO YN
    replace p558:=eq_true p558
    replace q558:=eq_true q558
    refine start_ (n:=22) (S:=fun w'=>w'.cell? ⟨Zg,0,none⟩ = some (.int .i64 a0_0)∧w'.cell? ⟨Zg,1,none⟩ = some (.int .i64 a0_1)∧w'.cell? ⟨Zg,2,none⟩ = some (.slice (some Zl) l0_2.length c0_2)∧w'.cell? Zl = some (.int .i64 ((rd_T29 l0_2 0).f0))∧w'.cell? ⟨Zl.block,Zl.off + 1,none⟩ = some (.int .i64 ((rd_T29 l0_2 0).f1))∧w'.cell? ⟨Zl.block,Zl.off + 2,none⟩ = some (.slice A557_2 ((rd_T29 l0_2 0).f2).length c557_2)∧w'.cell? ⟨Zl.block,Zl.off + 3,none⟩ = some (.int .i64 ((rd_T29 l0_2 1).f0))∧w'.cell? ⟨Zl.block,Zl.off + 3 + 1,none⟩ = some (.int .i64 ((rd_T29 l0_2 1).f1))∧w'.cell? ⟨Zl.block,Zl.off + 3 + 2,none⟩ = some (.slice A558_2 ((rd_T29 l0_2 1).f2).length c558_2)) (ds:=[]) (bn 22 0) (by kernel_rfl) rfl rfl ⟨(blk_cell Za.out 0).trans rfl,(blk_cell Za.out 1).trans rfl,(blk_cell Za.out 2).trans rfl,((HB.out.cell (World.block_lt_of_cell? w _ ZK)).trans ZK),((HB.out.cell (World.block_lt_of_cell? w _ ZJ)).trans ZJ),((HB.out.cell (World.block_lt_of_cell? w _ ZI)).trans ZI),((HB.out.cell (World.block_lt_of_cell? w _ ZQ)).trans ZQ),((HB.out.cell (World.block_lt_of_cell? w _ ZP)).trans ZP),((HB.out.cell (World.block_lt_of_cell? w _ ZO)).trans ZO)⟩ (fun hHeld=>?_);refine with_tabW spec_l17Pass.tab12 spec_l17Pass.bits12 (fun HT_ HW_=>?_)
    generalize w96.drew = w97 at Zi Zn Za Ze Zm Zp HB YM YP ZF ZG ZH ZL ZM ZN hHeld ⊢
    refine pur (i:=0) (N:=some 58) (bn 22 1) ?_
    refine pur (i:=1) (N:=some 59) (bn 22 3) ?_
    refine pur (i:=2) (N:=some 60) (bn 22 7) ?_
    refine pur (i:=3) (N:=some 61) (bn 22 15) ?_
    refine pur (i:=4) (N:=some 62) (bn 22 31) ?_
    refine pur (i:=5) (N:=some 63) (bn 22 63) ?_
    refine pur (i:=6) (N:=some 64) (bn 22 127) ?_
    refine pur (i:=7) (N:=some 65) (bn 22 255) ?_
    refine tak (i:=8) (N:=some 66) (bn 22 511) ?_
    refine pur (i:=9) (N:=some 67) (bn 22 1023) ?_
    refine pur (i:=10) (N:=some 68) (bn 22 2047) ?_
    refine pur (i:=11) (N:=some 69) (bn 22 4095) ?_
    refine pur (i:=15) (N:=some 73) (bn 22 36863) ?_
    refine tak (i:=12) (N:=some 70) (bn 22 40959) ?_
    refine pur (i:=13) (N:=some 71) (bn 22 49151) ?_
    refine tak (i:=14) (N:=some 72) (bn 22 65535) ?_
    refine tak (i:=16) (N:=some 74) (bn 22 131071) ?_
    refine pur (i:=17) (N:=some 75) (bn 22 262143) ?_
    refine tak (i:=18) (N:=some 76) (bn 22 524287) ?_
    refine one_ (i:=19) (N:=some 77) (bn 22 1048575) rfl rfl (one_of HT_.out (by kernel_rfl)) (by decide) (fun K hK=>?_)
    refine goes1 Try.func65 #[.agg #[.int .i64 ((rd_T29 l0_2 0).f0),.int .i64 ((rd_T29 l0_2 0).f1),.slice A557_2 ((rd_T29 l0_2 0).f2).length c557_2],.agg #[.int .i64 ((rd_T29 l0_2 1).f0),.int .i64 ((rd_T29 l0_2 1).f1),.slice A558_2 ((rd_T29 l0_2 1).f2).length c558_2]] ?_
    with_reducible refine (spec_l17Meet.calls k ((rd_T29 l0_2 0).f0) ((rd_T29 l0_2 0).f1) _ _ ((rd_T29 l0_2 0).f2) ((rd_T29 l0_2 1).f0) ((rd_T29 l0_2 1).f1) _ _ ((rd_T29 l0_2 1).f2) false _ ?Zu ?Zv ?Xe ?Xf A53.out).mono ?_
    (case Zu=>repeat (first | exact (Kd.C_below YM.out HB.out) | (with_reducible refine Kd.C_alloc ?_ _) | (with_reducible refine Kd.C_drewN ?_ _) | (with_reducible refine Kd.C_drew ?_)))
    (case Zv=>exact YR.out)
    (case Xe=>repeat (first | exact (Kd.C_below YP.out HB.out) | (with_reducible refine Kd.C_alloc ?_ _) | (with_reducible refine Kd.C_drewN ?_ _) | (with_reducible refine Kd.C_drew ?_)))
    (case Xf=>exact YS.out)
    rintro e w98 ⟨rfl,hb⟩
    refine ⟨_,rfl,?_⟩
    replace Zi:=aQ (Kd.N_below (nN Zi.out) hb)
    replace Zn:=aQ (Kd.N_below (nN Zn.out) hb)
    replace Za:=aQ (blk_below (nB Za.out) hb)
    replace Ze:=aQ (blk_below (nB Ze.out) hb)
    replace Zm:=aQ (blk_below (nB Zm.out) hb)
    replace Zp:=aQ (blk_below (nB Zp.out) hb)
    replace HB:=aQ (below_step bB hb)
    (try clear hb)
    refine hK.out _ _ ⟨(blk_cell Za.out 0).trans rfl,(blk_cell Za.out 1).trans rfl,(blk_cell Za.out 2).trans rfl,((HB.out.cell (World.block_lt_of_cell? w _ ZK)).trans ZK),((HB.out.cell (World.block_lt_of_cell? w _ ZJ)).trans ZJ),((HB.out.cell (World.block_lt_of_cell? w _ ZI)).trans ZI),((HB.out.cell (World.block_lt_of_cell? w _ ZQ)).trans ZQ),((HB.out.cell (World.block_lt_of_cell? w _ ZP)).trans ZP),((HB.out.cell (World.block_lt_of_cell? w _ ZO)).trans ZO)⟩ (fun hHeld=>?_)
    clear hK K
    refine nrm (N:=some 77) ?_
    refine pur (i:=20) (N:=some 78) (bn 22 2097151) ?_
    refine pur (i:=21) (N:=some 79) (bn 22 4194303) ?_
    refine done_ (done_of HT_.out (by kernel_rfl)) ?_
    obtain ⟨TO,TP,TQ,TR,TS,TT⟩:=cz3 Za.out
    obtain ⟨WO,WP,WQ,WR,WS,WT⟩:=cz3 Zm.out
    obtain ⟨WU,WV,WW,WX,WY,WZ⟩:=cz3 Zp.out
    try go_wp2_with (first | ((with_reducible refine gate_callee (f:=66) rfl ?_);refine goesL_ (some 85) rfl rfl Try.func66 (by kernel_rfl) rfl #[.int .i64 a0_0,.agg #[.int .i64 t542,.int .i64 t543,.slice Yv t544.length Yw],.agg #[.int .i64 t550,.int .i64 t551,.slice Yx t552.length Yy]] rfl mP ?_;(with_reducible refine (spec_l17Two.calls a0_0 t542 t543 (fun k_=>((w.heap.size ≤ k_)∧(some k_ ≠ (.slice Yx t552.length Yy:Value).ownBlock∧(k_ ≠ Zg∧(k_ ≠ Zd∧(k_ ≠ Zc∧k_ ≠ Zb)))))) _ _ t544 t550 t551 (fun k_=>((w.heap.size ≤ k_)∧(some k_ ≠ (.slice Yv t544.length Yw:Value).ownBlock∧(k_ ≠ Zg∧(k_ ≠ Zd∧(k_ ≠ Zc∧k_ ≠ Zb)))))) _ _ t552 t560 t561 t562 _ ?Zu ?Zv A77.out).mono ?_);(case Zu=>exact Kd.N_V (Zi.out));(case Zv=>exact Kd.N_V (Zn.out));rintro e w102 ⟨v563,rfl,ho0,hb⟩;refine ⟨_,rfl,?_⟩;replace Zi:=aQ (Kd.N_elder' (nN Zi.out) (Kd.N_base ho0) hb);replace Zn:=aQ (Kd.N_elder' (nN Zn.out) (Kd.N_base ho0) hb);have Xl:=aQ (Kd.N_lower (Kd.N_mono (ok':=fun k_=>(w.heap.size ≤ k_)∧k_ ≠ Zg∧k_ ≠ Zd∧k_ ≠ Zc∧k_ ≠ Zb) ho0 (fun k_ hk_=>⟨Or.elim hk_ (fun hs_=>Or.elim hs_ (fun hs_=>hs_.1) (fun hs_=>hs_.1)) (fun hn_=>(Nat.le_trans (below_size bB) hn_)),Or.elim hk_ (fun hs_=>Or.elim hs_ (fun hs_=>hs_.2.2.1) (fun hs_=>hs_.2.2.1)) (fun hn_=>(Kd.freshB (nB Za.out) k_ hn_)),Or.elim hk_ (fun hs_=>Or.elim hs_ (fun hs_=>hs_.2.2.2.1) (fun hs_=>hs_.2.2.2.1)) (fun hn_=>(Kd.freshB (nB Ze.out) k_ hn_)),Or.elim hk_ (fun hs_=>Or.elim hs_ (fun hs_=>hs_.2.2.2.2.1) (fun hs_=>hs_.2.2.2.2.1)) (fun hn_=>(Kd.freshB (nB Zm.out) k_ hn_)),Or.elim hk_ (fun hs_=>Or.elim hs_ (fun hs_=>hs_.2.2.2.2.2) (fun hs_=>hs_.2.2.2.2.2)) (fun hn_=>(Kd.freshB (nB Zp.out) k_ hn_))⟩)) (below_size bB));replace Za:=aQ (blk_below (nB Za.out) hb);replace Ze:=aQ (blk_below (nB Ze.out) hb);replace Zm:=aQ (blk_below (nB Zm.out) hb);replace Zp:=aQ (blk_below (nB Zp.out) hb);replace HB:=aQ (below_step bB hb);(try clear hb);(try clear ho0);obtain ⟨Va,Vb,Vc,Vd,Ve,Vf⟩:=cz3 Ze.out;obtain ⟨XA,XB,XC⟩:=Kd.N_slice Xl.out;subst XC))
    refine bodyPost_ret (results_ct rfl _ _ Zd 29 #[.int .i64 t560,.int .i64 t561,.slice XA t562.length XB] (0,0) _ rfl bP Try.underlying29 rfl (by kernel_rfl)) rfl ?_
    exact ⟨_,rfl,by (with_reducible repeat (first | apply Kd.N_alloc | apply Kd.N_drewN | apply Kd.N_drew));exact Kd.N_mono (nFN (g:=Zd) Xl.out (fun k_ hk=>hk.2.2.1)) (fun _ hk=>hk.1),bB⟩
  ·replace c51:=Bool.eq_false_iff.mpr c51
   subst c51
   have H1:(some (0,0,([]:List (S29)),false)) = some (r1,r2,r3,r4):=by rw [if_neg (show ¬ (false = true) by decide)] at H;exact H
   clear H
   have H:=H1
   clear H1
   simp only [Option.some.injEq,Prod.mk.injEq] at H
   obtain ⟨rfl,rfl,rfl,rfl⟩:=H
   go_enter Try.func50,Try.ntmps50
   try go_wp2_with (first | ((with_reducible refine gate_dst (N:=1) rfl ?_);refine box1 (N:=1) (cs:=#[.int .i64 a0_0,.int .i64 a0_1,.slice A0_2 l0_2.length c0_2]) (t:=29) ?_;intro Zg hg w132 hbox hb;have Za:=aQ (hbox);have ZW:=aQ (gB:w.heap.size ≤ Zg);have YF:=ZW;replace HB:=aQ (below_step bB hb);clear hb hbox hg) | ((with_reducible refine gate_dst (N:=2) rfl ?_);refine box1 (N:=2) (cs:=#[.int .i64 0,.int .i64 0,.slice none 0 0]) (t:=29) ?_;intro Zd hg w133 hbox hb;have Ze:=aQ (hbox);have Zo:=aQ (gB:w.heap.size ≤ Zd);have YG:=Zo;replace HB:=aQ (below_step bB hb);have Zh:=aQ ((by rw [hg];exact Nat.ne_of_lt (blk_lt (nB Za.out)):Zg ≠ Zd));have Zq:=aQ Zh.out.symm;replace Za:=aQ (blk_below (nB Za.out) hb);clear hb hbox hg;have Ss:=Zh.out;have St:=Zq.out;obtain ⟨Vg,Vh,Vi,Vj,Vk,Vl⟩:=cz3 Za.out;have p541:0 ≤ (0:Int):=(by omega);have q541:0 < (l0_2.length:Int):=of_decide_eq_true (by first | (with_reducible assumption) | assumption);obtain ⟨Zl,A541_2,c541_2,e541,Zr,Zs,Zt,ZR,ZS⟩:=at_T29 ZV.out 0 p541 q541;cases e541;have qi541:(0 < l0_2.length) = True:=eq_true (by omega);(try rw [show ((0:Int)).toNat = 0 from rfl,show 0 * 3 = 0 from rfl] at Zr Zs Zt);(try rw [Addr.add_zero'] at Zr);(try rw [Addr.add_zero'] at Zs);(try rw [Addr.add_zero'] at Zt);replace Zr:=(HB.out.cell (World.block_lt_of_cell? w _ Zr)).trans Zr;replace Zs:=(HB.out.cell (World.block_lt_of_cell? w _ Zs)).trans Zs;replace Zt:=(HB.out.cell (World.block_lt_of_cell? w _ Zt)).trans Zt;have Yc:=aQ ZS;have Yd:=aQ ZR;clear ZS ZR;replace p541:=eq_true p541;replace q541:=eq_true q541) | ((with_reducible refine gate_callee (f:=50) rfl ?_);refine goesL_ (some 47) rfl rfl Try.func50 (by kernel_rfl) rfl #[.agg #[.int .i64 ((rd_T29 l0_2 0).f0),.int .i64 ((rd_T29 l0_2 0).f1),.slice A541_2 ((rd_T29 l0_2 0).f2).length c541_2]] rfl mP ?_;(with_reducible refine (ih k (by omega) ((rd_T29 l0_2 0).f0) ((rd_T29 l0_2 0).f1) _ _ ((rd_T29 l0_2 0).f2) t542 t543 t544 true _ ?Zu ?Zv A47.out).mono ?_);(case Zu=>repeat (first | exact (Kd.C_below Yc.out HB.out) | (with_reducible refine Kd.C_alloc ?_ _) | (with_reducible refine Kd.C_drewN ?_ _) | (with_reducible refine Kd.C_drew ?_)));(case Zv=>exact Yd.out);rintro e w136 ⟨v545,rfl,ho0,hb⟩;refine ⟨_,rfl,?_⟩;have Zi:=aQ (Kd.N_lower (Kd.N_mono (ok':=fun k_=>(w.heap.size ≤ k_)∧k_ ≠ Zg∧k_ ≠ Zd) ho0 (fun k_ hk_=>⟨(Nat.le_trans (below_size bB) hk_),(Kd.freshB (nB Za.out) k_ hk_),(Kd.freshB (nB Ze.out) k_ hk_)⟩)) (below_size bB));replace Za:=aQ (blk_below (nB Za.out) hb);replace Ze:=aQ (blk_below (nB Ze.out) hb);replace HB:=aQ (below_step bB hb);(try clear hb);(try clear ho0)) | ((with_reducible refine gate_dst (N:=4) rfl ?_);refine box1 (N:=4) (cs:=#[.int .i64 0,.int .i64 0,.slice none 0 0]) (t:=29) ?_;intro Zc hg w137 hbox hb;replace Zi:=aQ (Kd.N_below (Kd.N_elderB (nN Zi.out) Zc (Nat.le_of_eq hg.symm)) hb);have Zm:=aQ (hbox);have ZE:=aQ (gB:w.heap.size ≤ Zc);have YU:=ZE;replace HB:=aQ (below_step bB hb);have Zz:=aQ ((by rw [hg];exact Nat.ne_of_lt (blk_lt (nB Za.out)):Zg ≠ Zc));have ZX:=aQ Zz.out.symm;replace Za:=aQ (blk_below (nB Za.out) hb);have ZA:=aQ ((by rw [hg];exact Nat.ne_of_lt (blk_lt (nB Ze.out)):Zd ≠ Zc));have ZY:=aQ ZA.out.symm;replace Ze:=aQ (blk_below (nB Ze.out) hb);clear hb hbox hg;have Su:=ZX.out;have Sv:=Zz.out;have Sw:=ZY.out;have Sx:=ZA.out;obtain ⟨Vm,Vn,Vo,Vp,Vq,Vr⟩:=cz3 Zm.out;obtain ⟨Yk,Yl,XD⟩:=Kd.N_slice Zi.out;subst XD;obtain ⟨Vs,Vt,Vu,Vv,Vw,Vx⟩:=cz3 Za.out;have p549:0 ≤ (1:Int):=(by omega);have q549:1 < (l0_2.length:Int):=of_decide_eq_true (by first | (with_reducible assumption) | assumption);obtain ⟨Yz,A549_2,c549_2,e549,Zf,Zj,Zk,ZT,ZU⟩:=at_T29 ZV.out 1 p549 q549;obtain rfl:Zl = Yz:=(by injection e549);(try simp only [show (1:Int).toNat = 1 from rfl,Nat.reduceMul,Nat.reduceEqDiff,Go.Addr.add,↓reduceIte] at Zf);(try simp only [show (1:Int).toNat = 1 from rfl,Nat.reduceMul,Nat.reduceEqDiff,Go.Addr.add,↓reduceIte] at Zj);(try simp only [show (1:Int).toNat = 1 from rfl,Nat.reduceMul,Nat.reduceEqDiff,Go.Addr.add,↓reduceIte] at Zk);have qi549:(1 < l0_2.length) = True:=eq_true (by omega);(try rw [show ((1:Int)).toNat = 1 from rfl,show 1 * 3 = 3 from rfl] at Zf Zj Zk);have hn549_0:Zl.block ≠ Zc:=Nat.ne_of_lt (Nat.lt_of_lt_of_le (by have:=World.block_lt_of_cell? _ _ Zf;first | rwa [add_block] at this | exact this) ZE.out);have hn549_1:Zl.block ≠ Zc:=Nat.ne_of_lt (Nat.lt_of_lt_of_le (by have:=World.block_lt_of_cell? _ _ Zf;first | rwa [add_block] at this | exact this) ZE.out);have hn549_2:Zl.block ≠ Zc:=Nat.ne_of_lt (Nat.lt_of_lt_of_le (by have:=World.block_lt_of_cell? _ _ Zf;first | rwa [add_block] at this | exact this) ZE.out);replace Zf:=(HB.out.cell (World.block_lt_of_cell? w _ Zf)).trans Zf;replace Zj:=(HB.out.cell (World.block_lt_of_cell? w _ Zj)).trans Zj;replace Zk:=(HB.out.cell (World.block_lt_of_cell? w _ Zk)).trans Zk;have Yg:=aQ ZU;have Yh:=aQ ZT;clear ZU ZT;replace Zf:=(cell_far (p:=⟨Zc,0,none⟩) (by first | (rw [add_block];exact hn549_0) | (show (Addr.add _ _).block ≠ _;rw [add_block];exact hn549_0) | exact hn549_0) (.int .i64 t542)).trans Zf;replace Zj:=(cell_far (p:=⟨Zc,0,none⟩) (by first | (rw [add_block];exact hn549_0) | (show (Addr.add _ _).block ≠ _;rw [add_block];exact hn549_0) | exact hn549_0) (.int .i64 t542)).trans Zj;replace Zk:=(cell_far (p:=⟨Zc,0,none⟩) (by first | (rw [add_block];exact hn549_0) | (show (Addr.add _ _).block ≠ _;rw [add_block];exact hn549_0) | exact hn549_0) (.int .i64 t542)).trans Zk;replace Zf:=(cell_far (p:=⟨Zc,1,none⟩) (by first | (rw [add_block];exact hn549_1) | (show (Addr.add _ _).block ≠ _;rw [add_block];exact hn549_1) | exact hn549_1) (.int .i64 t543)).trans Zf;replace Zj:=(cell_far (p:=⟨Zc,1,none⟩) (by first | (rw [add_block];exact hn549_1) | (show (Addr.add _ _).block ≠ _;rw [add_block];exact hn549_1) | exact hn549_1) (.int .i64 t543)).trans Zj;replace Zk:=(cell_far (p:=⟨Zc,1,none⟩) (by first | (rw [add_block];exact hn549_1) | (show (Addr.add _ _).block ≠ _;rw [add_block];exact hn549_1) | exact hn549_1) (.int .i64 t543)).trans Zk;replace Zf:=(cell_far (p:=⟨Zc,2,none⟩) (by first | (rw [add_block];exact hn549_2) | (show (Addr.add _ _).block ≠ _;rw [add_block];exact hn549_2) | exact hn549_2) (.slice Yk t544.length Yl)).trans Zf;replace Zj:=(cell_far (p:=⟨Zc,2,none⟩) (by first | (rw [add_block];exact hn549_2) | (show (Addr.add _ _).block ≠ _;rw [add_block];exact hn549_2) | exact hn549_2) (.slice Yk t544.length Yl)).trans Zj;replace Zk:=(cell_far (p:=⟨Zc,2,none⟩) (by first | (rw [add_block];exact hn549_2) | (show (Addr.add _ _).block ≠ _;rw [add_block];exact hn549_2) | exact hn549_2) (.slice Yk t544.length Yl)).trans Zk;clear hn549_0;clear hn549_1;clear hn549_2;replace p549:=eq_true p549;replace q549:=eq_true q549) | ((with_reducible refine gate_callee (f:=50) rfl ?_);refine goesL_ (some 55) rfl rfl Try.func50 (by kernel_rfl) rfl #[.agg #[.int .i64 ((rd_T29 l0_2 1).f0),.int .i64 ((rd_T29 l0_2 1).f1),.slice A549_2 ((rd_T29 l0_2 1).f2).length c549_2]] rfl mP ?_;(with_reducible refine (ih k (by omega) ((rd_T29 l0_2 1).f0) ((rd_T29 l0_2 1).f1) _ _ ((rd_T29 l0_2 1).f2) t550 t551 t552 false _ ?Zu ?Zv A49.out).mono ?_);(case Zu=>exact Kd.C_below Yg.out bB);(case Zv=>exact Yh.out);rintro e w143 ⟨v553,rfl,ho0,hb⟩;refine ⟨_,rfl,?_⟩;have Zn:=aQ (Kd.N_lower (Kd.N_mono (ok':=fun k_=>(w.heap.size ≤ k_)∧some k_ ≠ (.slice Yk t544.length Yl:Value).ownBlock∧k_ ≠ Zg∧k_ ≠ Zd∧k_ ≠ Zc) ho0 (fun k_ hk_=>⟨(Nat.le_trans (below_size bB) hk_),(Kd.fresh' (Kd.N_lt (nN ((Kd.N_mono (Kd.N_far (p:=⟨Zc,2,none⟩) (Kd.N_far (p:=⟨Zc,1,none⟩) (Kd.N_far (p:=⟨Zc,0,none⟩) (Kd.N_mono Zi.out (fun k_ hk=>(⟨hk,hk.2⟩:_∧k_ ≠ Zc))) (fun _ hk=>hk.2) (.int .i64 t542)) (fun _ hk=>hk.2) (.int .i64 t543)) (fun _ hk=>hk.2) (.slice Yk t544.length Yl)) (fun _ h_=>h_.1))))) k_ hk_),(Kd.freshB (g:=Zg) (o:=.cells #[.int .i64 a0_0,.int .i64 a0_1,.slice (some Zl) l0_2.length c0_2] 29 (0,0)) bF k_ hk_),(Kd.freshB (g:=Zd) (o:=.cells #[.int .i64 0,.int .i64 0,.slice none 0 0] 29 (0,0)) bF k_ hk_),(Kd.freshB (g:=Zc) (o:=.cells #[.int .i64 t542,.int .i64 t543,.slice Yk t544.length Yl] 29 (0,0)) bP k_ hk_)⟩)) (below_size bB));replace Zi:=aQ (Kd.N_elder' (nN ((Kd.N_mono (Kd.N_far (p:=⟨Zc,2,none⟩) (Kd.N_far (p:=⟨Zc,1,none⟩) (Kd.N_far (p:=⟨Zc,0,none⟩) (Kd.N_mono Zi.out (fun k_ hk=>(⟨hk,hk.2⟩:_∧k_ ≠ Zc))) (fun _ hk=>hk.2) (.int .i64 t542)) (fun _ hk=>hk.2) (.int .i64 t543)) (fun _ hk=>hk.2) (.slice Yk t544.length Yl)) (fun _ h_=>h_.1)))) (Kd.N_base ho0) hb);replace Za:=aQ (blk_below (g:=Zg) (o:=.cells #[.int .i64 a0_0,.int .i64 a0_1,.slice (some Zl) l0_2.length c0_2] 29 (0,0)) bF hb);replace Ze:=aQ (blk_below (g:=Zd) (o:=.cells #[.int .i64 0,.int .i64 0,.slice none 0 0] 29 (0,0)) bF hb);replace Zm:=aQ (blk_below (g:=Zc) (o:=.cells #[.int .i64 t542,.int .i64 t543,.slice Yk t544.length Yl] 29 (0,0)) bP hb);replace HB:=aQ (below_step bB hb);(try clear hb);(try clear ho0)) | ((with_reducible refine gate_dst (N:=6) rfl ?_);refine box1 (N:=6) (cs:=#[.int .i64 0,.int .i64 0,.slice none 0 0]) (t:=29) ?_;intro Zb hg w144 hbox hb;replace Zi:=aQ (Kd.N_below (Kd.N_elderB (nN Zi.out) Zb (Nat.le_of_eq hg.symm)) hb);replace Zn:=aQ (Kd.N_below (Kd.N_elderB (nN Zn.out) Zb (Nat.le_of_eq hg.symm)) hb);have Zp:=aQ (hbox);have YA:=aQ (gB:w.heap.size ≤ Zb);have YV:=YA;replace HB:=aQ (below_step bB hb);have ZB:=aQ ((by rw [hg];exact Nat.ne_of_lt (blk_lt (nB Za.out)):Zg ≠ Zb));have ZZ:=aQ ZB.out.symm;replace Za:=aQ (blk_below (nB Za.out) hb);have ZC:=aQ ((by rw [hg];exact Nat.ne_of_lt (blk_lt (nB Ze.out)):Zd ≠ Zb));have Ya:=aQ ZC.out.symm;replace Ze:=aQ (blk_below (nB Ze.out) hb);have ZD:=aQ ((by rw [hg];exact Nat.ne_of_lt (blk_lt (nB Zm.out)):Zc ≠ Zb));have Yb:=aQ ZD.out.symm;replace Zm:=aQ (blk_below (nB Zm.out) hb);clear hb hbox hg;have Sy:=ZZ.out;have Sz:=ZB.out;have SA:=Ya.out;have SB:=ZC.out;have SC:=Yb.out;have SD:=ZD.out;obtain ⟨Vy,Vz,VA,VB,VC,VD⟩:=cz3 Zp.out;obtain ⟨Ym,Yn,XE⟩:=Kd.N_slice Zn.out;subst XE))
   have n0_:Aside0 (Kd.N k29 29 (((w144.setCell ⟨Zb,0,none⟩ (.int .i64 t550)).setCell ⟨Zb,1,none⟩ (.int .i64 t551)).setCell ⟨Zb,2,none⟩ (.slice Ym t552.length Yn)) w.heap.size (fun k_=>(w.heap.size ≤ k_)∧some k_ ≠ (.slice Ym t552.length Yn:Value).ownBlock∧k_ ≠ Zg∧k_ ≠ Zd∧k_ ≠ Zc∧k_ ≠ Zb) (.slice Yk t544.length Yl) t544):=⟨Kd.N_mono (nFN (g:=Zb) Zi.out (fun k_ hk=>hk.2)) (fun _ hk=>⟨hk.1.1.1.1,⟨hk.1.2,⟨hk.1.1.1.2.1,⟨hk.1.1.1.2.2,⟨hk.1.1.2,hk.2⟩⟩⟩⟩⟩)⟩
   have n1_:Aside0 (Kd.N k29 29 (((w144.setCell ⟨Zb,0,none⟩ (.int .i64 t550)).setCell ⟨Zb,1,none⟩ (.int .i64 t551)).setCell ⟨Zb,2,none⟩ (.slice Ym t552.length Yn)) w.heap.size (fun k_=>(w.heap.size ≤ k_)∧some k_ ≠ (.slice Yk t544.length Yl:Value).ownBlock∧k_ ≠ Zg∧k_ ≠ Zd∧k_ ≠ Zc∧k_ ≠ Zb) (.slice Ym t552.length Yn) t552):=⟨Kd.N_mono (nFN (g:=Zb) Zn.out (fun k_ hk=>hk.2)) (fun _ hk=>⟨hk.1.1,⟨hk.1.2.1,⟨hk.1.2.2.1,⟨hk.1.2.2.2.1,⟨hk.1.2.2.2.2,hk.2⟩⟩⟩⟩⟩)⟩
   have n2_:Aside0 ((((w144.setCell ⟨Zb,0,none⟩ (.int .i64 t550)).setCell ⟨Zb,1,none⟩ (.int .i64 t551)).setCell ⟨Zb,2,none⟩ (.slice Ym t552.length Yn)).heap[Zg]? = some (.cells #[.int .i64 a0_0,.int .i64 a0_1,.slice (some Zl) l0_2.length c0_2] 29 (0,0))):=⟨bF⟩
   have n3_:Aside0 ((((w144.setCell ⟨Zb,0,none⟩ (.int .i64 t550)).setCell ⟨Zb,1,none⟩ (.int .i64 t551)).setCell ⟨Zb,2,none⟩ (.slice Ym t552.length Yn)).heap[Zd]? = some (.cells #[.int .i64 0,.int .i64 0,.slice none 0 0] 29 (0,0))):=⟨bF⟩
   have n4_:Aside0 ((((w144.setCell ⟨Zb,0,none⟩ (.int .i64 t550)).setCell ⟨Zb,1,none⟩ (.int .i64 t551)).setCell ⟨Zb,2,none⟩ (.slice Ym t552.length Yn)).heap[Zc]? = some (.cells #[.int .i64 t542,.int .i64 t543,.slice Yk t544.length Yl] 29 (0,0))):=⟨bF⟩
   have n5_:Aside0 ((((w144.setCell ⟨Zb,0,none⟩ (.int .i64 t550)).setCell ⟨Zb,1,none⟩ (.int .i64 t551)).setCell ⟨Zb,2,none⟩ (.slice Ym t552.length Yn)).heap[Zb]? = some (.cells #[.int .i64 t550,.int .i64 t551,.slice Ym t552.length Yn] 29 (0,0))):=⟨bP⟩
   have n6_:Aside0 (Below w.heap.size w (((w144.setCell ⟨Zb,0,none⟩ (.int .i64 t550)).setCell ⟨Zb,1,none⟩ (.int .i64 t551)).setCell ⟨Zb,2,none⟩ (.slice Ym t552.length Yn))):=⟨bB⟩
   (try clear Zi)
   (try clear Zn)
   (try clear Za)
   (try clear Ze)
   (try clear Zm)
   (try clear Zp)
   (try clear HB)
   generalize (((w144.setCell ⟨Zb,0,none⟩ (.int .i64 t550)).setCell ⟨Zb,1,none⟩ (.int .i64 t551)).setCell ⟨Zb,2,none⟩ (.slice Ym t552.length Yn)) = w150 at n0_ n1_ n2_ n3_ n4_ n5_ n6_ ⊢
   have Zi:=n0_
   have Zn:=n1_
   have Za:=n2_
   have Ze:=n3_
   have Zm:=n4_
   have Zp:=n5_
   have HB:=n6_
   clear n0_ n1_ n2_ n3_ n4_ n5_ n6_
   replace Zi:=aQ (Kd.N_drew Zi.out)
   replace Zn:=aQ (Kd.N_drew Zn.out)
   replace Za:=aQ (blk_drew Za.out)
   replace Ze:=aQ (blk_drew Ze.out)
   replace Zm:=aQ (blk_drew Zm.out)
   replace Zp:=aQ (blk_drew Zp.out)
   replace HB:=aQ (below_drew1 HB.out)
   refine start_ (n:=22) (S:=fun w'=>True) (ds:=[]) (bn 22 0) (by kernel_rfl) rfl rfl trivial (fun hHeld=>?_);refine with_tabW spec_l17Pass.tab12 spec_l17Pass.bits12 (fun HT_ HW_=>?_)
   generalize w150.drew = w151 at Zi Zn Za Ze Zm Zp HB hHeld ⊢
   refine pur (i:=0) (N:=some 58) (bn 22 1) ?_
   refine pur (i:=1) (N:=some 59) (bn 22 3) ?_
   refine pur (i:=2) (N:=some 60) (bn 22 7) ?_
   refine pur (i:=3) (N:=some 61) (bn 22 15) ?_
   refine pur (i:=4) (N:=some 62) (bn 22 31) ?_
   refine pur (i:=5) (N:=some 63) (bn 22 63) ?_
   refine pur (i:=6) (N:=some 64) (bn 22 127) ?_
   refine pur (i:=7) (N:=some 65) (v:=undef) (bn 22 255) ?_
   refine pur (i:=8) (N:=some 66) (v:=undef) (bn 22 511) ?_
   refine pur (i:=9) (N:=some 67) (v:=undef) (bn 22 1023) ?_
   refine pur (i:=10) (N:=some 68) (v:=undef) (bn 22 2047) ?_
   refine pur (i:=11) (N:=some 69) (v:=undef) (bn 22 4095) ?_
   refine pur (i:=12) (N:=some 70) (v:=undef) (bn 22 8191) ?_
   refine pur (i:=13) (N:=some 71) (v:=undef) (bn 22 16383) ?_
   refine pur (i:=14) (N:=some 72) (v:=undef) (bn 22 32767) ?_
   refine pur (i:=15) (N:=some 73) (v:=undef) (bn 22 65535) ?_
   refine pur (i:=16) (N:=some 74) (v:=undef) (bn 22 131071) ?_
   refine pur (i:=17) (N:=some 75) (v:=undef) (bn 22 262143) ?_
   refine pur (i:=18) (N:=some 76) (v:=undef) (bn 22 524287) ?_
   refine pur (i:=19) (N:=some 77) (v:=undef) (bn 22 1048575) ?_
   refine pur (i:=20) (N:=some 78) (v:=undef) (bn 22 2097151) ?_
   refine pur (i:=21) (N:=some 79) (bn 22 4194303) ?_
   refine done_ (done_of HT_.out (by kernel_rfl)) ?_
   obtain ⟨VE,VF,VG,VH,VI,VJ⟩:=cz3 Ze.out
   try go_wp2
   refine bodyPost_ret (results_ct rfl _ _ Zd 29 #[.int .i64 0,.int .i64 0,.slice none 0 0] (0,0) _ rfl bP Try.underlying29 rfl (by kernel_rfl)) rfl ?_
   exact ⟨_,rfl,by first | exact Kd.R_nil _ _ _ _ _ | exact Kd.N_nil _ _ _ _ _ | exact Kd.V_nil _ _ _ _ _ | exact Kd.Q_nil _ _ _ _ _ | exact Kd.S_nil _ _ _ _ _,bB⟩
 ·replace c50:=Bool.eq_false_iff.mpr c50
  subst c50
  have H1:(some (0,0,([]:List (S29)),false)) = some (r1,r2,r3,r4):=by rw [if_neg (show ¬ (false = true) by decide)] at H;exact H
  clear H
  have H:=H1
  clear H1
  simp only [Option.some.injEq,Prod.mk.injEq] at H
  obtain ⟨rfl,rfl,rfl,rfl⟩:=H
  go_enter Try.func50,Try.ntmps50
  try go_wp2_with (first | ((with_reducible refine gate_dst (N:=1) rfl ?_);refine box1 (N:=1) (cs:=#[.int .i64 a0_0,.int .i64 a0_1,.slice A0_2 l0_2.length c0_2]) (t:=29) ?_;intro Zg hg w153 hbox hb;have Za:=aQ (hbox);have ZW:=aQ (gB:w.heap.size ≤ Zg);have YF:=ZW;replace HB:=aQ (below_step bB hb);clear hb hbox hg) | ((with_reducible refine gate_dst (N:=2) rfl ?_);refine box1 (N:=2) (cs:=#[.int .i64 0,.int .i64 0,.slice none 0 0]) (t:=29) ?_;intro Zd hg w154 hbox hb;have Ze:=aQ (hbox);have Zo:=aQ (gB:w.heap.size ≤ Zd);have YG:=Zo;replace HB:=aQ (below_step bB hb);have Zh:=aQ ((by rw [hg];exact Nat.ne_of_lt (blk_lt (nB Za.out)):Zg ≠ Zd));have Zq:=aQ Zh.out.symm;replace Za:=aQ (blk_below (nB Za.out) hb);clear hb hbox hg;have SE:=Zh.out;have SF:=Zq.out;obtain ⟨VK,VL,VM,VN,VO,VP⟩:=cz3 Za.out;have p541:0 ≤ (0:Int):=(by omega);have q541:0 < (l0_2.length:Int):=of_decide_eq_true (by first | (with_reducible assumption) | assumption);obtain ⟨Zl,A541_2,c541_2,e541,Zr,Zs,Zt,ZR,ZS⟩:=at_T29 ZV.out 0 p541 q541;cases e541;have qi541:(0 < l0_2.length) = True:=eq_true (by omega);(try rw [show ((0:Int)).toNat = 0 from rfl,show 0 * 3 = 0 from rfl] at Zr Zs Zt);(try rw [Addr.add_zero'] at Zr);(try rw [Addr.add_zero'] at Zs);(try rw [Addr.add_zero'] at Zt);replace Zr:=(HB.out.cell (World.block_lt_of_cell? w _ Zr)).trans Zr;replace Zs:=(HB.out.cell (World.block_lt_of_cell? w _ Zs)).trans Zs;replace Zt:=(HB.out.cell (World.block_lt_of_cell? w _ Zt)).trans Zt;have Yc:=aQ ZS;have Yd:=aQ ZR;clear ZS ZR;replace p541:=eq_true p541;replace q541:=eq_true q541) | ((with_reducible refine gate_callee (f:=50) rfl ?_);refine goesL_ (some 47) rfl rfl Try.func50 (by kernel_rfl) rfl #[.agg #[.int .i64 ((rd_T29 l0_2 0).f0),.int .i64 ((rd_T29 l0_2 0).f1),.slice A541_2 ((rd_T29 l0_2 0).f2).length c541_2]] rfl mP ?_;(with_reducible refine (ih k (by omega) ((rd_T29 l0_2 0).f0) ((rd_T29 l0_2 0).f1) _ _ ((rd_T29 l0_2 0).f2) t542 t543 t544 false _ ?Zu ?Zv A47.out).mono ?_);(case Zu=>repeat (first | exact (Kd.C_below Yc.out HB.out) | (with_reducible refine Kd.C_alloc ?_ _) | (with_reducible refine Kd.C_drewN ?_ _) | (with_reducible refine Kd.C_drew ?_)));(case Zv=>exact Yd.out);rintro e w157 ⟨v545,rfl,ho0,hb⟩;refine ⟨_,rfl,?_⟩;have Zi:=aQ (Kd.N_lower (Kd.N_mono (ok':=fun k_=>(w.heap.size ≤ k_)∧k_ ≠ Zg∧k_ ≠ Zd) ho0 (fun k_ hk_=>⟨(Nat.le_trans (below_size bB) hk_),(Kd.freshB (nB Za.out) k_ hk_),(Kd.freshB (nB Ze.out) k_ hk_)⟩)) (below_size bB));replace Za:=aQ (blk_below (nB Za.out) hb);replace Ze:=aQ (blk_below (nB Ze.out) hb);replace HB:=aQ (below_step bB hb);(try clear hb);(try clear ho0)) | ((with_reducible refine gate_dst (N:=4) rfl ?_);refine box1 (N:=4) (cs:=#[.int .i64 0,.int .i64 0,.slice none 0 0]) (t:=29) ?_;intro Zc hg w158 hbox hb;replace Zi:=aQ (Kd.N_below (Kd.N_elderB (nN Zi.out) Zc (Nat.le_of_eq hg.symm)) hb);have Zm:=aQ (hbox);have ZE:=aQ (gB:w.heap.size ≤ Zc);have YU:=ZE;replace HB:=aQ (below_step bB hb);have Zz:=aQ ((by rw [hg];exact Nat.ne_of_lt (blk_lt (nB Za.out)):Zg ≠ Zc));have ZX:=aQ Zz.out.symm;replace Za:=aQ (blk_below (nB Za.out) hb);have ZA:=aQ ((by rw [hg];exact Nat.ne_of_lt (blk_lt (nB Ze.out)):Zd ≠ Zc));have ZY:=aQ ZA.out.symm;replace Ze:=aQ (blk_below (nB Ze.out) hb);clear hb hbox hg;have SG:=ZX.out;have SH:=Zz.out;have SI:=ZY.out;have SJ:=ZA.out;obtain ⟨VQ,VR,VS,VT,VU,VV⟩:=cz3 Zm.out;obtain ⟨Yo,Yp,XF⟩:=Kd.N_slice Zi.out;subst XF;obtain ⟨VW,VX,VY,VZ,Ua,Ub⟩:=cz3 Za.out;have p549:0 ≤ (1:Int):=(by omega);have q549:1 < (l0_2.length:Int):=of_decide_eq_true (by first | (with_reducible assumption) | assumption);obtain ⟨Yz,A549_2,c549_2,e549,Zf,Zj,Zk,ZT,ZU⟩:=at_T29 ZV.out 1 p549 q549;obtain rfl:Zl = Yz:=(by injection e549);(try simp only [show (1:Int).toNat = 1 from rfl,Nat.reduceMul,Nat.reduceEqDiff,Go.Addr.add,↓reduceIte] at Zf);(try simp only [show (1:Int).toNat = 1 from rfl,Nat.reduceMul,Nat.reduceEqDiff,Go.Addr.add,↓reduceIte] at Zj);(try simp only [show (1:Int).toNat = 1 from rfl,Nat.reduceMul,Nat.reduceEqDiff,Go.Addr.add,↓reduceIte] at Zk);have qi549:(1 < l0_2.length) = True:=eq_true (by omega);(try rw [show ((1:Int)).toNat = 1 from rfl,show 1 * 3 = 3 from rfl] at Zf Zj Zk);have hn549_0:Zl.block ≠ Zc:=Nat.ne_of_lt (Nat.lt_of_lt_of_le (by have:=World.block_lt_of_cell? _ _ Zf;first | rwa [add_block] at this | exact this) ZE.out);have hn549_1:Zl.block ≠ Zc:=Nat.ne_of_lt (Nat.lt_of_lt_of_le (by have:=World.block_lt_of_cell? _ _ Zf;first | rwa [add_block] at this | exact this) ZE.out);have hn549_2:Zl.block ≠ Zc:=Nat.ne_of_lt (Nat.lt_of_lt_of_le (by have:=World.block_lt_of_cell? _ _ Zf;first | rwa [add_block] at this | exact this) ZE.out);replace Zf:=(HB.out.cell (World.block_lt_of_cell? w _ Zf)).trans Zf;replace Zj:=(HB.out.cell (World.block_lt_of_cell? w _ Zj)).trans Zj;replace Zk:=(HB.out.cell (World.block_lt_of_cell? w _ Zk)).trans Zk;have Yg:=aQ ZU;have Yh:=aQ ZT;clear ZU ZT;replace Zf:=(cell_far (p:=⟨Zc,0,none⟩) (by first | (rw [add_block];exact hn549_0) | (show (Addr.add _ _).block ≠ _;rw [add_block];exact hn549_0) | exact hn549_0) (.int .i64 t542)).trans Zf;replace Zj:=(cell_far (p:=⟨Zc,0,none⟩) (by first | (rw [add_block];exact hn549_0) | (show (Addr.add _ _).block ≠ _;rw [add_block];exact hn549_0) | exact hn549_0) (.int .i64 t542)).trans Zj;replace Zk:=(cell_far (p:=⟨Zc,0,none⟩) (by first | (rw [add_block];exact hn549_0) | (show (Addr.add _ _).block ≠ _;rw [add_block];exact hn549_0) | exact hn549_0) (.int .i64 t542)).trans Zk;replace Zf:=(cell_far (p:=⟨Zc,1,none⟩) (by first | (rw [add_block];exact hn549_1) | (show (Addr.add _ _).block ≠ _;rw [add_block];exact hn549_1) | exact hn549_1) (.int .i64 t543)).trans Zf;replace Zj:=(cell_far (p:=⟨Zc,1,none⟩) (by first | (rw [add_block];exact hn549_1) | (show (Addr.add _ _).block ≠ _;rw [add_block];exact hn549_1) | exact hn549_1) (.int .i64 t543)).trans Zj;replace Zk:=(cell_far (p:=⟨Zc,1,none⟩) (by first | (rw [add_block];exact hn549_1) | (show (Addr.add _ _).block ≠ _;rw [add_block];exact hn549_1) | exact hn549_1) (.int .i64 t543)).trans Zk;replace Zf:=(cell_far (p:=⟨Zc,2,none⟩) (by first | (rw [add_block];exact hn549_2) | (show (Addr.add _ _).block ≠ _;rw [add_block];exact hn549_2) | exact hn549_2) (.slice Yo t544.length Yp)).trans Zf;replace Zj:=(cell_far (p:=⟨Zc,2,none⟩) (by first | (rw [add_block];exact hn549_2) | (show (Addr.add _ _).block ≠ _;rw [add_block];exact hn549_2) | exact hn549_2) (.slice Yo t544.length Yp)).trans Zj;replace Zk:=(cell_far (p:=⟨Zc,2,none⟩) (by first | (rw [add_block];exact hn549_2) | (show (Addr.add _ _).block ≠ _;rw [add_block];exact hn549_2) | exact hn549_2) (.slice Yo t544.length Yp)).trans Zk;clear hn549_0;clear hn549_1;clear hn549_2;replace p549:=eq_true p549;replace q549:=eq_true q549) | ((with_reducible refine gate_callee (f:=50) rfl ?_);refine goesL_ (some 55) rfl rfl Try.func50 (by kernel_rfl) rfl #[.agg #[.int .i64 ((rd_T29 l0_2 1).f0),.int .i64 ((rd_T29 l0_2 1).f1),.slice A549_2 ((rd_T29 l0_2 1).f2).length c549_2]] rfl mP ?_;(with_reducible refine (ih k (by omega) ((rd_T29 l0_2 1).f0) ((rd_T29 l0_2 1).f1) _ _ ((rd_T29 l0_2 1).f2) t550 t551 t552 t555 _ ?Zu ?Zv A49.out).mono ?_);(case Zu=>exact Kd.C_below Yg.out bB);(case Zv=>exact Yh.out);rintro e w164 ⟨v553,rfl,ho0,hb⟩;refine ⟨_,rfl,?_⟩;have Zn:=aQ (Kd.N_lower (Kd.N_mono (ok':=fun k_=>(w.heap.size ≤ k_)∧some k_ ≠ (.slice Yo t544.length Yp:Value).ownBlock∧k_ ≠ Zg∧k_ ≠ Zd∧k_ ≠ Zc) ho0 (fun k_ hk_=>⟨(Nat.le_trans (below_size bB) hk_),(Kd.fresh' (Kd.N_lt (nN ((Kd.N_mono (Kd.N_far (p:=⟨Zc,2,none⟩) (Kd.N_far (p:=⟨Zc,1,none⟩) (Kd.N_far (p:=⟨Zc,0,none⟩) (Kd.N_mono Zi.out (fun k_ hk=>(⟨hk,hk.2⟩:_∧k_ ≠ Zc))) (fun _ hk=>hk.2) (.int .i64 t542)) (fun _ hk=>hk.2) (.int .i64 t543)) (fun _ hk=>hk.2) (.slice Yo t544.length Yp)) (fun _ h_=>h_.1))))) k_ hk_),(Kd.freshB (g:=Zg) (o:=.cells #[.int .i64 a0_0,.int .i64 a0_1,.slice (some Zl) l0_2.length c0_2] 29 (0,0)) bF k_ hk_),(Kd.freshB (g:=Zd) (o:=.cells #[.int .i64 0,.int .i64 0,.slice none 0 0] 29 (0,0)) bF k_ hk_),(Kd.freshB (g:=Zc) (o:=.cells #[.int .i64 t542,.int .i64 t543,.slice Yo t544.length Yp] 29 (0,0)) bP k_ hk_)⟩)) (below_size bB));replace Zi:=aQ (Kd.N_elder' (nN ((Kd.N_mono (Kd.N_far (p:=⟨Zc,2,none⟩) (Kd.N_far (p:=⟨Zc,1,none⟩) (Kd.N_far (p:=⟨Zc,0,none⟩) (Kd.N_mono Zi.out (fun k_ hk=>(⟨hk,hk.2⟩:_∧k_ ≠ Zc))) (fun _ hk=>hk.2) (.int .i64 t542)) (fun _ hk=>hk.2) (.int .i64 t543)) (fun _ hk=>hk.2) (.slice Yo t544.length Yp)) (fun _ h_=>h_.1)))) (Kd.N_base ho0) hb);replace Za:=aQ (blk_below (g:=Zg) (o:=.cells #[.int .i64 a0_0,.int .i64 a0_1,.slice (some Zl) l0_2.length c0_2] 29 (0,0)) bF hb);replace Ze:=aQ (blk_below (g:=Zd) (o:=.cells #[.int .i64 0,.int .i64 0,.slice none 0 0] 29 (0,0)) bF hb);replace Zm:=aQ (blk_below (g:=Zc) (o:=.cells #[.int .i64 t542,.int .i64 t543,.slice Yo t544.length Yp] 29 (0,0)) bP hb);replace HB:=aQ (below_step bB hb);(try clear hb);(try clear ho0)) | ((with_reducible refine gate_dst (N:=6) rfl ?_);refine box1 (N:=6) (cs:=#[.int .i64 0,.int .i64 0,.slice none 0 0]) (t:=29) ?_;intro Zb hg w165 hbox hb;replace Zi:=aQ (Kd.N_below (Kd.N_elderB (nN Zi.out) Zb (Nat.le_of_eq hg.symm)) hb);replace Zn:=aQ (Kd.N_below (Kd.N_elderB (nN Zn.out) Zb (Nat.le_of_eq hg.symm)) hb);have Zp:=aQ (hbox);have YA:=aQ (gB:w.heap.size ≤ Zb);have YV:=YA;replace HB:=aQ (below_step bB hb);have ZB:=aQ ((by rw [hg];exact Nat.ne_of_lt (blk_lt (nB Za.out)):Zg ≠ Zb));have ZZ:=aQ ZB.out.symm;replace Za:=aQ (blk_below (nB Za.out) hb);have ZC:=aQ ((by rw [hg];exact Nat.ne_of_lt (blk_lt (nB Ze.out)):Zd ≠ Zb));have Ya:=aQ ZC.out.symm;replace Ze:=aQ (blk_below (nB Ze.out) hb);have ZD:=aQ ((by rw [hg];exact Nat.ne_of_lt (blk_lt (nB Zm.out)):Zc ≠ Zb));have Yb:=aQ ZD.out.symm;replace Zm:=aQ (blk_below (nB Zm.out) hb);clear hb hbox hg;have SK:=ZZ.out;have SL:=ZB.out;have SM:=Ya.out;have SN:=ZC.out;have SO:=Yb.out;have SP:=ZD.out;obtain ⟨Uc,Ud,Ue,Uf,Ug,Uh⟩:=cz3 Zp.out;obtain ⟨Yq,Yr,XG⟩:=Kd.N_slice Zn.out;subst XG))
  have n0_:Aside0 (Kd.N k29 29 (((w165.setCell ⟨Zb,0,none⟩ (.int .i64 t550)).setCell ⟨Zb,1,none⟩ (.int .i64 t551)).setCell ⟨Zb,2,none⟩ (.slice Yq t552.length Yr)) w.heap.size (fun k_=>(w.heap.size ≤ k_)∧some k_ ≠ (.slice Yq t552.length Yr:Value).ownBlock∧k_ ≠ Zg∧k_ ≠ Zd∧k_ ≠ Zc∧k_ ≠ Zb) (.slice Yo t544.length Yp) t544):=⟨Kd.N_mono (nFN (g:=Zb) Zi.out (fun k_ hk=>hk.2)) (fun _ hk=>⟨hk.1.1.1.1,⟨hk.1.2,⟨hk.1.1.1.2.1,⟨hk.1.1.1.2.2,⟨hk.1.1.2,hk.2⟩⟩⟩⟩⟩)⟩
  have n1_:Aside0 (Kd.N k29 29 (((w165.setCell ⟨Zb,0,none⟩ (.int .i64 t550)).setCell ⟨Zb,1,none⟩ (.int .i64 t551)).setCell ⟨Zb,2,none⟩ (.slice Yq t552.length Yr)) w.heap.size (fun k_=>(w.heap.size ≤ k_)∧some k_ ≠ (.slice Yo t544.length Yp:Value).ownBlock∧k_ ≠ Zg∧k_ ≠ Zd∧k_ ≠ Zc∧k_ ≠ Zb) (.slice Yq t552.length Yr) t552):=⟨Kd.N_mono (nFN (g:=Zb) Zn.out (fun k_ hk=>hk.2)) (fun _ hk=>⟨hk.1.1,⟨hk.1.2.1,⟨hk.1.2.2.1,⟨hk.1.2.2.2.1,⟨hk.1.2.2.2.2,hk.2⟩⟩⟩⟩⟩)⟩
  have n2_:Aside0 ((((w165.setCell ⟨Zb,0,none⟩ (.int .i64 t550)).setCell ⟨Zb,1,none⟩ (.int .i64 t551)).setCell ⟨Zb,2,none⟩ (.slice Yq t552.length Yr)).heap[Zg]? = some (.cells #[.int .i64 a0_0,.int .i64 a0_1,.slice (some Zl) l0_2.length c0_2] 29 (0,0))):=⟨bF⟩
  have n3_:Aside0 ((((w165.setCell ⟨Zb,0,none⟩ (.int .i64 t550)).setCell ⟨Zb,1,none⟩ (.int .i64 t551)).setCell ⟨Zb,2,none⟩ (.slice Yq t552.length Yr)).heap[Zd]? = some (.cells #[.int .i64 0,.int .i64 0,.slice none 0 0] 29 (0,0))):=⟨bF⟩
  have n4_:Aside0 ((((w165.setCell ⟨Zb,0,none⟩ (.int .i64 t550)).setCell ⟨Zb,1,none⟩ (.int .i64 t551)).setCell ⟨Zb,2,none⟩ (.slice Yq t552.length Yr)).heap[Zc]? = some (.cells #[.int .i64 t542,.int .i64 t543,.slice Yo t544.length Yp] 29 (0,0))):=⟨bF⟩
  have n5_:Aside0 ((((w165.setCell ⟨Zb,0,none⟩ (.int .i64 t550)).setCell ⟨Zb,1,none⟩ (.int .i64 t551)).setCell ⟨Zb,2,none⟩ (.slice Yq t552.length Yr)).heap[Zb]? = some (.cells #[.int .i64 t550,.int .i64 t551,.slice Yq t552.length Yr] 29 (0,0))):=⟨bP⟩
  have n6_:Aside0 (Below w.heap.size w (((w165.setCell ⟨Zb,0,none⟩ (.int .i64 t550)).setCell ⟨Zb,1,none⟩ (.int .i64 t551)).setCell ⟨Zb,2,none⟩ (.slice Yq t552.length Yr))):=⟨bB⟩
  (try clear Zi)
  (try clear Zn)
  (try clear Za)
  (try clear Ze)
  (try clear Zm)
  (try clear Zp)
  (try clear HB)
  generalize (((w165.setCell ⟨Zb,0,none⟩ (.int .i64 t550)).setCell ⟨Zb,1,none⟩ (.int .i64 t551)).setCell ⟨Zb,2,none⟩ (.slice Yq t552.length Yr)) = w171 at n0_ n1_ n2_ n3_ n4_ n5_ n6_ ⊢
  have Zi:=n0_
  have Zn:=n1_
  have Za:=n2_
  have Ze:=n3_
  have Zm:=n4_
  have Zp:=n5_
  have HB:=n6_
  clear n0_ n1_ n2_ n3_ n4_ n5_ n6_
  replace Zi:=aQ (Kd.N_drew Zi.out)
  replace Zn:=aQ (Kd.N_drew Zn.out)
  replace Za:=aQ (blk_drew Za.out)
  replace Ze:=aQ (blk_drew Ze.out)
  replace Zm:=aQ (blk_drew Zm.out)
  replace Zp:=aQ (blk_drew Zp.out)
  replace HB:=aQ (below_drew1 HB.out)
  refine start_ (n:=22) (S:=fun w'=>True) (ds:=[]) (bn 22 0) (by kernel_rfl) rfl rfl trivial (fun hHeld=>?_);refine with_tabW spec_l17Pass.tab12 spec_l17Pass.bits12 (fun HT_ HW_=>?_)
  generalize w171.drew = w172 at Zi Zn Za Ze Zm Zp HB hHeld ⊢
  refine pur (i:=0) (N:=some 58) (bn 22 1) ?_
  refine pur (i:=1) (N:=some 59) (bn 22 3) ?_
  refine pur (i:=2) (N:=some 60) (bn 22 7) ?_
  refine pur (i:=3) (N:=some 61) (v:=undef) (bn 22 15) ?_
  refine pur (i:=4) (N:=some 62) (v:=undef) (bn 22 31) ?_
  refine pur (i:=5) (N:=some 63) (bn 22 63) ?_
  refine pur (i:=6) (N:=some 64) (bn 22 127) ?_
  refine pur (i:=7) (N:=some 65) (v:=undef) (bn 22 255) ?_
  refine pur (i:=8) (N:=some 66) (v:=undef) (bn 22 511) ?_
  refine pur (i:=9) (N:=some 67) (v:=undef) (bn 22 1023) ?_
  refine pur (i:=10) (N:=some 68) (v:=undef) (bn 22 2047) ?_
  refine pur (i:=11) (N:=some 69) (v:=undef) (bn 22 4095) ?_
  refine pur (i:=12) (N:=some 70) (v:=undef) (bn 22 8191) ?_
  refine pur (i:=13) (N:=some 71) (v:=undef) (bn 22 16383) ?_
  refine pur (i:=14) (N:=some 72) (v:=undef) (bn 22 32767) ?_
  refine pur (i:=15) (N:=some 73) (v:=undef) (bn 22 65535) ?_
  refine pur (i:=16) (N:=some 74) (v:=undef) (bn 22 131071) ?_
  refine pur (i:=17) (N:=some 75) (v:=undef) (bn 22 262143) ?_
  refine pur (i:=18) (N:=some 76) (v:=undef) (bn 22 524287) ?_
  refine pur (i:=19) (N:=some 77) (v:=undef) (bn 22 1048575) ?_
  refine pur (i:=20) (N:=some 78) (v:=undef) (bn 22 2097151) ?_
  refine pur (i:=21) (N:=some 79) (bn 22 4194303) ?_
  refine done_ (done_of HT_.out (by kernel_rfl)) ?_
  obtain ⟨Ui,Uj,Uk,Ul,Um,Un⟩:=cz3 Ze.out
  try go_wp2
  refine bodyPost_ret (results_ct rfl _ _ Zd 29 #[.int .i64 0,.int .i64 0,.slice none 0 0] (0,0) _ rfl bP Try.underlying29 rfl (by kernel_rfl)) rfl ?_
  exact ⟨_,rfl,by first | exact Kd.R_nil _ _ _ _ _ | exact Kd.N_nil _ _ _ _ _ | exact Kd.V_nil _ _ _ _ _ | exact Kd.Q_nil _ _ _ _ _ | exact Kd.S_nil _ _ _ _ _,bB⟩
def spec_l92Clock.f:Nat → List Int → Int → Int → Option (Int × Int × (List (S29)) × Int)
 | 0,_,_,_=>none
 | k + 1,s0_0,s0_1,a1=>if a1 = 0 then (some (0,0,([]:List (S29)),s0_1)) else ((spec_l6Rd_pick.f k s0_0 s0_1 9).bind fun bt213=>(if bt213.1 < 3 then ((spec_l91Act.f k s0_0 bt213.2).bind fun bt215=>((spec_l92Clock.f k s0_0 bt215.2 (wrap64 (a1 - 1))).bind fun bt217=>(some (1,bt215.1,(([(⟨bt217.1,bt217.2.1,bt217.2.2.1⟩:S29)]:List (S29))),bt217.2.2.2)))) else (if bt213.1 < 6 then ((spec_l6Rd_pick.f k s0_0 bt213.2 4).bind fun bt226=>((spec_l6Rd_pick.f k s0_0 bt226.2 30).bind fun bt228=>(if bt228.1 = 0 then ((some (([0,10,9]:List Int):List Int)).bind fun y230=>((spec_l6Rd_pick.f k s0_0 bt228.2 3).bind fun bt233=>(if 0 ≤ bt233.1 then (if bt233.1 < (y230.length:Int) then ((spec_l92Clock.f k s0_0 bt233.2 (wrap64 (a1 - 1))).bind fun bt236=>(some (2,rd y230 bt233.1,(([(⟨bt236.1,bt236.2.1,bt236.2.2.1⟩:S29)]:List (S29))),bt236.2.2.2))) else (none)) else (none)))) else ((spec_l92Clock.f k s0_0 bt228.2 (wrap64 (a1 - 1))).bind fun bt245=>(some (2,wrap64 (1 + bt226.1),(([(⟨bt245.1,bt245.2.1,bt245.2.2.1⟩:S29)]:List (S29))),bt245.2.2.2)))))) else (if bt213.1 = 6 then (some (0,0,([]:List (S29)),bt213.2)) else (if bt213.1 = 8 then ((spec_l92Clock.f k s0_0 bt213.2 (wrap64 (a1 - 1))).bind fun bt254=>((spec_l92Clock.f k s0_0 bt254.2.2.2 (wrap64 (a1 - 1))).bind fun bt261=>(some (4,0,(([(⟨bt254.1,bt254.2.1,bt254.2.2.1⟩:S29),(⟨bt261.1,bt261.2.1,bt261.2.2.1⟩:S29)]:List (S29))),bt261.2.2.2)))) else ((spec_l92Clock.f k s0_0 bt213.2 (wrap64 (a1 - 1))).bind fun bt270=>((spec_l92Clock.f k s0_0 bt270.2.2.2 (wrap64 (a1 - 1))).bind fun bt277=>(some (3,0,(([(⟨bt270.1,bt270.2.1,bt270.2.2.1⟩:S29),(⟨bt277.1,bt277.2.1,bt277.2.2.1⟩:S29)]:List (S29))),bt277.2.2.2)))))))))
theorem spec_l92Clock.mono_l:∀ k,(∀ y0 y1 y2,LeO (spec_l92Clock.f k y0 y1 y2) (spec_l92Clock.f (k + 1) y0 y1 y2))
 | 0=>fun _ _ _ r h=>by simp [spec_l92Clock.f] at h
 | k + 1=>by
  have ih0:=spec_l92Clock.mono_l k
  ·intro y0 y1 y2
   unfold spec_l92Clock.f
   repeat' first
   | (with_reducible exact ih0 _ _ _)
   | (with_reducible exact spec_l6Rd_pick.mono _ _ _ _)
   | (with_reducible exact spec_l91Act.mono _ _ _)
   | (with_reducible exact LeO.refl _)
   | (with_reducible exact LeO.none _)
   | (with_reducible refine LeO.ite ?_ ?_)
   | (with_reducible refine LeO.bind ?_ (fun _=>?_))
   | exact ih0 _ _ _
   | exact spec_l6Rd_pick.mono _ _ _ _
   | exact spec_l91Act.mono _ _ _
   | exact LeO.none _
   | refine LeO.ite ?_ ?_
   | refine LeO.bind ?_ (fun _=>?_)
theorem spec_l92Clock.mono:∀ a0 a1 a2 k,LeO (spec_l92Clock.f k a0 a1 a2) (spec_l92Clock.f (k + 1) a0 a1 a2):=by
 intro a0 a1 a2 k
 have ih0:=spec_l92Clock.mono_l k
 exact ih0 a0 a1 a2
def spec_l92Clock.T18:Bool × List (List Nat × List Nat):=(true,[([],[]),([],[]),([],[]),([],[]),([3],[3]),([2,4],[2,4]),([1,5],[1,5]),([0,6],[0,6]),([7,5,0,1,2,3,4,5,6,7],[7])])
def spec_l92Clock.B18:List Nat:=[0,0,0,0,8,28,62,127,255]
theorem spec_l92Clock.tab18:rtab .any (opsOf Try.f61 18) = spec_l92Clock.T18:=by kernel_rfl
theorem spec_l92Clock.bits18:waitsOk spec_l92Clock.T18.2 spec_l92Clock.B18 = true:=by kernel_rfl
set_option maxHeartbeats 8000000 in
set_option maxRecDepth 100000 in
theorem spec_l92Clock.calls (k:Nat):∀ (g:Nat) (s0_0:List Int) (s0_1:Int) (a1:Int) (r1:Int) (r2:Int) (r3:List (S29)) (r4:Int) (w0 w:World) (hI:IsS67 w0 w g s0_0 s0_1) (hB:Below w0.heap.size w0 w) (h:spec_l92Clock.f k s0_0 s0_1 a1 = some (r1,r2,r3,r4)),
  Calls Try.prog 61 #[.pointer (some ⟨g,0,none⟩),.int .i64 a1] w fun e w'=>∃ v2_:Value,e = .returned (.agg #[.int .i64 r1,.int .i64 r2,v2_])∧Kd.N k29 29 w' w.heap.size (fun k_=>(w.heap.size ≤ k_)) v2_ r3∧IsS67 w0 w' g s0_0 r4∧Below w0.heap.size w0 w'∧KeepBut w w' g none:=by
 induction k using Nat.strongRecOn with
 | _ k ih =>
 intro g s0_0 s0_1 a1 r1 r2 r3 r4 w0 w hI hB h
 cases k with
 | zero=>exact absurd h (by simp [spec_l92Clock.f])
 | succ k =>
 simp only [spec_l92Clock.f] at h
 have hu29:=Try.underlying29
 have HI0:=aQ hI
 have HK:=aQ (KeepBut.refl w g none)
 have HL:=aQ hB.size
 clear hI
 have HW0:=aQ hB.size
 have HB:=aQ hB
 clear hB
 have H:=h
 clear h
 by_cases c3:a1 = 0
 ·rw [if_pos c3] at H
  have c3b0:(a1 == 0) = true:=beq_iff_eq.mpr c3
  have c3b1:(a1 != 0) = false:=bne_eq_false_iff_eq.mpr c3
  clear c3
  simp only [Option.some.injEq,Prod.mk.injEq] at H
  obtain ⟨rfl,rfl,rfl,rfl⟩:=H
  go_enter Try.func61,Try.ntmps61
  go_wp2_with (first | ((with_reducible refine gate_dst (N:=4) rfl ?_);refine box1 (N:=4) (cs:=#[.int .i64 0,.int .i64 0,.slice none 0 0]) (t:=29) ?_;intro Za hg w4 hbox hb;replace HB:=aQ (below_step bB hb);have Zb:=aQ (hbox);have Zv:=aQ ((by rw [hg];exact (keep_size (w:=w) (g:=g) (row:=none) bK):w.heap.size ≤ Za));have Zw:=aQ ((Nat.le_trans HW0.out (by rw [hg];exact (keep_size (w:=w) (g:=g) (row:=none) bK):w.heap.size ≤ Za):w0.heap.size ≤ Za));replace HK:=aQ (KeepBut.trans bK (KeepBut.of_below hb g none) (.inl rfl));have Zl:=aQ ((by rw [hg];exact Nat.ne_of_lt (IsS67.lt (show IsS67 w0 _ g s0_0 s0_1 from bI)):g ≠ Za));have Ze:=aQ ((by rw [hg];exact Nat.ne_of_gt (IsS67.lt (show IsS67 w0 _ g s0_0 s0_1 from bI)):Za ≠ g));replace HI0:=aQ (IsS67.below bI hb);clear hb hbox hg;have XR:=Ze.out;have XS:=Zl.out;obtain ⟨Xr,Xs,Xt,Xu,Xv,Xw⟩:=cz3 Zb.out))
  refine bodyPost_ret (results_cell_row rfl _ _ Za 29 #[.int .i64 0,.int .i64 0,.slice none 0 0] (0,0) _ rfl bP Try.underlying29 rfl (by kernel_rfl)) rfl ?_
  exact ⟨_,rfl,by first | exact Kd.R_nil _ _ _ _ _ | exact Kd.N_nil _ _ _ _ _ | exact Kd.V_nil _ _ _ _ _ | exact Kd.Q_nil _ _ _ _ _ | exact Kd.S_nil _ _ _ _ _,bI,bB,bK⟩
 rw [if_neg c3] at H
 have c3b0:(a1 == 0) = false:=beq_eq_false_iff_ne.mpr c3
 have c3b1:(a1 != 0) = true:=bne_iff_ne.mpr c3
 obtain ⟨⟨t213,t214⟩,A7,H⟩:=bQ H
 dsimp only at H
 by_cases c8:t213 < 3
 ·rw [if_pos c8] at H
  have c8b0:decide (t213 < 3) = true:=decide_eq_true c8
  clear c8
  obtain ⟨⟨t215,t216⟩,A9,H⟩:=bQ H
  dsimp only at H
  obtain ⟨⟨t217,t218,t219,t222⟩,A10,H⟩:=bQ H
  dsimp only at H
  obtain ⟨y223,ZG⟩:∃ y_:List (S29),y_ = (([(⟨t217,t218,t219⟩:S29)]:List (S29))):=⟨_,rfl⟩
  replace H:(some (1,t215,y223,t222)) = some (r1,r2,r3,r4):=by rw [ZG];exact H
  have ZM:=aQ ZG
  clear ZG
  simp only [Option.some.injEq,Prod.mk.injEq] at H
  obtain ⟨rfl,rfl,rfl,rfl⟩:=H
  go_enter Try.func61,Try.ntmps61
  go_wp2_with (first | ((with_reducible refine gate_dst (N:=4) rfl ?_);refine box1 (N:=4) (cs:=#[.int .i64 0,.int .i64 0,.slice none 0 0]) (t:=29) ?_;intro Za hg w11 hbox hb;replace HB:=aQ (below_step bB hb);have Zb:=aQ (hbox);have Zv:=aQ ((by rw [hg];exact (keep_size (w:=w) (g:=g) (row:=none) bK):w.heap.size ≤ Za));have Zw:=aQ ((Nat.le_trans HW0.out (by rw [hg];exact (keep_size (w:=w) (g:=g) (row:=none) bK):w.heap.size ≤ Za):w0.heap.size ≤ Za));replace HK:=aQ (KeepBut.trans bK (KeepBut.of_below hb g none) (.inl rfl));have Zl:=aQ ((by rw [hg];exact Nat.ne_of_lt (IsS67.lt (show IsS67 w0 _ g s0_0 s0_1 from bI)):g ≠ Za));have Ze:=aQ ((by rw [hg];exact Nat.ne_of_gt (IsS67.lt (show IsS67 w0 _ g s0_0 s0_1 from bI)):Za ≠ g));replace HI0:=aQ (IsS67.below bI hb);clear hb hbox hg) | ((with_reducible refine gate_callee (f:=56) rfl ?_);refine goesL_ (some 14) rfl rfl Try.func56 (by kernel_rfl) rfl #[.pointer (some ⟨g,0,none⟩),.int .i64 9] rfl mP ?_;(with_reducible refine (spec_l6Rd_pick.calls k g s0_0 s0_1 9 t213 t214 w0 _ ?Zf ?Zg A7.out).mono ?_);(case Zf=>exact bI);(case Zg=>exact bB);rintro e w12 ⟨rfl,hi,hb,hk⟩;refine ⟨_,rfl,?_⟩;replace Zb:=aQ (KeepBut.blk hk (g':=Za) (o:=.cells #[.int .i64 0,.int .i64 0,.slice none 0 0] 29 (0,0)) (nB Zb.out) Ze.out (by simp));replace HK:=aQ (KeepBut.trans bK hk (.inl rfl));replace HB:=aQ (hb);replace HI0:=aQ (hi);(try clear hb);(try clear hk);(try clear hi)) | ((with_reducible refine gate_callee (f:=68) rfl ?_);refine goesL_ (some 19) rfl rfl Try.func68 (by kernel_rfl) rfl #[.pointer (some ⟨g,0,none⟩)] rfl mP ?_;(with_reducible refine (spec_l91Act.calls k g s0_0 t214 t215 t216 w0 _ ?Zf ?Zg A9.out).mono ?_);(case Zf=>exact bI);(case Zg=>exact bB);rintro e w13 ⟨rfl,hi,hb,hk⟩;refine ⟨_,rfl,?_⟩;replace Zb:=aQ (KeepBut.blk hk (g':=Za) (o:=.cells #[.int .i64 0,.int .i64 0,.slice none 0 0] 29 (0,0)) (nB Zb.out) Ze.out (by simp));replace HK:=aQ (KeepBut.trans bK hk (.inl rfl));replace HB:=aQ (hb);replace HI0:=aQ (hi);(try clear hb);(try clear hk);(try clear hi)) | ((with_reducible refine gate_callee (f:=61) rfl ?_);refine goesL_ (some 24) rfl rfl Try.func61 (by kernel_rfl) rfl #[.pointer (some ⟨g,0,none⟩),.int .i64 (wrap64 (a1 - 1))] rfl mP ?_;(with_reducible refine (ih k (by omega) g s0_0 t216 (wrap64 (a1 - 1)) t217 t218 t219 t222 w0 _ ?Zf ?Zg A10.out).mono ?_);(case Zf=>exact bI);(case Zg=>exact bB);rintro e w14 ⟨v220,rfl,ho0,hi,hb,hk⟩;refine ⟨_,rfl,?_⟩;have Zz:=aQ (Kd.N_lower (Kd.N_mono (ok':=fun k_=>(w.heap.size ≤ k_)∧k_ ≠ Za∧k_ ≠ g) ho0 (fun k_ hk_=>⟨(Nat.le_trans (keep_size (w:=w) (g:=g) (row:=none) bK) hk_),(Kd.freshB (nB Zb.out) k_ hk_),(IsS67.fresh bI k_ hk_)⟩)) (keep_size (w:=w) (g:=g) (row:=none) bK));replace Zb:=aQ (KeepBut.blk hk (g':=Za) (o:=.cells #[.int .i64 0,.int .i64 0,.slice none 0 0] 29 (0,0)) (nB Zb.out) Ze.out (by simp));replace HK:=aQ (KeepBut.trans bK hk (.inl rfl));replace HB:=aQ (hb);replace HI0:=aQ (hi);(try clear hb);(try clear hk);(try clear hi);(try clear ho0);obtain ⟨ZZ,Ya,Yn⟩:=Kd.N_slice Zz.out;subst Yn) | ((with_reducible refine gate_dst (N:=25) rfl ?_);refine Kd.N_lit k29 _ 29 ?hg (N':=25) ?hd (xs:=([(⟨t217,t218,t219⟩:S29)]:List (S29))) (inner:=[.int .i64 t217,.int .i64 t218,.slice ZZ t219.length Ya]) (ok:=(fun k_=>(w.heap.size ≤ k_)∧k_ ≠ Za∧k_ ≠ g)) (okp:=(fun k_=>(w.heap.size ≤ k_)∧k_ ≠ Za∧k_ ≠ g)) ?hr ?hp (fun _ hk=>hk) ((show ∀ k_,w14.heap.size ≤ k_ → (fun k_=>(w.heap.size ≤ k_)∧k_ ≠ Za∧k_ ≠ g) k_ from fun k_ hk=>⟨(Nat.le_trans (keep_size (w:=w) (g:=g) (row:=none) bK) hk),Kd.freshB (nB Zb.out) k_ hk,IsS67.fresh bI k_ hk⟩) _ (Nat.le_refl _)) (Below.refl _ _) (Nat.le_refl _) (by simp) ?_;(case hd=>rfl);(case hg=>rfl);(case hr=>first | (go_simp;done) | (go_simp;rfl));(case hp=>exact (Reps.c3 (show Kd.FK k29 _ _ (⟨t217,t218,t219⟩:S29) [.int .i64 t217,.int .i64 t218,.slice ZZ t219.length Ya] from (k29_mkF _ _ (⟨t217,t218,t219⟩:S29) (Kd.N_reads' (Kd.N_mono (ok':=(fun k_=>(w.heap.size ≤ k_)∧k_ ≠ Za∧k_ ≠ g)) (Zz.out) (fun k_ hk=>⟨hk.1,⟨hk.2.1,hk.2.2⟩⟩))).2.1 (Kd.N_F (Kd.N_mono (ok':=(fun k_=>(w.heap.size ≤ k_)∧k_ ≠ Za∧k_ ≠ g)) (Zz.out) (fun k_ hk=>⟨hk.1,⟨hk.2.1,hk.2.2⟩⟩))))) (Reps.none _ _)));intro v224 w16 ho17 hb hg_ hnew_;clear hg_ hnew_;(first | rw [← ZM.out] at ho17 | (simp only [Int.reduceToNat] at ho17;rw [← ZM.out] at ho17));have n0_:=aQ (Kd.N_lower ho17 (keep_size (w:=w) (g:=g) (row:=none) bK));have n1_:=aQ (IsS67.below bI hb);have n2_:=aQ (blk_below (nB Zb.out) hb);have n3_:=aQ (KeepBut.trans bK (KeepBut.of_below hb g none) (.inl rfl));have n4_:=aQ (below_step bB hb);clear HI0;clear Zb;clear HK;clear HB;clear Zz;have ZN:=n0_;have HI0:=n1_;have Zb:=n2_;have HK:=n3_;have HB:=n4_;clear n0_ n1_ n2_ n3_ n4_;clear hb ho17;obtain ⟨Yo,Yp,Yq⟩:=Kd.N_slice ZN.out;subst Yq;have Xx:=Ze.out;have Xy:=Zl.out;obtain ⟨YG,YH,YI,YJ,YK,YL⟩:=cz3 Zb.out))
  refine bodyPost_ret (results_cell_row rfl _ _ Za 29 #[.int .i64 1,.int .i64 t215,.slice Yo y223.length Yp] (0,0) _ rfl bP Try.underlying29 rfl (by kernel_rfl)) rfl ?_
  exact ⟨_,rfl,by (with_reducible repeat (first | apply Kd.N_alloc | apply Kd.N_drewN | apply Kd.N_drew));exact Kd.N_mono (nFN (g:=Za) ZN.out (fun k_ hk=>hk.2.1)) (fun _ hk=>hk.1),bI,bB,bK⟩
 rw [if_neg c8] at H
 have c8b0:decide (t213 < 3) = false:=decide_eq_false c8
 clear c8
 by_cases c21:t213 < 6
 ·rw [if_pos c21] at H
  have c21b0:decide (t213 < 6) = true:=decide_eq_true c21
  clear c21
  obtain ⟨⟨t226,t227⟩,A22,H⟩:=bQ H
  dsimp only at H
  obtain ⟨⟨t228,t229⟩,A23,H⟩:=bQ H
  dsimp only at H
  by_cases c24:t228 = 0;rotate_left
  ·rw [if_neg c24] at H
   have c24b0:(t228 == 0) = false:=beq_eq_false_iff_ne.mpr c24
   have c24b1:(t228 != 0) = true:=bne_iff_ne.mpr c24
   obtain ⟨⟨t245,t246,t247,t250⟩,A44,H⟩:=bQ H
   dsimp only at H
   obtain ⟨y251,ZH⟩:∃ y_:List (S29),y_ = (([(⟨t245,t246,t247⟩:S29)]:List (S29))):=⟨_,rfl⟩
   replace H:(some (2,wrap64 (1 + t226),y251,t250)) = some (r1,r2,r3,r4):=by rw [ZH];exact H
   have ZO:=aQ ZH
   clear ZH
   simp only [Option.some.injEq,Prod.mk.injEq] at H
   obtain ⟨rfl,rfl,rfl,rfl⟩:=H
   go_enter Try.func61,Try.ntmps61
   go_wp2_with (first | ((with_reducible refine gate_dst (N:=4) rfl ?_);refine box1 (N:=4) (cs:=#[.int .i64 0,.int .i64 0,.slice none 0 0]) (t:=29) ?_;intro Za hg w45 hbox hb;replace HB:=aQ (below_step bB hb);have Zb:=aQ (hbox);have Zv:=aQ ((by rw [hg];exact (keep_size (w:=w) (g:=g) (row:=none) bK):w.heap.size ≤ Za));have Zw:=aQ ((Nat.le_trans HW0.out (by rw [hg];exact (keep_size (w:=w) (g:=g) (row:=none) bK):w.heap.size ≤ Za):w0.heap.size ≤ Za));replace HK:=aQ (KeepBut.trans bK (KeepBut.of_below hb g none) (.inl rfl));have Zl:=aQ ((by rw [hg];exact Nat.ne_of_lt (IsS67.lt (show IsS67 w0 _ g s0_0 s0_1 from bI)):g ≠ Za));have Ze:=aQ ((by rw [hg];exact Nat.ne_of_gt (IsS67.lt (show IsS67 w0 _ g s0_0 s0_1 from bI)):Za ≠ g));replace HI0:=aQ (IsS67.below bI hb);clear hb hbox hg) | ((with_reducible refine gate_callee (f:=56) rfl ?_);refine goesL_ (some 14) rfl rfl Try.func56 (by kernel_rfl) rfl #[.pointer (some ⟨g,0,none⟩),.int .i64 9] rfl mP ?_;(with_reducible refine (spec_l6Rd_pick.calls k g s0_0 s0_1 9 t213 t214 w0 _ ?Zf ?Zg A7.out).mono ?_);(case Zf=>exact bI);(case Zg=>exact bB);rintro e w46 ⟨rfl,hi,hb,hk⟩;refine ⟨_,rfl,?_⟩;replace Zb:=aQ (KeepBut.blk hk (g':=Za) (o:=.cells #[.int .i64 0,.int .i64 0,.slice none 0 0] 29 (0,0)) (nB Zb.out) Ze.out (by simp));replace HK:=aQ (KeepBut.trans bK hk (.inl rfl));replace HB:=aQ (hb);replace HI0:=aQ (hi);(try clear hb);(try clear hk);(try clear hi)) | ((with_reducible refine gate_callee (f:=56) rfl ?_);refine goesL_ (some 31) rfl rfl Try.func56 (by kernel_rfl) rfl #[.pointer (some ⟨g,0,none⟩),.int .i64 4] rfl mP ?_;(with_reducible refine (spec_l6Rd_pick.calls k g s0_0 t214 4 t226 t227 w0 _ ?Zf ?Zg A22.out).mono ?_);(case Zf=>exact bI);(case Zg=>exact bB);rintro e w47 ⟨rfl,hi,hb,hk⟩;refine ⟨_,rfl,?_⟩;replace Zb:=aQ (KeepBut.blk hk (g':=Za) (o:=.cells #[.int .i64 0,.int .i64 0,.slice none 0 0] 29 (0,0)) (nB Zb.out) Ze.out (by simp));replace HK:=aQ (KeepBut.trans bK hk (.inl rfl));replace HB:=aQ (hb);replace HI0:=aQ (hi);(try clear hb);(try clear hk);(try clear hi)) | ((with_reducible refine gate_callee (f:=56) rfl ?_);refine goesL_ (some 34) rfl rfl Try.func56 (by kernel_rfl) rfl #[.pointer (some ⟨g,0,none⟩),.int .i64 30] rfl mP ?_;(with_reducible refine (spec_l6Rd_pick.calls k g s0_0 t227 30 t228 t229 w0 _ ?Zf ?Zg A23.out).mono ?_);(case Zf=>exact bI);(case Zg=>exact bB);rintro e w48 ⟨rfl,hi,hb,hk⟩;refine ⟨_,rfl,?_⟩;replace Zb:=aQ (KeepBut.blk hk (g':=Za) (o:=.cells #[.int .i64 0,.int .i64 0,.slice none 0 0] 29 (0,0)) (nB Zb.out) Ze.out (by simp));replace HK:=aQ (KeepBut.trans bK hk (.inl rfl));replace HB:=aQ (hb);replace HI0:=aQ (hi);(try clear hb);(try clear hk);(try clear hi)) | ((with_reducible refine gate_callee (f:=61) rfl ?_);refine goesL_ (some 45) rfl rfl Try.func61 (by kernel_rfl) rfl #[.pointer (some ⟨g,0,none⟩),.int .i64 (wrap64 (a1 - 1))] rfl mP ?_;(with_reducible refine (ih k (by omega) g s0_0 t229 (wrap64 (a1 - 1)) t245 t246 t247 t250 w0 _ ?Zf ?Zg A44.out).mono ?_);(case Zf=>exact bI);(case Zg=>exact bB);rintro e w49 ⟨v248,rfl,ho0,hi,hb,hk⟩;refine ⟨_,rfl,?_⟩;have ZA:=aQ (Kd.N_lower (Kd.N_mono (ok':=fun k_=>(w.heap.size ≤ k_)∧k_ ≠ Za∧k_ ≠ g) ho0 (fun k_ hk_=>⟨(Nat.le_trans (keep_size (w:=w) (g:=g) (row:=none) bK) hk_),(Kd.freshB (nB Zb.out) k_ hk_),(IsS67.fresh bI k_ hk_)⟩)) (keep_size (w:=w) (g:=g) (row:=none) bK));replace Zb:=aQ (KeepBut.blk hk (g':=Za) (o:=.cells #[.int .i64 0,.int .i64 0,.slice none 0 0] 29 (0,0)) (nB Zb.out) Ze.out (by simp));replace HK:=aQ (KeepBut.trans bK hk (.inl rfl));replace HB:=aQ (hb);replace HI0:=aQ (hi);(try clear hb);(try clear hk);(try clear hi);(try clear ho0);obtain ⟨Yb,Yc,Yr⟩:=Kd.N_slice ZA.out;subst Yr) | ((with_reducible refine gate_dst (N:=46) rfl ?_);refine Kd.N_lit k29 _ 29 ?hg (N':=46) ?hd (xs:=([(⟨t245,t246,t247⟩:S29)]:List (S29))) (inner:=[.int .i64 t245,.int .i64 t246,.slice Yb t247.length Yc]) (ok:=(fun k_=>(w.heap.size ≤ k_)∧k_ ≠ Za∧k_ ≠ g)) (okp:=(fun k_=>(w.heap.size ≤ k_)∧k_ ≠ Za∧k_ ≠ g)) ?hr ?hp (fun _ hk=>hk) ((show ∀ k_,w49.heap.size ≤ k_ → (fun k_=>(w.heap.size ≤ k_)∧k_ ≠ Za∧k_ ≠ g) k_ from fun k_ hk=>⟨(Nat.le_trans (keep_size (w:=w) (g:=g) (row:=none) bK) hk),Kd.freshB (nB Zb.out) k_ hk,IsS67.fresh bI k_ hk⟩) _ (Nat.le_refl _)) (Below.refl _ _) (Nat.le_refl _) (by simp) ?_;(case hd=>rfl);(case hg=>rfl);(case hr=>first | (go_simp;done) | (go_simp;rfl));(case hp=>exact (Reps.c3 (show Kd.FK k29 _ _ (⟨t245,t246,t247⟩:S29) [.int .i64 t245,.int .i64 t246,.slice Yb t247.length Yc] from (k29_mkF _ _ (⟨t245,t246,t247⟩:S29) (Kd.N_reads' (Kd.N_mono (ok':=(fun k_=>(w.heap.size ≤ k_)∧k_ ≠ Za∧k_ ≠ g)) (ZA.out) (fun k_ hk=>⟨hk.1,⟨hk.2.1,hk.2.2⟩⟩))).2.1 (Kd.N_F (Kd.N_mono (ok':=(fun k_=>(w.heap.size ≤ k_)∧k_ ≠ Za∧k_ ≠ g)) (ZA.out) (fun k_ hk=>⟨hk.1,⟨hk.2.1,hk.2.2⟩⟩))))) (Reps.none _ _)));intro v252 w51 ho52 hb hg_ hnew_;clear hg_ hnew_;(first | rw [← ZO.out] at ho52 | (simp only [Int.reduceToNat] at ho52;rw [← ZO.out] at ho52));have n0_:=aQ (Kd.N_lower ho52 (keep_size (w:=w) (g:=g) (row:=none) bK));have n1_:=aQ (IsS67.below bI hb);have n2_:=aQ (blk_below (nB Zb.out) hb);have n3_:=aQ (KeepBut.trans bK (KeepBut.of_below hb g none) (.inl rfl));have n4_:=aQ (below_step bB hb);clear HI0;clear Zb;clear HK;clear HB;clear ZA;have ZP:=n0_;have HI0:=n1_;have Zb:=n2_;have HK:=n3_;have HB:=n4_;clear n0_ n1_ n2_ n3_ n4_;clear hb ho52;obtain ⟨Ys,Yt,Yu⟩:=Kd.N_slice ZP.out;subst Yu;have Xz:=Ze.out;have XA:=Zl.out;obtain ⟨YM,YN,YO,YP,YQ,YR⟩:=cz3 Zb.out))
   refine bodyPost_ret (results_cell_row rfl _ _ Za 29 #[.int .i64 2,.int .i64 (wrap64 (1 + t226)),.slice Ys y251.length Yt] (0,0) _ rfl bP Try.underlying29 rfl (by kernel_rfl)) rfl ?_
   exact ⟨_,rfl,by (with_reducible repeat (first | apply Kd.N_alloc | apply Kd.N_drewN | apply Kd.N_drew));exact Kd.N_mono (nFN (g:=Za) ZP.out (fun k_ hk=>hk.2.1)) (fun _ hk=>hk.1),bI,bB,bK⟩
  rw [if_pos c24] at H
  have c24b0:(t228 == 0) = true:=beq_iff_eq.mpr c24
  have c24b1:(t228 != 0) = false:=bne_eq_false_iff_eq.mpr c24
  clear c24
  obtain ⟨y230,ZI⟩:∃ y_:List Int,y_ = (([0,10,9]:List Int)):=⟨_,rfl⟩
  replace H:((spec_l6Rd_pick.f k s0_0 t229 3).bind fun bt233=>(if 0 ≤ bt233.1 then (if bt233.1 < (y230.length:Int) then ((spec_l92Clock.f k s0_0 bt233.2 (wrap64 (a1 - 1))).bind fun bt236=>(some (2,rd y230 bt233.1,(([(⟨bt236.1,bt236.2.1,bt236.2.2.1⟩:S29)]:List (S29))),bt236.2.2.2))) else (none)) else (none))) = some (r1,r2,r3,r4):=by rw [ZI];exact H
  have ZQ:=aQ ZI
  clear ZI
  obtain ⟨⟨t233,t234⟩,A25,H⟩:=bQ H
  dsimp only at H
  by_cases c26:0 ≤ t233;rotate_left
  ·rw [if_neg c26] at H
   exact absurd H (by simp)
  rw [if_pos c26] at H
  have c26b0:decide (0 ≤ t233) = true:=decide_eq_true c26
  clear c26
  by_cases c27:t233 < (y230.length:Int);rotate_left
  ·rw [if_neg c27] at H
   exact absurd H (by simp)
  rw [if_pos c27] at H
  have c27b0:decide (t233 < (y230.length:Int)) = true:=decide_eq_true c27
  clear c27
  obtain ⟨⟨t236,t237,t238,t241⟩,A28,H⟩:=bQ H
  dsimp only at H
  obtain ⟨y242,ZJ⟩:∃ y_:List (S29),y_ = (([(⟨t236,t237,t238⟩:S29)]:List (S29))):=⟨_,rfl⟩
  replace H:(some (2,rd y230 t233,y242,t241)) = some (r1,r2,r3,r4):=by rw [ZJ];exact H
  have ZR:=aQ ZJ
  clear ZJ
  simp only [Option.some.injEq,Prod.mk.injEq] at H
  obtain ⟨rfl,rfl,rfl,rfl⟩:=H
  go_enter Try.func61,Try.ntmps61
  go_wp2_with (first | ((with_reducible refine gate_dst (N:=4) rfl ?_);refine box1 (N:=4) (cs:=#[.int .i64 0,.int .i64 0,.slice none 0 0]) (t:=29) ?_;intro Za hg w29 hbox hb;replace HB:=aQ (below_step bB hb);have Zb:=aQ (hbox);have Zv:=aQ ((by rw [hg];exact (keep_size (w:=w) (g:=g) (row:=none) bK):w.heap.size ≤ Za));have Zw:=aQ ((Nat.le_trans HW0.out (by rw [hg];exact (keep_size (w:=w) (g:=g) (row:=none) bK):w.heap.size ≤ Za):w0.heap.size ≤ Za));replace HK:=aQ (KeepBut.trans bK (KeepBut.of_below hb g none) (.inl rfl));have Zl:=aQ ((by rw [hg];exact Nat.ne_of_lt (IsS67.lt (show IsS67 w0 _ g s0_0 s0_1 from bI)):g ≠ Za));have Ze:=aQ ((by rw [hg];exact Nat.ne_of_gt (IsS67.lt (show IsS67 w0 _ g s0_0 s0_1 from bI)):Za ≠ g));replace HI0:=aQ (IsS67.below bI hb);clear hb hbox hg) | ((with_reducible refine gate_callee (f:=56) rfl ?_);refine goesL_ (some 14) rfl rfl Try.func56 (by kernel_rfl) rfl #[.pointer (some ⟨g,0,none⟩),.int .i64 9] rfl mP ?_;(with_reducible refine (spec_l6Rd_pick.calls k g s0_0 s0_1 9 t213 t214 w0 _ ?Zf ?Zg A7.out).mono ?_);(case Zf=>exact bI);(case Zg=>exact bB);rintro e w30 ⟨rfl,hi,hb,hk⟩;refine ⟨_,rfl,?_⟩;replace Zb:=aQ (KeepBut.blk hk (g':=Za) (o:=.cells #[.int .i64 0,.int .i64 0,.slice none 0 0] 29 (0,0)) (nB Zb.out) Ze.out (by simp));replace HK:=aQ (KeepBut.trans bK hk (.inl rfl));replace HB:=aQ (hb);replace HI0:=aQ (hi);(try clear hb);(try clear hk);(try clear hi)) | ((with_reducible refine gate_callee (f:=56) rfl ?_);refine goesL_ (some 31) rfl rfl Try.func56 (by kernel_rfl) rfl #[.pointer (some ⟨g,0,none⟩),.int .i64 4] rfl mP ?_;(with_reducible refine (spec_l6Rd_pick.calls k g s0_0 t214 4 t226 t227 w0 _ ?Zf ?Zg A22.out).mono ?_);(case Zf=>exact bI);(case Zg=>exact bB);rintro e w31 ⟨rfl,hi,hb,hk⟩;refine ⟨_,rfl,?_⟩;replace Zb:=aQ (KeepBut.blk hk (g':=Za) (o:=.cells #[.int .i64 0,.int .i64 0,.slice none 0 0] 29 (0,0)) (nB Zb.out) Ze.out (by simp));replace HK:=aQ (KeepBut.trans bK hk (.inl rfl));replace HB:=aQ (hb);replace HI0:=aQ (hi);(try clear hb);(try clear hk);(try clear hi)) | ((with_reducible refine gate_callee (f:=56) rfl ?_);refine goesL_ (some 34) rfl rfl Try.func56 (by kernel_rfl) rfl #[.pointer (some ⟨g,0,none⟩),.int .i64 30] rfl mP ?_;(with_reducible refine (spec_l6Rd_pick.calls k g s0_0 t227 30 t228 t229 w0 _ ?Zf ?Zg A23.out).mono ?_);(case Zf=>exact bI);(case Zg=>exact bB);rintro e w32 ⟨rfl,hi,hb,hk⟩;refine ⟨_,rfl,?_⟩;replace Zb:=aQ (KeepBut.blk hk (g':=Za) (o:=.cells #[.int .i64 0,.int .i64 0,.slice none 0 0] 29 (0,0)) (nB Zb.out) Ze.out (by simp));replace HK:=aQ (KeepBut.trans bK hk (.inl rfl));replace HB:=aQ (hb);replace HI0:=aQ (hi);(try clear hb);(try clear hk);(try clear hi)) | ((with_reducible refine gate_dst (N:=36) rfl ?_);refine Kd.R_lit (Kd.int .i64) _ 3 ?hg (N:=36) ?hd (xs:=([0,10,9]:List Int)) (inner:=[.int .i64 0,.int .i64 10,.int .i64 9]) (ok:=fun _=>True) (okp:=fun _=>True) ?hr ?hp (fun _ hk=>hk) trivial (Below.refl _ _) (Nat.le_refl _) (by simp) ?_;(case hd=>rfl);(case hg=>rfl);(case hr=>first | (go_simp;done) | (go_simp;rfl));(case hp=>exact (Reps.one (show Kd.M (Kd.int .i64) _ _ _ 0 [.int .i64 0] from rfl) (Reps.one (show Kd.M (Kd.int .i64) _ _ _ 10 [.int .i64 10] from rfl) (Reps.one (show Kd.M (Kd.int .i64) _ _ _ 9 [.int .i64 9] from rfl) (Reps.none _ _)))));intro v231 w33 ho34 hb hg_ hnew_;clear hg_ hnew_;(first | rw [← ZQ.out] at ho34 | (simp only [Int.reduceToNat] at ho34;rw [← ZQ.out] at ho34));have Zo:=aQ (Kd.R_lower (Kd.R_newM (M:=fun k_=>(w.heap.size ≤ k_)) ho34 (keep_size (w:=w) (g:=g) (row:=none) bK) (fun k_ h_=>h_)) (keep_size (w:=w) (g:=g) (row:=none) bK));replace HI0:=aQ (IsS67.below bI hb);replace Zb:=aQ (blk_below (nB Zb.out) hb);replace HK:=aQ (KeepBut.trans bK (KeepBut.of_below hb g none) (.inl rfl));replace HB:=aQ (below_step bB hb);clear hb ho34) | ((with_reducible refine gate_callee (f:=56) rfl ?_);refine goesL_ (some 38) rfl rfl Try.func56 (by kernel_rfl) rfl #[.pointer (some ⟨g,0,none⟩),.int .i64 3] rfl mP ?_;(with_reducible refine (spec_l6Rd_pick.calls k g s0_0 t229 3 t233 t234 w0 _ ?Zf ?Zg A25.out).mono ?_);(case Zf=>exact bI);(case Zg=>exact bB);rintro e w35 ⟨rfl,hi,hb,hk⟩;refine ⟨_,rfl,?_⟩;replace Zb:=aQ (KeepBut.blk hk (g':=Za) (o:=.cells #[.int .i64 0,.int .i64 0,.slice none 0 0] 29 (0,0)) (nB Zb.out) Ze.out (by simp));replace Zo:=aQ (Kd.R_mono (Kd.R_keep (IsS67.apart (show IsS67 w0 _ g s0_0 t229 from bI) (nR Zo.out) (by decide)) hk (fun _ h=>h.2)) (fun _ h=>h.1));replace HK:=aQ (KeepBut.trans bK hk (.inl rfl));replace HB:=aQ (hb);replace HI0:=aQ (hi);(try clear hb);(try clear hk);(try clear hi);obtain ⟨XT,Zy,Yv⟩:=Kd.R_slice Zo.out;subst Yv;have p235:0 ≤ (t233:Int):=of_decide_eq_true (by first | (with_reducible assumption) | assumption);have q235:t233 < (y230.length:Int):=of_decide_eq_true (by first | (with_reducible assumption) | assumption);obtain ⟨Zx,e235,YS⟩:=Kd.at_int (Kd.R_reads' Zo.out).2.2 t233 p235 q235;cases e235;replace p235:=eq_true p235;replace q235:=eq_true q235) | ((with_reducible refine gate_callee (f:=61) rfl ?_);refine goesL_ (some 45) rfl rfl Try.func61 (by kernel_rfl) rfl #[.pointer (some ⟨g,0,none⟩),.int .i64 (wrap64 (a1 - 1))] rfl mP ?_;(with_reducible refine (ih k (by omega) g s0_0 t234 (wrap64 (a1 - 1)) t236 t237 t238 t241 w0 _ ?Zf ?Zg A28.out).mono ?_);(case Zf=>exact bI);(case Zg=>exact bB);rintro e w37 ⟨v239,rfl,ho0,hi,hb,hk⟩;refine ⟨_,rfl,?_⟩;have ZB:=aQ (Kd.N_lower (Kd.N_mono (ok':=fun k_=>(w.heap.size ≤ k_)∧some k_ ≠ (.slice (some Zx) y230.length Zy:Value).ownBlock∧k_ ≠ Za∧k_ ≠ g) ho0 (fun k_ hk_=>⟨(Nat.le_trans (keep_size (w:=w) (g:=g) (row:=none) bK) hk_),(Kd.fresh' (Kd.R_lt (nR Zo.out)) k_ hk_),(Kd.freshB (nB Zb.out) k_ hk_),(IsS67.fresh bI k_ hk_)⟩)) (keep_size (w:=w) (g:=g) (row:=none) bK));replace Zb:=aQ (KeepBut.blk hk (g':=Za) (o:=.cells #[.int .i64 0,.int .i64 0,.slice none 0 0] 29 (0,0)) (nB Zb.out) Ze.out (by simp));replace Zo:=aQ (Kd.R_mono (Kd.R_keep (IsS67.apart (show IsS67 w0 _ g s0_0 t234 from bI) (nR Zo.out) (by decide)) hk (fun _ h=>h.2)) (fun _ h=>h.1));replace HK:=aQ (KeepBut.trans bK hk (.inl rfl));replace HB:=aQ (hb);replace HI0:=aQ (hi);(try clear hb);(try clear hk);(try clear hi);(try clear ho0);obtain ⟨Yd,Ye,Yw⟩:=Kd.N_slice ZB.out;subst Yw) | ((with_reducible refine gate_dst (N:=46) rfl ?_);refine Kd.N_lit k29 _ 29 ?hg (N':=46) ?hd (xs:=([(⟨t236,t237,t238⟩:S29)]:List (S29))) (inner:=[.int .i64 t236,.int .i64 t237,.slice Yd t238.length Ye]) (ok:=(fun k_=>(w.heap.size ≤ k_)∧some k_ ≠ (.slice (some Zx) y230.length Zy:Value).ownBlock∧k_ ≠ Za∧k_ ≠ g)) (okp:=(fun k_=>(w.heap.size ≤ k_)∧some k_ ≠ (.slice (some Zx) y230.length Zy:Value).ownBlock∧k_ ≠ Za∧k_ ≠ g)) ?hr ?hp (fun _ hk=>hk) ((show ∀ k_,w37.heap.size ≤ k_ → (fun k_=>(w.heap.size ≤ k_)∧some k_ ≠ (.slice (some Zx) y230.length Zy:Value).ownBlock∧k_ ≠ Za∧k_ ≠ g) k_ from fun k_ hk=>⟨(Nat.le_trans (keep_size (w:=w) (g:=g) (row:=none) bK) hk),Kd.fresh' (Kd.R_lt (nR Zo.out)) k_ hk,Kd.freshB (nB Zb.out) k_ hk,IsS67.fresh bI k_ hk⟩) _ (Nat.le_refl _)) (Below.refl _ _) (Nat.le_refl _) (by simp) ?_;(case hd=>rfl);(case hg=>rfl);(case hr=>first | (go_simp;done) | (go_simp;rfl));(case hp=>exact (Reps.c3 (show Kd.FK k29 _ _ (⟨t236,t237,t238⟩:S29) [.int .i64 t236,.int .i64 t237,.slice Yd t238.length Ye] from (k29_mkF _ _ (⟨t236,t237,t238⟩:S29) (Kd.N_reads' (Kd.N_mono (ok':=(fun k_=>(w.heap.size ≤ k_)∧some k_ ≠ (.slice (some Zx) y230.length Zy:Value).ownBlock∧k_ ≠ Za∧k_ ≠ g)) (ZB.out) (fun k_ hk=>⟨hk.1,⟨hk.2.1,⟨hk.2.2.1,hk.2.2.2⟩⟩⟩))).2.1 (Kd.N_F (Kd.N_mono (ok':=(fun k_=>(w.heap.size ≤ k_)∧some k_ ≠ (.slice (some Zx) y230.length Zy:Value).ownBlock∧k_ ≠ Za∧k_ ≠ g)) (ZB.out) (fun k_ hk=>⟨hk.1,⟨hk.2.1,⟨hk.2.2.1,hk.2.2.2⟩⟩⟩))))) (Reps.none _ _)));intro v243 w39 ho40 hb hg_ hnew_;clear hg_ hnew_;(first | rw [← ZR.out] at ho40 | (simp only [Int.reduceToNat] at ho40;rw [← ZR.out] at ho40));have n0_:=aQ (Kd.R_below (nR Zo.out) hb);have n1_:=aQ (Kd.N_lower ho40 (keep_size (w:=w) (g:=g) (row:=none) bK));have n2_:=aQ (IsS67.below bI hb);have n3_:=aQ (blk_below (nB Zb.out) hb);have n4_:=aQ (KeepBut.trans bK (KeepBut.of_below hb g none) (.inl rfl));have n5_:=aQ (below_step bB hb);clear Zo;clear HI0;clear Zb;clear HK;clear HB;clear ZB;have Zo:=n0_;have ZS:=n1_;have HI0:=n2_;have Zb:=n3_;have HK:=n4_;have HB:=n5_;clear n0_ n1_ n2_ n3_ n4_ n5_;clear hb ho40;obtain ⟨Yx,Yy,Yz⟩:=Kd.N_slice ZS.out;subst Yz;have XB:=Ze.out;have XC:=Zl.out;obtain ⟨YT,YU,YV,YW,YX,YY⟩:=cz3 Zb.out))
  refine bodyPost_ret (results_cell_row rfl _ _ Za 29 #[.int .i64 2,.int .i64 (rd y230 t233),.slice Yx y242.length Yy] (0,0) _ rfl bP Try.underlying29 rfl (by kernel_rfl)) rfl ?_
  exact ⟨_,rfl,by (with_reducible repeat (first | apply Kd.N_alloc | apply Kd.N_drewN | apply Kd.N_drew));exact Kd.N_mono (nFN (g:=Za) ZS.out (fun k_ hk=>hk.2.2.1)) (fun _ hk=>hk.1),bI,bB,bK⟩
 rw [if_neg c21] at H
 have c21b0:decide (t213 < 6) = false:=decide_eq_false c21
 clear c21
 by_cases c56:t213 = 6
 ·rw [if_pos c56] at H
  have c56b0:(t213 == 6) = true:=beq_iff_eq.mpr c56
  have c56b1:(t213 != 6) = false:=bne_eq_false_iff_eq.mpr c56
  clear c56
  simp only [Option.some.injEq,Prod.mk.injEq] at H
  obtain ⟨rfl,rfl,rfl,rfl⟩:=H
  go_enter Try.func61,Try.ntmps61
  go_wp2_with (first | ((with_reducible refine gate_dst (N:=4) rfl ?_);refine box1 (N:=4) (cs:=#[.int .i64 0,.int .i64 0,.slice none 0 0]) (t:=29) ?_;intro Za hg w57 hbox hb;replace HB:=aQ (below_step bB hb);have Zb:=aQ (hbox);have Zv:=aQ ((by rw [hg];exact (keep_size (w:=w) (g:=g) (row:=none) bK):w.heap.size ≤ Za));have Zw:=aQ ((Nat.le_trans HW0.out (by rw [hg];exact (keep_size (w:=w) (g:=g) (row:=none) bK):w.heap.size ≤ Za):w0.heap.size ≤ Za));replace HK:=aQ (KeepBut.trans bK (KeepBut.of_below hb g none) (.inl rfl));have Zl:=aQ ((by rw [hg];exact Nat.ne_of_lt (IsS67.lt (show IsS67 w0 _ g s0_0 s0_1 from bI)):g ≠ Za));have Ze:=aQ ((by rw [hg];exact Nat.ne_of_gt (IsS67.lt (show IsS67 w0 _ g s0_0 s0_1 from bI)):Za ≠ g));replace HI0:=aQ (IsS67.below bI hb);clear hb hbox hg) | ((with_reducible refine gate_callee (f:=56) rfl ?_);refine goesL_ (some 14) rfl rfl Try.func56 (by kernel_rfl) rfl #[.pointer (some ⟨g,0,none⟩),.int .i64 9] rfl mP ?_;(with_reducible refine (spec_l6Rd_pick.calls k g s0_0 s0_1 9 t213 t214 w0 _ ?Zf ?Zg A7.out).mono ?_);(case Zf=>exact bI);(case Zg=>exact bB);rintro e w58 ⟨rfl,hi,hb,hk⟩;refine ⟨_,rfl,?_⟩;replace Zb:=aQ (KeepBut.blk hk (g':=Za) (o:=.cells #[.int .i64 0,.int .i64 0,.slice none 0 0] 29 (0,0)) (nB Zb.out) Ze.out (by simp));replace HK:=aQ (KeepBut.trans bK hk (.inl rfl));replace HB:=aQ (hb);replace HI0:=aQ (hi);(try clear hb);(try clear hk);(try clear hi);have XD:=Ze.out;have XE:=Zl.out;obtain ⟨YZ,Xa,Xb,Xc,Xd,Xe⟩:=cz3 Zb.out))
  refine bodyPost_ret (results_cell_row rfl _ _ Za 29 #[.int .i64 0,.int .i64 0,.slice none 0 0] (0,0) _ rfl bP Try.underlying29 rfl (by kernel_rfl)) rfl ?_
  exact ⟨_,rfl,by first | exact Kd.R_nil _ _ _ _ _ | exact Kd.N_nil _ _ _ _ _ | exact Kd.V_nil _ _ _ _ _ | exact Kd.Q_nil _ _ _ _ _ | exact Kd.S_nil _ _ _ _ _,bI,bB,bK⟩
 rw [if_neg c56] at H
 have c56b0:(t213 == 6) = false:=beq_eq_false_iff_ne.mpr c56
 have c56b1:(t213 != 6) = true:=bne_iff_ne.mpr c56
 by_cases c61:t213 = 8;rotate_left
 ·rw [if_neg c61] at H
  have c61b0:(t213 == 8) = false:=beq_eq_false_iff_ne.mpr c61
  have c61b1:(t213 != 8) = true:=bne_iff_ne.mpr c61
  obtain ⟨⟨t270,t271,t272,t275⟩,A82,H⟩:=bQ H
  dsimp only at H
  obtain ⟨⟨t277,t278,t279,t282⟩,A83,H⟩:=bQ H
  dsimp only at H
  obtain ⟨y283,ZK⟩:∃ y_:List (S29),y_ = (([(⟨t270,t271,t272⟩:S29),(⟨t277,t278,t279⟩:S29)]:List (S29))):=⟨_,rfl⟩
  replace H:(some (3,0,y283,t282)) = some (r1,r2,r3,r4):=by rw [ZK];exact H
  have ZT:=aQ ZK
  clear ZK
  simp only [Option.some.injEq,Prod.mk.injEq] at H
  obtain ⟨rfl,rfl,rfl,rfl⟩:=H
  go_enter Try.func61,Try.ntmps61
  try go_wp2_with (first | ((with_reducible refine gate_dst (N:=4) rfl ?_);refine box1 (N:=4) (cs:=#[.int .i64 0,.int .i64 0,.slice none 0 0]) (t:=29) ?_;intro Za hg w84 hbox hb;replace HB:=aQ (below_step bB hb);have Zb:=aQ (hbox);have Zv:=aQ ((by rw [hg];exact (keep_size (w:=w) (g:=g) (row:=none) bK):w.heap.size ≤ Za));have Zw:=aQ ((Nat.le_trans HW0.out (by rw [hg];exact (keep_size (w:=w) (g:=g) (row:=none) bK):w.heap.size ≤ Za):w0.heap.size ≤ Za));replace HK:=aQ (KeepBut.trans bK (KeepBut.of_below hb g none) (.inl rfl));have Zl:=aQ ((by rw [hg];exact Nat.ne_of_lt (IsS67.lt (show IsS67 w0 _ g s0_0 s0_1 from bI)):g ≠ Za));have Ze:=aQ ((by rw [hg];exact Nat.ne_of_gt (IsS67.lt (show IsS67 w0 _ g s0_0 s0_1 from bI)):Za ≠ g));replace HI0:=aQ (IsS67.below bI hb);clear hb hbox hg) | ((with_reducible refine gate_callee (f:=56) rfl ?_);refine goesL_ (some 14) rfl rfl Try.func56 (by kernel_rfl) rfl #[.pointer (some ⟨g,0,none⟩),.int .i64 9] rfl mP ?_;(with_reducible refine (spec_l6Rd_pick.calls k g s0_0 s0_1 9 t213 t214 w0 _ ?Zf ?Zg A7.out).mono ?_);(case Zf=>exact bI);(case Zg=>exact bB);rintro e w85 ⟨rfl,hi,hb,hk⟩;refine ⟨_,rfl,?_⟩;replace Zb:=aQ (KeepBut.blk hk (g':=Za) (o:=.cells #[.int .i64 0,.int .i64 0,.slice none 0 0] 29 (0,0)) (nB Zb.out) Ze.out (by simp));replace HK:=aQ (KeepBut.trans bK hk (.inl rfl));replace HB:=aQ (hb);replace HI0:=aQ (hi);(try clear hb);(try clear hk);(try clear hi)) | ((with_reducible refine gate_callee (f:=61) rfl ?_);refine goesL_ (some 57) rfl rfl Try.func61 (by kernel_rfl) rfl #[.pointer (some ⟨g,0,none⟩),.int .i64 (wrap64 (a1 - 1))] rfl mP ?_;(with_reducible refine (ih k (by omega) g s0_0 t214 (wrap64 (a1 - 1)) t270 t271 t272 t275 w0 _ ?Zf ?Zg A82.out).mono ?_);(case Zf=>exact bI);(case Zg=>exact bB);rintro e w86 ⟨v273,rfl,ho0,hi,hb,hk⟩;refine ⟨_,rfl,?_⟩;have Zm:=aQ (Kd.N_lower (Kd.N_mono (ok':=fun k_=>(w.heap.size ≤ k_)∧k_ ≠ Za∧k_ ≠ g) ho0 (fun k_ hk_=>⟨(Nat.le_trans (keep_size (w:=w) (g:=g) (row:=none) bK) hk_),(Kd.freshB (nB Zb.out) k_ hk_),(IsS67.fresh bI k_ hk_)⟩)) (keep_size (w:=w) (g:=g) (row:=none) bK));replace Zb:=aQ (KeepBut.blk hk (g':=Za) (o:=.cells #[.int .i64 0,.int .i64 0,.slice none 0 0] 29 (0,0)) (nB Zb.out) Ze.out (by simp));replace HK:=aQ (KeepBut.trans bK hk (.inl rfl));replace HB:=aQ (hb);replace HI0:=aQ (hi);(try clear hb);(try clear hk);(try clear hi);(try clear ho0)) | ((with_reducible refine gate_dst (N:=9) rfl ?_);refine box1 (N:=9) (cs:=#[.int .i64 0,.int .i64 0,.slice none 0 0]) (t:=29) ?_;intro Zc hg w87 hbox hb;replace Zm:=aQ (Kd.N_below (Kd.N_elderB (nN Zm.out) Zc (Nat.le_of_eq hg.symm)) hb);replace HB:=aQ (below_step bB hb);have Zj:=aQ (hbox);have XF:=aQ ((by rw [hg];exact (keep_size (w:=w) (g:=g) (row:=none) bK):w.heap.size ≤ Zc));have XG:=aQ ((Nat.le_trans HW0.out (by rw [hg];exact (keep_size (w:=w) (g:=g) (row:=none) bK):w.heap.size ≤ Zc):w0.heap.size ≤ Zc));replace HK:=aQ (KeepBut.trans bK (KeepBut.of_below hb g none) (.inl rfl));have Zt:=aQ ((by rw [hg];exact Nat.ne_of_lt (blk_lt (nB Zb.out)):Za ≠ Zc));have Zh:=aQ Zt.out.symm;replace Zb:=aQ (blk_below (nB Zb.out) hb);have ZX:=aQ ((by rw [hg];exact Nat.ne_of_lt (IsS67.lt (show IsS67 w0 _ g s0_0 t275 from bI)):g ≠ Zc));have ZE:=aQ ((by rw [hg];exact Nat.ne_of_gt (IsS67.lt (show IsS67 w0 _ g s0_0 t275 from bI)):Zc ≠ g));replace HI0:=aQ (IsS67.below bI hb);clear hb hbox hg;have XH:=Zh.out;have XI:=Zt.out;have XJ:=ZE.out;have XK:=ZX.out;obtain ⟨Xf,Xg,Xh,Xi,Xj,Xk⟩:=cz3 Zj.out;obtain ⟨Zp,Zq,YA⟩:=Kd.N_slice Zm.out;subst YA))
  have n0_:Aside0 (Kd.N k29 29 (((w87.setCell ⟨Zc,0,none⟩ (.int .i64 t270)).setCell ⟨Zc,1,none⟩ (.int .i64 t271)).setCell ⟨Zc,2,none⟩ (.slice Zp t272.length Zq)) w.heap.size (fun k_=>(w.heap.size ≤ k_)∧k_ ≠ Za∧k_ ≠ g∧k_ ≠ Zc) (.slice Zp t272.length Zq) t272):=⟨Kd.N_mono (nFN (g:=Zc) Zm.out (fun k_ hk=>hk.2)) (fun _ hk=>⟨hk.1.1,⟨hk.1.2.1,⟨hk.1.2.2,hk.2⟩⟩⟩)⟩
  have n1_:Aside0 ((((w87.setCell ⟨Zc,0,none⟩ (.int .i64 t270)).setCell ⟨Zc,1,none⟩ (.int .i64 t271)).setCell ⟨Zc,2,none⟩ (.slice Zp t272.length Zq)).heap[Za]? = some (.cells #[.int .i64 0,.int .i64 0,.slice none 0 0] 29 (0,0))):=⟨bF⟩
  have n2_:Aside0 ((((w87.setCell ⟨Zc,0,none⟩ (.int .i64 t270)).setCell ⟨Zc,1,none⟩ (.int .i64 t271)).setCell ⟨Zc,2,none⟩ (.slice Zp t272.length Zq)).heap[Zc]? = some (.cells #[.int .i64 t270,.int .i64 t271,.slice Zp t272.length Zq] 29 (0,0))):=⟨bP⟩
  have n3_:Aside0 (IsS67 w0 (((w87.setCell ⟨Zc,0,none⟩ (.int .i64 t270)).setCell ⟨Zc,1,none⟩ (.int .i64 t271)).setCell ⟨Zc,2,none⟩ (.slice Zp t272.length Zq)) g s0_0 t275):=⟨bI⟩
  have n4_:Aside0 (KeepBut w (((w87.setCell ⟨Zc,0,none⟩ (.int .i64 t270)).setCell ⟨Zc,1,none⟩ (.int .i64 t271)).setCell ⟨Zc,2,none⟩ (.slice Zp t272.length Zq)) g none):=⟨bK⟩
  have n5_:Aside0 (Below w0.heap.size w0 (((w87.setCell ⟨Zc,0,none⟩ (.int .i64 t270)).setCell ⟨Zc,1,none⟩ (.int .i64 t271)).setCell ⟨Zc,2,none⟩ (.slice Zp t272.length Zq))):=⟨bB⟩
  (try clear Zm)
  (try clear Zb)
  (try clear Zj)
  (try clear HI0)
  (try clear HK)
  (try clear HB)
  generalize (((w87.setCell ⟨Zc,0,none⟩ (.int .i64 t270)).setCell ⟨Zc,1,none⟩ (.int .i64 t271)).setCell ⟨Zc,2,none⟩ (.slice Zp t272.length Zq)) = w92 at n0_ n1_ n2_ n3_ n4_ n5_ ⊢
  have Zm:=n0_
  have Zb:=n1_
  have Zj:=n2_
  have HI0:=n3_
  have HK:=n4_
  have HB:=n5_
  clear n0_ n1_ n2_ n3_ n4_ n5_
  replace Zm:=aQ (Kd.N_drew Zm.out)
  replace Zb:=aQ (blk_drew Zb.out)
  replace Zj:=aQ (blk_drew Zj.out)
  replace HI0:=aQ (IsS67.drew HI0.out)
  replace HK:=aQ (keep_drew HK.out)
  replace HB:=aQ (below_drew1 HB.out)
  refine start_ (n:=9) (S:=fun w'=>w'.cell? ⟨Zc,0,none⟩ = some (.int .i64 t270)∧w'.cell? ⟨Zc,1,none⟩ = some (.int .i64 t271)∧w'.cell? ⟨Zc,2,none⟩ = some (.slice Zp t272.length Zq)) (ds:=[]) (bn 9 0) (by kernel_rfl) rfl rfl ⟨(blk_cell Zj.out 0).trans rfl,(blk_cell Zj.out 1).trans rfl,(blk_cell Zj.out 2).trans rfl⟩ (fun hHeld=>?_);refine with_tabW spec_l92Clock.tab18 spec_l92Clock.bits18 (fun HT_ HW_=>?_)
  generalize w92.drew = w93 at Zm Zb Zj HI0 HK HB hHeld ⊢
  refine pur (i:=0) (N:=some 58) (bn 9 1) ?_
  refine pur (i:=2) (N:=some 60) (bn 9 5) ?_
  refine pur (i:=3) (N:=some 61) (bn 9 13) ?_
  refine pur (i:=4) (N:=some 62) (bn 9 29) ?_
  refine tak (i:=1) (N:=some 59) (bn 9 31) ?_
  refine one_ (i:=5) (N:=some 63) (bn 9 63) rfl rfl (one_of HT_.out (by kernel_rfl)) (by decide) (fun K hK=>?_)
  refine goes1 Try.func61 #[.pointer (some ⟨g,0,none⟩),.int .i64 (wrap64 (a1 - 1))] ?_
  with_reducible refine (ih k (by omega) g s0_0 t275 (wrap64 (a1 - 1)) t277 t278 t279 t282 w0 _ ?Zf ?Zg A83.out).mono ?_
  (case Zf=>exact bI)
  (case Zg=>exact bB)
  rintro e w94 ⟨v280,rfl,ho0,hi,hb,hk⟩
  refine ⟨_,rfl,?_⟩
  have ZC:=aQ (Kd.N_lower (Kd.N_mono (ok':=fun k_=>(w.heap.size ≤ k_)∧some k_ ≠ (.slice Zp t272.length Zq:Value).ownBlock∧k_ ≠ Za∧k_ ≠ Zc∧k_ ≠ g) ho0 (fun k_ hk_=>⟨(Nat.le_trans (keep_size (w:=w) (g:=g) (row:=none) bK) hk_),(Kd.fresh' (Kd.N_lt (nN Zm.out)) k_ hk_),(Kd.freshB (nB Zb.out) k_ hk_),(Kd.freshB (nB Zj.out) k_ hk_),(IsS67.fresh bI k_ hk_)⟩)) (keep_size (w:=w) (g:=g) (row:=none) bK))
  replace Zb:=aQ (KeepBut.blk hk (g':=Za) (o:=.cells #[.int .i64 0,.int .i64 0,.slice none 0 0] 29 (0,0)) (nB Zb.out) Ze.out (by simp))
  replace Zm:=aQ (Kd.N_mono (Kd.N_told (Kd.N_oldK (Kd.N_mono (ok:=fun k_=>(((w.heap.size ≤ k_))∧(k_ ≠ Za∧(k_ ≠ g∧k_ ≠ Zc)))) (nN Zm.out) (fun k_ hk_=>(⟨hk_,hk_.2.2.1⟩:_∧k_ ≠ g))) hk) (Kd.N_base ho0)) (fun _ h_=>h_.1))
  replace Zj:=aQ (KeepBut.blk hk (g':=Zc) (o:=.cells #[.int .i64 t270,.int .i64 t271,.slice Zp t272.length Zq] 29 (0,0)) (nB Zj.out) ZE.out (by simp))
  replace HK:=aQ (KeepBut.trans bK hk (.inl rfl))
  replace HB:=aQ (hb)
  replace HI0:=aQ (hi)
  (try clear hb)
  (try clear hk)
  (try clear hi)
  (try clear ho0)
  obtain ⟨Yf,Yg,Yh⟩:=Kd.N_slice ZC.out
  (first | subst Yh | (injection Yh with f1_ f2_ f3_;have f4_:=f1_.symm;have f5_:=f3_.symm;clear f1_ f2_ f3_;subst f4_;subst f5_))
  refine hK.out _ _ ⟨(blk_cell Zj.out 0).trans rfl,(blk_cell Zj.out 1).trans rfl,(blk_cell Zj.out 2).trans rfl⟩ (fun hHeld=>?_)
  clear hK K
  refine nrm (N:=some 63) ?_
  refine one_ (i:=6) (N:=some 64) (bn 9 127) rfl rfl (one_of HT_.out (by kernel_rfl)) (by decide) (fun K hK=>?_)
  refine Kd.N_lit_step k29 _ 29 ?hg (N':=64) ?hd (xs:=([(⟨t270,t271,t272⟩:S29),(⟨t277,t278,t279⟩:S29)]:List (S29))) (inner:=[.int .i64 t270,.int .i64 t271,.slice Zp t272.length Zq,.int .i64 t277,.int .i64 t278,.slice Yf t279.length Yg]) (ok:=(fun k_=>(w.heap.size ≤ k_)∧k_ ≠ Za∧k_ ≠ Zc∧k_ ≠ g)) (okp:=(fun k_=>(w.heap.size ≤ k_)∧k_ ≠ Za∧k_ ≠ Zc∧k_ ≠ g)) ?hr ?hp (fun _ hk=>hk) ((show ∀ k_,w94.heap.size ≤ k_ → (fun k_=>(w.heap.size ≤ k_)∧k_ ≠ Za∧k_ ≠ Zc∧k_ ≠ g) k_ from fun k_ hk=>⟨(Nat.le_trans (keep_size (w:=w) (g:=g) (row:=none) bK) hk),Kd.freshB (nB Zb.out) k_ hk,Kd.freshB (nB Zj.out) k_ hk,IsS67.fresh bI k_ hk⟩) _ (Nat.le_refl _)) (Below.refl _ _) (Nat.le_refl _) (by simp) ?_;(case hd=>rfl);(case hg=>rfl);(case hr=>first | (go_simp;done) | (go_simp;rfl));(case hp=>exact (Reps.c3 (show Kd.FK k29 _ _ (⟨t270,t271,t272⟩:S29) [.int .i64 t270,.int .i64 t271,.slice Zp t272.length Zq] from (k29_mkF _ _ (⟨t270,t271,t272⟩:S29) (Kd.N_reads' (Kd.N_mono (ok':=(fun k_=>(w.heap.size ≤ k_)∧k_ ≠ Za∧k_ ≠ Zc∧k_ ≠ g)) (Zm.out) (fun k_ hk=>⟨hk.1.1,⟨hk.1.2.1,⟨hk.1.2.2.2,hk.1.2.2.1⟩⟩⟩))).2.1 (Kd.N_F (Kd.N_mono (ok':=(fun k_=>(w.heap.size ≤ k_)∧k_ ≠ Za∧k_ ≠ Zc∧k_ ≠ g)) (Zm.out) (fun k_ hk=>⟨hk.1.1,⟨hk.1.2.1,⟨hk.1.2.2.2,hk.1.2.2.1⟩⟩⟩))))) (Reps.c3 (show Kd.FK k29 _ _ (⟨t277,t278,t279⟩:S29) [.int .i64 t277,.int .i64 t278,.slice Yf t279.length Yg] from (k29_mkF _ _ (⟨t277,t278,t279⟩:S29) (Kd.N_reads' (Kd.N_mono (ok':=(fun k_=>(w.heap.size ≤ k_)∧k_ ≠ Za∧k_ ≠ Zc∧k_ ≠ g)) (ZC.out) (fun k_ hk=>⟨hk.1,⟨hk.2.2.1,⟨hk.2.2.2.1,hk.2.2.2.2⟩⟩⟩))).2.1 (Kd.N_F (Kd.N_mono (ok':=(fun k_=>(w.heap.size ≤ k_)∧k_ ≠ Za∧k_ ≠ Zc∧k_ ≠ g)) (ZC.out) (fun k_ hk=>⟨hk.1,⟨hk.2.2.1,⟨hk.2.2.2.1,hk.2.2.2.2⟩⟩⟩))))) (Reps.none _ _))))
  intro v284 w96 ho97 hb hg_ hnew_
  clear hg_ hnew_
  (first | rw [← ZT.out] at ho97 | (simp only [Int.reduceToNat] at ho97;rw [← ZT.out] at ho97))
  have n0_:=aQ (Kd.N_lower ho97 (keep_size (w:=w) (g:=g) (row:=none) bK))
  have n1_:=aQ (IsS67.below bI hb)
  have n2_:=aQ (blk_below (nB Zb.out) hb)
  have n3_:=aQ (blk_below (nB Zj.out) hb)
  have n4_:=aQ (KeepBut.trans bK (KeepBut.of_below hb g none) (.inl rfl))
  have n5_:=aQ (below_step bB hb)
  clear HI0 Zb Zj HK HB Zm ZC
  have ZU:=n0_
  have HI0:=n1_
  have Zb:=n2_
  have Zj:=n3_
  have HK:=n4_
  have HB:=n5_
  clear n0_ n1_ n2_ n3_ n4_ n5_
  clear hb ho97
  obtain ⟨YB,YC,Yi⟩:=Kd.N_slice ZU.out
  (first | subst Yi | (injection Yi with f1_ f2_ f3_;have f4_:=f1_.symm;have f5_:=f3_.symm;clear f1_ f2_ f3_;subst f4_;subst f5_))
  refine hK.out _ _ ⟨(blk_cell Zj.out 0).trans rfl,(blk_cell Zj.out 1).trans rfl,(blk_cell Zj.out 2).trans rfl⟩ (fun hHeld=>?_)
  clear hK K
  refine nrm (N:=some 64) ?_
  refine pur (i:=7) (N:=some 65) (bn 9 255) ?_
  refine one_ (i:=8) (N:=none) (bn 9 511) rfl rfl (one_of HT_.out (by kernel_rfl)) (by decide) (fun K hK=>?_)
  have hs99:w96.cell? ⟨Za,0,none⟩ = some (.int .i64 0):=(blk_cell Zb.out 0).trans rfl
  have hfs99:=blk_frozen Zb.out 0
  have hns99_1:=Zh.out
  have hms99_1:=Zt.out
  have hs100:w96.cell? ⟨Za,1,none⟩ = some (.int .i64 0):=(blk_cell Zb.out 1).trans rfl
  have hfs100:=blk_frozen Zb.out 1
  have hns100_1:=Zh.out
  have hms100_1:=Zt.out
  have hs101:w96.cell? ⟨Za,2,none⟩ = some (.slice none 0 0):=(blk_cell Zb.out 2).trans rfl
  have hfs101:=blk_frozen Zb.out 2
  have hns101_1:=Zh.out
  have hms101_1:=Zt.out
  refine skip_ (w1:=?_) (by rfl) rfl ?_ ?_
  rotate_left
  ·go_simp
   rfl
  refine hK.out _ _ ⟨((cell_far (p:=⟨Za,_,none⟩) Zh.out _).trans (((cell_far (p:=⟨Za,_,none⟩) Zh.out _).trans (((cell_far (p:=⟨Za,_,none⟩) Zh.out _).trans (hHeld.1)))))),((cell_far (p:=⟨Za,_,none⟩) Zh.out _).trans (((cell_far (p:=⟨Za,_,none⟩) Zh.out _).trans (((cell_far (p:=⟨Za,_,none⟩) Zh.out _).trans (hHeld.2.1)))))),((cell_far (p:=⟨Za,_,none⟩) Zh.out _).trans (((cell_far (p:=⟨Za,_,none⟩) Zh.out _).trans (((cell_far (p:=⟨Za,_,none⟩) Zh.out _).trans (hHeld.2.2))))))⟩ (fun hHeld=>?_)
  clear hK K
  refine done_ (done_of HT_.out (by kernel_rfl)) ?_
  try go_wp2
  refine bodyPost_ret (results_cell_row rfl _ _ Za 29 #[.int .i64 3,.int .i64 0,.slice YB y283.length YC] (0,0) _ rfl bP Try.underlying29 rfl (by kernel_rfl)) rfl ?_
  exact ⟨_,rfl,by (with_reducible repeat (first | apply Kd.N_alloc | apply Kd.N_drewN | apply Kd.N_drew));exact Kd.N_mono (nFN (g:=Za) ZU.out (fun k_ hk=>hk.2.1)) (fun _ hk=>hk.1),bI,bB,bK⟩
 rw [if_pos c61] at H
 have c61b0:(t213 == 8) = true:=beq_iff_eq.mpr c61
 have c61b1:(t213 != 8) = false:=bne_eq_false_iff_eq.mpr c61
 clear c61
 obtain ⟨⟨t254,t255,t256,t259⟩,A62,H⟩:=bQ H
 dsimp only at H
 obtain ⟨⟨t261,t262,t263,t266⟩,A63,H⟩:=bQ H
 dsimp only at H
 obtain ⟨y267,ZL⟩:∃ y_:List (S29),y_ = (([(⟨t254,t255,t256⟩:S29),(⟨t261,t262,t263⟩:S29)]:List (S29))):=⟨_,rfl⟩
 replace H:(some (4,0,y267,t266)) = some (r1,r2,r3,r4):=by rw [ZL];exact H
 have ZV:=aQ ZL
 clear ZL
 simp only [Option.some.injEq,Prod.mk.injEq] at H
 obtain ⟨rfl,rfl,rfl,rfl⟩:=H
 go_enter Try.func61,Try.ntmps61
 try go_wp2_with (first | ((with_reducible refine gate_dst (N:=4) rfl ?_);refine box1 (N:=4) (cs:=#[.int .i64 0,.int .i64 0,.slice none 0 0]) (t:=29) ?_;intro Za hg w64 hbox hb;replace HB:=aQ (below_step bB hb);have Zb:=aQ (hbox);have Zv:=aQ ((by rw [hg];exact (keep_size (w:=w) (g:=g) (row:=none) bK):w.heap.size ≤ Za));have Zw:=aQ ((Nat.le_trans HW0.out (by rw [hg];exact (keep_size (w:=w) (g:=g) (row:=none) bK):w.heap.size ≤ Za):w0.heap.size ≤ Za));replace HK:=aQ (KeepBut.trans bK (KeepBut.of_below hb g none) (.inl rfl));have Zl:=aQ ((by rw [hg];exact Nat.ne_of_lt (IsS67.lt (show IsS67 w0 _ g s0_0 s0_1 from bI)):g ≠ Za));have Ze:=aQ ((by rw [hg];exact Nat.ne_of_gt (IsS67.lt (show IsS67 w0 _ g s0_0 s0_1 from bI)):Za ≠ g));replace HI0:=aQ (IsS67.below bI hb);clear hb hbox hg) | ((with_reducible refine gate_callee (f:=56) rfl ?_);refine goesL_ (some 14) rfl rfl Try.func56 (by kernel_rfl) rfl #[.pointer (some ⟨g,0,none⟩),.int .i64 9] rfl mP ?_;(with_reducible refine (spec_l6Rd_pick.calls k g s0_0 s0_1 9 t213 t214 w0 _ ?Zf ?Zg A7.out).mono ?_);(case Zf=>exact bI);(case Zg=>exact bB);rintro e w65 ⟨rfl,hi,hb,hk⟩;refine ⟨_,rfl,?_⟩;replace Zb:=aQ (KeepBut.blk hk (g':=Za) (o:=.cells #[.int .i64 0,.int .i64 0,.slice none 0 0] 29 (0,0)) (nB Zb.out) Ze.out (by simp));replace HK:=aQ (KeepBut.trans bK hk (.inl rfl));replace HB:=aQ (hb);replace HI0:=aQ (hi);(try clear hb);(try clear hk);(try clear hi)) | ((with_reducible refine gate_callee (f:=61) rfl ?_);refine goesL_ (some 57) rfl rfl Try.func61 (by kernel_rfl) rfl #[.pointer (some ⟨g,0,none⟩),.int .i64 (wrap64 (a1 - 1))] rfl mP ?_;(with_reducible refine (ih k (by omega) g s0_0 t214 (wrap64 (a1 - 1)) t254 t255 t256 t259 w0 _ ?Zf ?Zg A62.out).mono ?_);(case Zf=>exact bI);(case Zg=>exact bB);rintro e w66 ⟨v257,rfl,ho0,hi,hb,hk⟩;refine ⟨_,rfl,?_⟩;have Zn:=aQ (Kd.N_lower (Kd.N_mono (ok':=fun k_=>(w.heap.size ≤ k_)∧k_ ≠ Za∧k_ ≠ g) ho0 (fun k_ hk_=>⟨(Nat.le_trans (keep_size (w:=w) (g:=g) (row:=none) bK) hk_),(Kd.freshB (nB Zb.out) k_ hk_),(IsS67.fresh bI k_ hk_)⟩)) (keep_size (w:=w) (g:=g) (row:=none) bK));replace Zb:=aQ (KeepBut.blk hk (g':=Za) (o:=.cells #[.int .i64 0,.int .i64 0,.slice none 0 0] 29 (0,0)) (nB Zb.out) Ze.out (by simp));replace HK:=aQ (KeepBut.trans bK hk (.inl rfl));replace HB:=aQ (hb);replace HI0:=aQ (hi);(try clear hb);(try clear hk);(try clear hi);(try clear ho0)) | ((with_reducible refine gate_dst (N:=9) rfl ?_);refine box1 (N:=9) (cs:=#[.int .i64 0,.int .i64 0,.slice none 0 0]) (t:=29) ?_;intro Zd hg w67 hbox hb;replace Zn:=aQ (Kd.N_below (Kd.N_elderB (nN Zn.out) Zd (Nat.le_of_eq hg.symm)) hb);replace HB:=aQ (below_step bB hb);have Zk:=aQ (hbox);have XL:=aQ ((by rw [hg];exact (keep_size (w:=w) (g:=g) (row:=none) bK):w.heap.size ≤ Zd));have XM:=aQ ((Nat.le_trans HW0.out (by rw [hg];exact (keep_size (w:=w) (g:=g) (row:=none) bK):w.heap.size ≤ Zd):w0.heap.size ≤ Zd));replace HK:=aQ (KeepBut.trans bK (KeepBut.of_below hb g none) (.inl rfl));have Zu:=aQ ((by rw [hg];exact Nat.ne_of_lt (blk_lt (nB Zb.out)):Za ≠ Zd));have Zi:=aQ Zu.out.symm;replace Zb:=aQ (blk_below (nB Zb.out) hb);have ZY:=aQ ((by rw [hg];exact Nat.ne_of_lt (IsS67.lt (show IsS67 w0 _ g s0_0 t259 from bI)):g ≠ Zd));have ZF:=aQ ((by rw [hg];exact Nat.ne_of_gt (IsS67.lt (show IsS67 w0 _ g s0_0 t259 from bI)):Zd ≠ g));replace HI0:=aQ (IsS67.below bI hb);clear hb hbox hg;have XN:=Zi.out;have XO:=Zu.out;have XP:=ZF.out;have XQ:=ZY.out;obtain ⟨Xl,Xm,Xn,Xo,Xp,Xq⟩:=cz3 Zk.out;obtain ⟨Zr,Zs,YD⟩:=Kd.N_slice Zn.out;subst YD))
 have n0_:Aside0 (Kd.N k29 29 (((w67.setCell ⟨Zd,0,none⟩ (.int .i64 t254)).setCell ⟨Zd,1,none⟩ (.int .i64 t255)).setCell ⟨Zd,2,none⟩ (.slice Zr t256.length Zs)) w.heap.size (fun k_=>(w.heap.size ≤ k_)∧k_ ≠ Za∧k_ ≠ g∧k_ ≠ Zd) (.slice Zr t256.length Zs) t256):=⟨Kd.N_mono (nFN (g:=Zd) Zn.out (fun k_ hk=>hk.2)) (fun _ hk=>⟨hk.1.1,⟨hk.1.2.1,⟨hk.1.2.2,hk.2⟩⟩⟩)⟩
 have n1_:Aside0 ((((w67.setCell ⟨Zd,0,none⟩ (.int .i64 t254)).setCell ⟨Zd,1,none⟩ (.int .i64 t255)).setCell ⟨Zd,2,none⟩ (.slice Zr t256.length Zs)).heap[Za]? = some (.cells #[.int .i64 0,.int .i64 0,.slice none 0 0] 29 (0,0))):=⟨bF⟩
 have n2_:Aside0 ((((w67.setCell ⟨Zd,0,none⟩ (.int .i64 t254)).setCell ⟨Zd,1,none⟩ (.int .i64 t255)).setCell ⟨Zd,2,none⟩ (.slice Zr t256.length Zs)).heap[Zd]? = some (.cells #[.int .i64 t254,.int .i64 t255,.slice Zr t256.length Zs] 29 (0,0))):=⟨bP⟩
 have n3_:Aside0 (IsS67 w0 (((w67.setCell ⟨Zd,0,none⟩ (.int .i64 t254)).setCell ⟨Zd,1,none⟩ (.int .i64 t255)).setCell ⟨Zd,2,none⟩ (.slice Zr t256.length Zs)) g s0_0 t259):=⟨bI⟩
 have n4_:Aside0 (KeepBut w (((w67.setCell ⟨Zd,0,none⟩ (.int .i64 t254)).setCell ⟨Zd,1,none⟩ (.int .i64 t255)).setCell ⟨Zd,2,none⟩ (.slice Zr t256.length Zs)) g none):=⟨bK⟩
 have n5_:Aside0 (Below w0.heap.size w0 (((w67.setCell ⟨Zd,0,none⟩ (.int .i64 t254)).setCell ⟨Zd,1,none⟩ (.int .i64 t255)).setCell ⟨Zd,2,none⟩ (.slice Zr t256.length Zs))):=⟨bB⟩
 (try clear Zn)
 (try clear Zb)
 (try clear Zk)
 (try clear HI0)
 (try clear HK)
 (try clear HB)
 generalize (((w67.setCell ⟨Zd,0,none⟩ (.int .i64 t254)).setCell ⟨Zd,1,none⟩ (.int .i64 t255)).setCell ⟨Zd,2,none⟩ (.slice Zr t256.length Zs)) = w72 at n0_ n1_ n2_ n3_ n4_ n5_ ⊢
 have Zn:=n0_
 have Zb:=n1_
 have Zk:=n2_
 have HI0:=n3_
 have HK:=n4_
 have HB:=n5_
 clear n0_ n1_ n2_ n3_ n4_ n5_
 replace Zn:=aQ (Kd.N_drew Zn.out)
 replace Zb:=aQ (blk_drew Zb.out)
 replace Zk:=aQ (blk_drew Zk.out)
 replace HI0:=aQ (IsS67.drew HI0.out)
 replace HK:=aQ (keep_drew HK.out)
 replace HB:=aQ (below_drew1 HB.out)
 refine start_ (n:=9) (S:=fun w'=>w'.cell? ⟨Zd,0,none⟩ = some (.int .i64 t254)∧w'.cell? ⟨Zd,1,none⟩ = some (.int .i64 t255)∧w'.cell? ⟨Zd,2,none⟩ = some (.slice Zr t256.length Zs)) (ds:=[]) (bn 9 0) (by kernel_rfl) rfl rfl ⟨(blk_cell Zk.out 0).trans rfl,(blk_cell Zk.out 1).trans rfl,(blk_cell Zk.out 2).trans rfl⟩ (fun hHeld=>?_);refine with_tabW spec_l92Clock.tab18 spec_l92Clock.bits18 (fun HT_ HW_=>?_)
 generalize w72.drew = w73 at Zn Zb Zk HI0 HK HB hHeld ⊢
 refine pur (i:=0) (N:=some 58) (bn 9 1) ?_
 refine pur (i:=2) (N:=some 60) (bn 9 5) ?_
 refine pur (i:=3) (N:=some 61) (bn 9 13) ?_
 refine pur (i:=4) (N:=some 62) (bn 9 29) ?_
 refine tak (i:=1) (N:=some 59) (bn 9 31) ?_
 refine one_ (i:=5) (N:=some 63) (bn 9 63) rfl rfl (one_of HT_.out (by kernel_rfl)) (by decide) (fun K hK=>?_)
 refine goes1 Try.func61 #[.pointer (some ⟨g,0,none⟩),.int .i64 (wrap64 (a1 - 1))] ?_
 with_reducible refine (ih k (by omega) g s0_0 t259 (wrap64 (a1 - 1)) t261 t262 t263 t266 w0 _ ?Zf ?Zg A63.out).mono ?_
 (case Zf=>exact bI)
 (case Zg=>exact bB)
 rintro e w74 ⟨v264,rfl,ho0,hi,hb,hk⟩
 refine ⟨_,rfl,?_⟩
 have ZD:=aQ (Kd.N_lower (Kd.N_mono (ok':=fun k_=>(w.heap.size ≤ k_)∧some k_ ≠ (.slice Zr t256.length Zs:Value).ownBlock∧k_ ≠ Za∧k_ ≠ Zd∧k_ ≠ g) ho0 (fun k_ hk_=>⟨(Nat.le_trans (keep_size (w:=w) (g:=g) (row:=none) bK) hk_),(Kd.fresh' (Kd.N_lt (nN Zn.out)) k_ hk_),(Kd.freshB (nB Zb.out) k_ hk_),(Kd.freshB (nB Zk.out) k_ hk_),(IsS67.fresh bI k_ hk_)⟩)) (keep_size (w:=w) (g:=g) (row:=none) bK))
 replace Zb:=aQ (KeepBut.blk hk (g':=Za) (o:=.cells #[.int .i64 0,.int .i64 0,.slice none 0 0] 29 (0,0)) (nB Zb.out) Ze.out (by simp))
 replace Zn:=aQ (Kd.N_mono (Kd.N_told (Kd.N_oldK (Kd.N_mono (ok:=fun k_=>(((w.heap.size ≤ k_))∧(k_ ≠ Za∧(k_ ≠ g∧k_ ≠ Zd)))) (nN Zn.out) (fun k_ hk_=>(⟨hk_,hk_.2.2.1⟩:_∧k_ ≠ g))) hk) (Kd.N_base ho0)) (fun _ h_=>h_.1))
 replace Zk:=aQ (KeepBut.blk hk (g':=Zd) (o:=.cells #[.int .i64 t254,.int .i64 t255,.slice Zr t256.length Zs] 29 (0,0)) (nB Zk.out) ZF.out (by simp))
 replace HK:=aQ (KeepBut.trans bK hk (.inl rfl))
 replace HB:=aQ (hb)
 replace HI0:=aQ (hi)
 (try clear hb)
 (try clear hk)
 (try clear hi)
 (try clear ho0)
 obtain ⟨Yj,Yk,Yl⟩:=Kd.N_slice ZD.out
 (first | subst Yl | (injection Yl with f1_ f2_ f3_;have f4_:=f1_.symm;have f5_:=f3_.symm;clear f1_ f2_ f3_;subst f4_;subst f5_))
 refine hK.out _ _ ⟨(blk_cell Zk.out 0).trans rfl,(blk_cell Zk.out 1).trans rfl,(blk_cell Zk.out 2).trans rfl⟩ (fun hHeld=>?_)
 clear hK K
 refine nrm (N:=some 63) ?_
 refine one_ (i:=6) (N:=some 64) (bn 9 127) rfl rfl (one_of HT_.out (by kernel_rfl)) (by decide) (fun K hK=>?_)
 refine Kd.N_lit_step k29 _ 29 ?hg (N':=64) ?hd (xs:=([(⟨t254,t255,t256⟩:S29),(⟨t261,t262,t263⟩:S29)]:List (S29))) (inner:=[.int .i64 t254,.int .i64 t255,.slice Zr t256.length Zs,.int .i64 t261,.int .i64 t262,.slice Yj t263.length Yk]) (ok:=(fun k_=>(w.heap.size ≤ k_)∧k_ ≠ Za∧k_ ≠ Zd∧k_ ≠ g)) (okp:=(fun k_=>(w.heap.size ≤ k_)∧k_ ≠ Za∧k_ ≠ Zd∧k_ ≠ g)) ?hr ?hp (fun _ hk=>hk) ((show ∀ k_,w74.heap.size ≤ k_ → (fun k_=>(w.heap.size ≤ k_)∧k_ ≠ Za∧k_ ≠ Zd∧k_ ≠ g) k_ from fun k_ hk=>⟨(Nat.le_trans (keep_size (w:=w) (g:=g) (row:=none) bK) hk),Kd.freshB (nB Zb.out) k_ hk,Kd.freshB (nB Zk.out) k_ hk,IsS67.fresh bI k_ hk⟩) _ (Nat.le_refl _)) (Below.refl _ _) (Nat.le_refl _) (by simp) ?_;(case hd=>rfl);(case hg=>rfl);(case hr=>first | (go_simp;done) | (go_simp;rfl));(case hp=>exact (Reps.c3 (show Kd.FK k29 _ _ (⟨t254,t255,t256⟩:S29) [.int .i64 t254,.int .i64 t255,.slice Zr t256.length Zs] from (k29_mkF _ _ (⟨t254,t255,t256⟩:S29) (Kd.N_reads' (Kd.N_mono (ok':=(fun k_=>(w.heap.size ≤ k_)∧k_ ≠ Za∧k_ ≠ Zd∧k_ ≠ g)) (Zn.out) (fun k_ hk=>⟨hk.1.1,⟨hk.1.2.1,⟨hk.1.2.2.2,hk.1.2.2.1⟩⟩⟩))).2.1 (Kd.N_F (Kd.N_mono (ok':=(fun k_=>(w.heap.size ≤ k_)∧k_ ≠ Za∧k_ ≠ Zd∧k_ ≠ g)) (Zn.out) (fun k_ hk=>⟨hk.1.1,⟨hk.1.2.1,⟨hk.1.2.2.2,hk.1.2.2.1⟩⟩⟩))))) (Reps.c3 (show Kd.FK k29 _ _ (⟨t261,t262,t263⟩:S29) [.int .i64 t261,.int .i64 t262,.slice Yj t263.length Yk] from (k29_mkF _ _ (⟨t261,t262,t263⟩:S29) (Kd.N_reads' (Kd.N_mono (ok':=(fun k_=>(w.heap.size ≤ k_)∧k_ ≠ Za∧k_ ≠ Zd∧k_ ≠ g)) (ZD.out) (fun k_ hk=>⟨hk.1,⟨hk.2.2.1,⟨hk.2.2.2.1,hk.2.2.2.2⟩⟩⟩))).2.1 (Kd.N_F (Kd.N_mono (ok':=(fun k_=>(w.heap.size ≤ k_)∧k_ ≠ Za∧k_ ≠ Zd∧k_ ≠ g)) (ZD.out) (fun k_ hk=>⟨hk.1,⟨hk.2.2.1,⟨hk.2.2.2.1,hk.2.2.2.2⟩⟩⟩))))) (Reps.none _ _))))
 intro v268 w76 ho77 hb hg_ hnew_
 clear hg_ hnew_
 (first | rw [← ZV.out] at ho77 | (simp only [Int.reduceToNat] at ho77;rw [← ZV.out] at ho77))
 have n0_:=aQ (Kd.N_lower ho77 (keep_size (w:=w) (g:=g) (row:=none) bK))
 have n1_:=aQ (IsS67.below bI hb)
 have n2_:=aQ (blk_below (nB Zb.out) hb)
 have n3_:=aQ (blk_below (nB Zk.out) hb)
 have n4_:=aQ (KeepBut.trans bK (KeepBut.of_below hb g none) (.inl rfl))
 have n5_:=aQ (below_step bB hb)
 clear HI0 Zb Zk HK HB Zn ZD
 have ZW:=n0_
 have HI0:=n1_
 have Zb:=n2_
 have Zk:=n3_
 have HK:=n4_
 have HB:=n5_
 clear n0_ n1_ n2_ n3_ n4_ n5_
 clear hb ho77
 obtain ⟨YE,YF,Ym⟩:=Kd.N_slice ZW.out
 (first | subst Ym | (injection Ym with f1_ f2_ f3_;have f4_:=f1_.symm;have f5_:=f3_.symm;clear f1_ f2_ f3_;subst f4_;subst f5_))
 refine hK.out _ _ ⟨(blk_cell Zk.out 0).trans rfl,(blk_cell Zk.out 1).trans rfl,(blk_cell Zk.out 2).trans rfl⟩ (fun hHeld=>?_)
 clear hK K
 refine nrm (N:=some 64) ?_
 refine pur (i:=7) (N:=some 65) (bn 9 255) ?_
 refine one_ (i:=8) (N:=none) (bn 9 511) rfl rfl (one_of HT_.out (by kernel_rfl)) (by decide) (fun K hK=>?_)
 have hs79:w76.cell? ⟨Za,0,none⟩ = some (.int .i64 0):=(blk_cell Zb.out 0).trans rfl
 have hfs79:=blk_frozen Zb.out 0
 have hns79_1:=Zi.out
 have hms79_1:=Zu.out
 have hs80:w76.cell? ⟨Za,1,none⟩ = some (.int .i64 0):=(blk_cell Zb.out 1).trans rfl
 have hfs80:=blk_frozen Zb.out 1
 have hns80_1:=Zi.out
 have hms80_1:=Zu.out
 have hs81:w76.cell? ⟨Za,2,none⟩ = some (.slice none 0 0):=(blk_cell Zb.out 2).trans rfl
 have hfs81:=blk_frozen Zb.out 2
 have hns81_1:=Zi.out
 have hms81_1:=Zu.out
 refine skip_ (w1:=?_) (by rfl) rfl ?_ ?_
 rotate_left
 ·go_simp
  rfl
 refine hK.out _ _ ⟨((cell_far (p:=⟨Za,_,none⟩) Zi.out _).trans (((cell_far (p:=⟨Za,_,none⟩) Zi.out _).trans (((cell_far (p:=⟨Za,_,none⟩) Zi.out _).trans (hHeld.1)))))),((cell_far (p:=⟨Za,_,none⟩) Zi.out _).trans (((cell_far (p:=⟨Za,_,none⟩) Zi.out _).trans (((cell_far (p:=⟨Za,_,none⟩) Zi.out _).trans (hHeld.2.1)))))),((cell_far (p:=⟨Za,_,none⟩) Zi.out _).trans (((cell_far (p:=⟨Za,_,none⟩) Zi.out _).trans (((cell_far (p:=⟨Za,_,none⟩) Zi.out _).trans (hHeld.2.2))))))⟩ (fun hHeld=>?_)
 clear hK K
 refine done_ (done_of HT_.out (by kernel_rfl)) ?_
 try go_wp2
 refine bodyPost_ret (results_cell_row rfl _ _ Za 29 #[.int .i64 4,.int .i64 0,.slice YE y267.length YF] (0,0) _ rfl bP Try.underlying29 rfl (by kernel_rfl)) rfl ?_
 exact ⟨_,rfl,by (with_reducible repeat (first | apply Kd.N_alloc | apply Kd.N_drewN | apply Kd.N_drew));exact Kd.N_mono (nFN (g:=Za) ZW.out (fun k_ hk=>hk.2.1)) (fun _ hk=>hk.1),bI,bB,bK⟩
def spec_l92Timed.f (k:Nat) (s0_0:List Int) (s0_1:Int):Option (Int × Int × (List (S29)) × Int):=(spec_l6Rd_pick.f k s0_0 s0_1 4).bind fun bt287=>((spec_l92Clock.f k s0_0 bt287.2 (wrap64 (1 + bt287.1))).bind fun bt289=>((spec_l6Rd_pick.f k s0_0 bt289.2.2.2 30).bind fun bt296=>(if bt296.1 = 0 then ((spec_l6Rd_pick.f k s0_0 bt296.2 7).bind fun bt298=>(some (bt298.1,bt289.2.1,bt289.2.2.1,bt298.2))) else (if bt296.1 = 1 then (some (bt289.1,(-1),bt289.2.2.1,bt296.2)) else (some (bt289.1,bt289.2.1,bt289.2.2.1,bt296.2))))))
theorem spec_l92Timed.mono:∀ a0 a1 k,LeO (spec_l92Timed.f k a0 a1) (spec_l92Timed.f (k + 1) a0 a1):=by
 intro a0 a1 k
 unfold spec_l92Timed.f
 repeat' first
   | (with_reducible exact spec_l6Rd_pick.mono _ _ _ _)
   | (with_reducible exact spec_l92Clock.mono _ _ _ _)
   | (with_reducible exact LeO.refl _)
   | (with_reducible exact LeO.none _)
   | (with_reducible refine LeO.ite ?_ ?_)
   | (with_reducible refine LeO.bind ?_ (fun _=>?_))
   | exact spec_l6Rd_pick.mono _ _ _ _
   | exact spec_l92Clock.mono _ _ _ _
   | exact LeO.none _
   | refine LeO.ite ?_ ?_
   | refine LeO.bind ?_ (fun _=>?_)
set_option maxHeartbeats 8000000 in
set_option maxRecDepth 100000 in
theorem spec_l92Timed.calls (k:Nat) (g:Nat) (s0_0:List Int) (s0_1:Int) (r1:Int) (r2:Int) (r3:List (S29)) (r4:Int) (w0 w:World) (hI:IsS67 w0 w g s0_0 s0_1) (hB:Below w0.heap.size w0 w) (h:spec_l92Timed.f k s0_0 s0_1 = some (r1,r2,r3,r4)) :
  Calls Try.prog 46 #[.pointer (some ⟨g,0,none⟩)] w fun e w'=>∃ v2_:Value,e = .returned (.agg #[.int .i64 r1,.int .i64 r2,v2_])∧Kd.N k29 29 w' w.heap.size (fun k_=>(w.heap.size ≤ k_)) v2_ r3∧IsS67 w0 w' g s0_0 r4∧Below w0.heap.size w0 w'∧KeepBut w w' g none:=by
 have hu29:=Try.underlying29
 have HI0:=aQ hI
 have HK:=aQ (KeepBut.refl w g none)
 have HL:=aQ hB.size
 clear hI
 have HW0:=aQ hB.size
 have HB:=aQ hB
 clear hB
 have H:=h
 clear h
 obtain ⟨⟨t287,t288⟩,A2,H⟩:=bQ H
 dsimp only at H
 obtain ⟨⟨t289,t290,t291,t294⟩,A3,H⟩:=bQ H
 dsimp only at H
 obtain ⟨⟨t296,t297⟩,A4,H⟩:=bQ H
 dsimp only at H
 by_cases c5:t296 = 0
 ·rw [if_pos c5] at H
  have c5b0:(t296 == 0) = true:=beq_iff_eq.mpr c5
  have c5b1:(t296 != 0) = false:=bne_eq_false_iff_eq.mpr c5
  clear c5
  obtain ⟨⟨t298,t299⟩,A6,H⟩:=bQ H
  dsimp only at H
  simp only [Option.some.injEq,Prod.mk.injEq] at H
  obtain ⟨rfl,rfl,rfl,rfl⟩:=H
  go_enter Try.func46,Try.ntmps46
  go_wp2_with (first | ((with_reducible refine gate_dst (N:=2) rfl ?_);refine box_event ?hg (N:=2) ?hd (cs:=#[.int .i64 0,.int .i64 0,.slice none 0 0]) (t:=29) ?hr ?_;(case hd=>rfl);(case hg=>rfl);(case hr=>first | (go_simp;done) | (go_simp;rfl));intro Za hg w7 hbox hb;replace HB:=aQ (below_step (by repeat (first | (with_reducible first | exact HB.out | apply below_alloc | apply pw_below_drewN | apply below_drew1 | refine below_set ?_ (IsS67.ge HI0.out)) | exact HB.out)) hb);have Zc:=aQ (hbox);have Ze:=aQ ((by rw [hg];exact (keep_size (w:=w) (g:=g) (row:=none) (by repeat (first | (with_reducible first | exact HK.out | apply KeepBut.set_ | apply keep_drewN | apply keep_drew | apply keep_alloc) | exact HK.out))):w.heap.size ≤ Za));have Zp:=aQ ((Nat.le_trans HW0.out (by rw [hg];exact (keep_size (w:=w) (g:=g) (row:=none) (by repeat (first | (with_reducible first | exact HK.out | apply KeepBut.set_ | apply keep_drewN | apply keep_drew | apply keep_alloc) | exact HK.out))):w.heap.size ≤ Za):w0.heap.size ≤ Za));replace HK:=aQ (KeepBut.trans (by repeat (first | (with_reducible first | exact HK.out | apply KeepBut.set_ | apply keep_drewN | apply keep_drew | apply keep_alloc) | exact HK.out)) (KeepBut.of_below hb g none) (.inl rfl));have Zf:=aQ ((by rw [hg];exact Nat.ne_of_lt (IsS67.lt (show IsS67 w0 _ g s0_0 s0_1 from by repeat (first | (with_reducible first | exact HI0.out | apply IsS67.alloc | apply IsS67.drewN | apply IsS67.drew | apply IsS67.set_1) | exact HI0.out))):g ≠ Za));have Zh:=aQ ((by rw [hg];exact Nat.ne_of_gt (IsS67.lt (show IsS67 w0 _ g s0_0 s0_1 from by repeat (first | (with_reducible first | exact HI0.out | apply IsS67.alloc | apply IsS67.drewN | apply IsS67.drew | apply IsS67.set_1) | exact HI0.out))):Za ≠ g));replace HI0:=aQ (IsS67.below (by repeat (first | (with_reducible first | exact HI0.out | apply IsS67.alloc | apply IsS67.drewN | apply IsS67.drew | apply IsS67.set_1) | exact HI0.out)) hb);clear hb hbox hg) | ((with_reducible refine gate_callee (f:=56) rfl ?_);refine goesL_ (some 6) rfl rfl Try.func56 (by kernel_rfl) rfl #[.pointer (some ⟨g,0,none⟩),.int .i64 4] rfl mP ?_;(with_reducible refine (spec_l6Rd_pick.calls k g s0_0 s0_1 4 t287 t288 w0 _ ?Zi ?Zj A2.out).mono ?_);(case Zi=>exact bI);(case Zj=>exact bB);rintro e w8 ⟨rfl,hi,hb,hk⟩;refine ⟨_,rfl,?_⟩;replace Zc:=aQ (KeepBut.blk hk (g':=Za) (o:=.cells #[.int .i64 0,.int .i64 0,.slice none 0 0] 29 (0,0)) (by (with_reducible repeat (first | refine blk_drewN ?_ _ | refine blk_drew ?_ | refine blk_alloc ?_ _));exact Zc.out) Zh.out (by simp));replace HK:=aQ (KeepBut.trans (by repeat (first | (with_reducible first | exact HK.out | apply KeepBut.set_ | apply keep_drewN | apply keep_drew | apply keep_alloc | refine keep_far ?_ Ze.out _) | exact HK.out)) hk (.inl rfl));replace HB:=aQ (hb);replace HI0:=aQ (hi);(try clear hb);(try clear hk);(try clear hi)) | ((with_reducible refine gate_callee (f:=61) rfl ?_);refine goesL_ (some 8) rfl rfl Try.func61 (by kernel_rfl) rfl #[.pointer (some ⟨g,0,none⟩),.int .i64 (wrap64 (1 + t287))] rfl mP ?_;(with_reducible refine (spec_l92Clock.calls k g s0_0 t288 (wrap64 (1 + t287)) t289 t290 t291 t294 w0 _ ?Zi ?Zj A3.out).mono ?_);(case Zi=>exact bI);(case Zj=>exact bB);rintro e w9 ⟨v292,rfl,ho0,hi,hb,hk⟩;refine ⟨_,rfl,?_⟩;have Zg:=aQ (Kd.N_lower (Kd.N_mono (ok':=fun k_=>(w.heap.size ≤ k_)∧k_ ≠ Za∧k_ ≠ g) ho0 (fun k_ hk_=>⟨(Nat.le_trans (keep_size (w:=w) (g:=g) (row:=none) (by repeat (first | (with_reducible first | exact HK.out | apply KeepBut.set_ | apply keep_drewN | apply keep_drew | apply keep_alloc | refine keep_far ?_ Ze.out _) | exact HK.out))) hk_),(Kd.freshB (g:=Za) (o:=.cells #[.int .i64 0,.int .i64 0,.slice none 0 0] 29 (0,0)) (by (with_reducible repeat (first | refine blk_drewN ?_ _ | refine blk_drew ?_ | refine blk_alloc ?_ _));exact Zc.out) k_ hk_),(IsS67.fresh (by repeat (first | (with_reducible first | exact HI0.out | apply IsS67.alloc | apply IsS67.drewN | apply IsS67.drew | apply IsS67.set_1 | refine IsS67.far ?_ Zf.out _) | exact HI0.out)) k_ hk_)⟩)) (keep_size (w:=w) (g:=g) (row:=none) (by repeat (first | (with_reducible first | exact HK.out | apply KeepBut.set_ | apply keep_drewN | apply keep_drew | apply keep_alloc | refine keep_far ?_ Ze.out _) | exact HK.out))));replace Zc:=aQ (KeepBut.blk hk (g':=Za) (o:=.cells #[.int .i64 0,.int .i64 0,.slice none 0 0] 29 (0,0)) (by (with_reducible repeat (first | refine blk_drewN ?_ _ | refine blk_drew ?_ | refine blk_alloc ?_ _));exact Zc.out) Zh.out (by simp));replace HK:=aQ (KeepBut.trans (by repeat (first | (with_reducible first | exact HK.out | apply KeepBut.set_ | apply keep_drewN | apply keep_drew | apply keep_alloc | refine keep_far ?_ Ze.out _) | exact HK.out)) hk (.inl rfl));replace HB:=aQ (hb);replace HI0:=aQ (hi);(try clear hb);(try clear hk);(try clear hi);(try clear ho0)) | ((with_reducible refine gate_dst (N:=3) rfl ?_);refine box_event ?hg (N:=3) ?hd (cs:=#[.int .i64 0,.int .i64 0,.slice none 0 0]) (t:=29) ?hr ?_;(case hd=>rfl);(case hg=>rfl);(case hr=>first | (go_simp;done) | (go_simp;rfl));intro Zb hg w10 hbox hb;replace Zg:=aQ (Kd.N_below (Kd.N_elderB (by (with_reducible repeat (first | apply Kd.N_alloc | apply Kd.N_drewN | apply Kd.N_drew));exact Zg.out) Zb (Nat.le_of_eq hg.symm)) hb);replace HB:=aQ (below_step (by repeat (first | (with_reducible first | exact HB.out | apply below_alloc | apply pw_below_drewN | apply below_drew1 | refine below_set ?_ (IsS67.ge HI0.out) | refine below_set ?_ Zp.out) | exact HB.out)) hb);have Zk:=aQ (hbox);have Zo:=aQ ((by rw [hg];exact (keep_size (w:=w) (g:=g) (row:=none) (by repeat (first | (with_reducible first | exact HK.out | apply KeepBut.set_ | apply keep_drewN | apply keep_drew | apply keep_alloc | refine keep_far ?_ Ze.out _) | exact HK.out))):w.heap.size ≤ Zb));have Zq:=aQ ((Nat.le_trans HW0.out (by rw [hg];exact (keep_size (w:=w) (g:=g) (row:=none) (by repeat (first | (with_reducible first | exact HK.out | apply KeepBut.set_ | apply keep_drewN | apply keep_drew | apply keep_alloc | refine keep_far ?_ Ze.out _) | exact HK.out))):w.heap.size ≤ Zb):w0.heap.size ≤ Zb));replace HK:=aQ (KeepBut.trans (by repeat (first | (with_reducible first | exact HK.out | apply KeepBut.set_ | apply keep_drewN | apply keep_drew | apply keep_alloc | refine keep_far ?_ Ze.out _) | exact HK.out)) (KeepBut.of_below hb g none) (.inl rfl));have Zd:=aQ ((by rw [hg];exact Nat.ne_of_lt (blk_lt (g:=Za) (o:=.cells #[.int .i64 0,.int .i64 0,.slice none 0 0] 29 (0,0)) (by (with_reducible repeat (first | refine blk_drewN ?_ _ | refine blk_drew ?_ | refine blk_alloc ?_ _));exact Zc.out)):Za ≠ Zb));have Zn:=aQ Zd.out.symm;replace Zc:=aQ (blk_below (g:=Za) (o:=.cells #[.int .i64 0,.int .i64 0,.slice none 0 0] 29 (0,0)) (by (with_reducible repeat (first | refine blk_drewN ?_ _ | refine blk_drew ?_ | refine blk_alloc ?_ _));exact Zc.out) hb);have Zm:=aQ ((by rw [hg];exact Nat.ne_of_lt (IsS67.lt (show IsS67 w0 _ g s0_0 t294 from by repeat (first | (with_reducible first | exact HI0.out | apply IsS67.alloc | apply IsS67.drewN | apply IsS67.drew | apply IsS67.set_1 | refine IsS67.far ?_ Zf.out _) | exact HI0.out))):g ≠ Zb));have Zl:=aQ ((by rw [hg];exact Nat.ne_of_gt (IsS67.lt (show IsS67 w0 _ g s0_0 t294 from by repeat (first | (with_reducible first | exact HI0.out | apply IsS67.alloc | apply IsS67.drewN | apply IsS67.drew | apply IsS67.set_1 | refine IsS67.far ?_ Zf.out _) | exact HI0.out))):Zb ≠ g));replace HI0:=aQ (IsS67.below (by repeat (first | (with_reducible first | exact HI0.out | apply IsS67.alloc | apply IsS67.drewN | apply IsS67.drew | apply IsS67.set_1 | refine IsS67.far ?_ Zf.out _) | exact HI0.out)) hb);clear hb hbox hg;have YC:=Zn.out;have YD:=Zd.out;have YE:=Zl.out;have YF:=Zm.out;obtain ⟨ZA,ZB,ZC,ZD,ZE,ZF⟩:=cz3 Zk.out;obtain ⟨Zr,Zs,Zx⟩:=Kd.N_slice Zg.out;subst Zx) | ((with_reducible refine gate_callee (f:=56) rfl ?_);refine goesL_ (some 10) rfl rfl Try.func56 (by kernel_rfl) rfl #[.pointer (some ⟨g,0,none⟩),.int .i64 30] rfl mP ?_;(with_reducible refine (spec_l6Rd_pick.calls k g s0_0 t294 30 t296 t297 w0 _ ?Zi ?Zj A4.out).mono ?_);(case Zi=>exact bI);(case Zj=>exact bB);rintro e w15 ⟨rfl,hi,hb,hk⟩;refine ⟨_,rfl,?_⟩;replace Zc:=aQ (KeepBut.blk hk (g':=Za) (o:=.cells #[.int .i64 0,.int .i64 0,.slice none 0 0] 29 (0,0)) (by (with_reducible repeat (first | refine blk_drewN ?_ _ | refine blk_drew ?_ | refine blk_alloc ?_ _));refine blk_far ?_ Zd.out _;(with_reducible repeat (first | refine blk_drewN ?_ _ | refine blk_drew ?_ | refine blk_alloc ?_ _));refine blk_far ?_ Zd.out _;(with_reducible repeat (first | refine blk_drewN ?_ _ | refine blk_drew ?_ | refine blk_alloc ?_ _));refine blk_far ?_ Zd.out _;(with_reducible repeat (first | refine blk_drewN ?_ _ | refine blk_drew ?_ | refine blk_alloc ?_ _));exact Zc.out) Zh.out (by simp));replace Zg:=aQ (Kd.N_mono (Kd.N_keep (Kd.N_mono (ok:=fun k_=>((((w.heap.size ≤ k_))∧(k_ ≠ Za∧k_ ≠ g))∧k_ ≠ Zb)) (by (with_reducible repeat (first | apply Kd.N_alloc | apply Kd.N_drewN | apply Kd.N_drew));exact (Kd.N_mono (Kd.N_far (p:=⟨Zb,2,none⟩) (Kd.N_far (p:=⟨Zb,1,none⟩) (Kd.N_far (p:=⟨Zb,0,none⟩) (Kd.N_mono Zg.out (fun k_ hk=>(⟨hk,hk.2⟩:_∧k_ ≠ Zb))) (fun _ hk=>hk.2) (.int .i64 t289)) (fun _ hk=>hk.2) (.int .i64 t290)) (fun _ hk=>hk.2) (.slice Zr t291.length Zs)) (fun _ h_=>h_.1))) (fun k_ hk_=>(⟨hk_,hk_.1.2.2⟩:_∧k_ ≠ g))) hk (fun _ h=>h.2)) (fun _ h=>h.1));replace Zk:=aQ (KeepBut.blk hk (g':=Zb) (o:=.cells #[.int .i64 t289,.int .i64 t290,.slice Zr t291.length Zs] 29 (0,0)) bP Zl.out (by simp));replace HK:=aQ (KeepBut.trans (by repeat (first | (with_reducible first | exact HK.out | apply KeepBut.set_ | apply keep_drewN | apply keep_drew | apply keep_alloc | refine keep_far ?_ Ze.out _ | refine keep_far ?_ Zo.out _) | exact HK.out)) hk (.inl rfl));replace HB:=aQ (hb);replace HI0:=aQ (hi);(try clear hb);(try clear hk);(try clear hi)) | ((with_reducible refine gate_callee (f:=56) rfl ?_);refine goesL_ (some 14) rfl rfl Try.func56 (by kernel_rfl) rfl #[.pointer (some ⟨g,0,none⟩),.int .i64 7] rfl mP ?_;(with_reducible refine (spec_l6Rd_pick.calls k g s0_0 t297 7 t298 t299 w0 _ ?Zi ?Zj A6.out).mono ?_);(case Zi=>exact bI);(case Zj=>exact bB);rintro e w16 ⟨rfl,hi,hb,hk⟩;refine ⟨_,rfl,?_⟩;replace Zc:=aQ (KeepBut.blk hk (g':=Za) (o:=.cells #[.int .i64 0,.int .i64 0,.slice none 0 0] 29 (0,0)) (by (with_reducible repeat (first | refine blk_drewN ?_ _ | refine blk_drew ?_ | refine blk_alloc ?_ _));exact Zc.out) Zh.out (by simp));replace Zg:=aQ (Kd.N_mono (Kd.N_keep (Kd.N_mono (ok:=fun k_=>((((w.heap.size ≤ k_))∧(k_ ≠ Za∧k_ ≠ g))∧k_ ≠ Zb)) (by (with_reducible repeat (first | apply Kd.N_alloc | apply Kd.N_drewN | apply Kd.N_drew));exact Zg.out) (fun k_ hk_=>(⟨hk_,hk_.1.2.2⟩:_∧k_ ≠ g))) hk (fun _ h=>h.2)) (fun _ h=>h.1));replace Zk:=aQ (KeepBut.blk hk (g':=Zb) (o:=.cells #[.int .i64 t289,.int .i64 t290,.slice Zr t291.length Zs] 29 (0,0)) (by (with_reducible repeat (first | refine blk_drewN ?_ _ | refine blk_drew ?_ | refine blk_alloc ?_ _));exact Zk.out) Zl.out (by simp));replace HK:=aQ (KeepBut.trans (by repeat (first | (with_reducible first | exact HK.out | apply KeepBut.set_ | apply keep_drewN | apply keep_drew | apply keep_alloc | refine keep_far ?_ Ze.out _ | refine keep_far ?_ Zo.out _) | exact HK.out)) hk (.inl rfl));replace HB:=aQ (hb);replace HI0:=aQ (hi);(try clear hb);(try clear hk);(try clear hi);obtain ⟨ZG,ZH,ZI,ZJ,ZK,ZL⟩:=cz3 Zk.out;have YG:=Zh.out;have YH:=Zf.out;obtain ⟨ZM,ZN,ZO,ZP,ZQ,ZR⟩:=cz3 Zc.out))
  refine bodyPost_ret (results_cell_row rfl _ _ Za 29 #[.int .i64 t298,.int .i64 t290,.slice Zr t291.length Zs] (0,0) _ rfl (by (with_reducible repeat (first | refine blk_drewN ?_ _ | refine blk_drew ?_ | refine blk_alloc ?_ _));refine blk_put (cs:=#[.int .i64 t298,.int .i64 t290,.slice none 0 0]) ?_ 2 _ rfl;(with_reducible repeat (first | refine blk_drewN ?_ _ | refine blk_drew ?_ | refine blk_alloc ?_ _));refine blk_put (cs:=#[.int .i64 t298,.int .i64 0,.slice none 0 0]) ?_ 1 _ rfl;(with_reducible repeat (first | refine blk_drewN ?_ _ | refine blk_drew ?_ | refine blk_alloc ?_ _));refine blk_put (cs:=#[.int .i64 0,.int .i64 0,.slice none 0 0]) ?_ 0 _ rfl;(with_reducible repeat (first | refine blk_drewN ?_ _ | refine blk_drew ?_ | refine blk_alloc ?_ _));refine blk_far ?_ Zd.out _;(with_reducible repeat (first | refine blk_drewN ?_ _ | refine blk_drew ?_ | refine blk_alloc ?_ _));exact Zc.out) Try.underlying29 rfl (by kernel_rfl)) rfl ?_
  exact ⟨_,rfl,by (with_reducible repeat (first | apply Kd.N_alloc | apply Kd.N_drewN | apply Kd.N_drew));exact Kd.N_mono (Kd.N_far (p:=⟨Za,2,none⟩) (Kd.N_far (p:=⟨Za,1,none⟩) (Kd.N_far (p:=⟨Za,0,none⟩) (Kd.N_far (p:=⟨Zb,0,none⟩) (Kd.N_mono (Kd.N_mono Zg.out (fun k_ hk=>(⟨hk,hk.2⟩:_∧k_ ≠ Zb))) (fun k_ hk=>(⟨hk,hk.1.1.2.1⟩:_∧k_ ≠ Za))) (fun _ hk=>hk.1.2) (.int .i64 t298)) (fun _ hk=>hk.2) (.int .i64 t298)) (fun _ hk=>hk.2) (.int .i64 t290)) (fun _ hk=>hk.2) (.slice Zr t291.length Zs)) (fun _ hk=>hk.1.1.1.1),by repeat (first | (with_reducible first | exact HI0.out | apply IsS67.alloc | apply IsS67.drewN | apply IsS67.drew | apply IsS67.set_1 | refine IsS67.far ?_ Zf.out _ | refine IsS67.far ?_ Zm.out _) | exact HI0.out),by repeat (first | (with_reducible first | exact HB.out | apply below_alloc | apply pw_below_drewN | apply below_drew1 | refine below_set ?_ (IsS67.ge HI0.out) | refine below_set ?_ Zp.out | refine below_set ?_ Zq.out) | exact HB.out),by repeat (first | (with_reducible first | exact HK.out | apply KeepBut.set_ | apply keep_drewN | apply keep_drew | apply keep_alloc | refine keep_far ?_ Ze.out _ | refine keep_far ?_ Zo.out _) | exact HK.out)⟩
 rw [if_neg c5] at H
 have c5b0:(t296 == 0) = false:=beq_eq_false_iff_ne.mpr c5
 have c5b1:(t296 != 0) = true:=bne_iff_ne.mpr c5
 by_cases c20:t296 = 1;rotate_left
 ·rw [if_neg c20] at H
  have c20b0:(t296 == 1) = false:=beq_eq_false_iff_ne.mpr c20
  have c20b1:(t296 != 1) = true:=bne_iff_ne.mpr c20
  simp only [Option.some.injEq,Prod.mk.injEq] at H
  obtain ⟨rfl,rfl,rfl,rfl⟩:=H
  go_enter Try.func46,Try.ntmps46
  go_wp2_with (first | ((with_reducible refine gate_dst (N:=2) rfl ?_);refine box_event ?hg (N:=2) ?hd (cs:=#[.int .i64 0,.int .i64 0,.slice none 0 0]) (t:=29) ?hr ?_;(case hd=>rfl);(case hg=>rfl);(case hr=>first | (go_simp;done) | (go_simp;rfl));intro Za hg w33 hbox hb;replace HB:=aQ (below_step (by repeat (first | (with_reducible first | exact HB.out | apply below_alloc | apply pw_below_drewN | apply below_drew1 | refine below_set ?_ (IsS67.ge HI0.out)) | exact HB.out)) hb);have Zc:=aQ (hbox);have Ze:=aQ ((by rw [hg];exact (keep_size (w:=w) (g:=g) (row:=none) (by repeat (first | (with_reducible first | exact HK.out | apply KeepBut.set_ | apply keep_drewN | apply keep_drew | apply keep_alloc) | exact HK.out))):w.heap.size ≤ Za));have Zp:=aQ ((Nat.le_trans HW0.out (by rw [hg];exact (keep_size (w:=w) (g:=g) (row:=none) (by repeat (first | (with_reducible first | exact HK.out | apply KeepBut.set_ | apply keep_drewN | apply keep_drew | apply keep_alloc) | exact HK.out))):w.heap.size ≤ Za):w0.heap.size ≤ Za));replace HK:=aQ (KeepBut.trans (by repeat (first | (with_reducible first | exact HK.out | apply KeepBut.set_ | apply keep_drewN | apply keep_drew | apply keep_alloc) | exact HK.out)) (KeepBut.of_below hb g none) (.inl rfl));have Zf:=aQ ((by rw [hg];exact Nat.ne_of_lt (IsS67.lt (show IsS67 w0 _ g s0_0 s0_1 from by repeat (first | (with_reducible first | exact HI0.out | apply IsS67.alloc | apply IsS67.drewN | apply IsS67.drew | apply IsS67.set_1) | exact HI0.out))):g ≠ Za));have Zh:=aQ ((by rw [hg];exact Nat.ne_of_gt (IsS67.lt (show IsS67 w0 _ g s0_0 s0_1 from by repeat (first | (with_reducible first | exact HI0.out | apply IsS67.alloc | apply IsS67.drewN | apply IsS67.drew | apply IsS67.set_1) | exact HI0.out))):Za ≠ g));replace HI0:=aQ (IsS67.below (by repeat (first | (with_reducible first | exact HI0.out | apply IsS67.alloc | apply IsS67.drewN | apply IsS67.drew | apply IsS67.set_1) | exact HI0.out)) hb);clear hb hbox hg) | ((with_reducible refine gate_callee (f:=56) rfl ?_);refine goesL_ (some 6) rfl rfl Try.func56 (by kernel_rfl) rfl #[.pointer (some ⟨g,0,none⟩),.int .i64 4] rfl mP ?_;(with_reducible refine (spec_l6Rd_pick.calls k g s0_0 s0_1 4 t287 t288 w0 _ ?Zi ?Zj A2.out).mono ?_);(case Zi=>exact bI);(case Zj=>exact bB);rintro e w34 ⟨rfl,hi,hb,hk⟩;refine ⟨_,rfl,?_⟩;replace Zc:=aQ (KeepBut.blk hk (g':=Za) (o:=.cells #[.int .i64 0,.int .i64 0,.slice none 0 0] 29 (0,0)) (by (with_reducible repeat (first | refine blk_drewN ?_ _ | refine blk_drew ?_ | refine blk_alloc ?_ _));exact Zc.out) Zh.out (by simp));replace HK:=aQ (KeepBut.trans (by repeat (first | (with_reducible first | exact HK.out | apply KeepBut.set_ | apply keep_drewN | apply keep_drew | apply keep_alloc | refine keep_far ?_ Ze.out _) | exact HK.out)) hk (.inl rfl));replace HB:=aQ (hb);replace HI0:=aQ (hi);(try clear hb);(try clear hk);(try clear hi)) | ((with_reducible refine gate_callee (f:=61) rfl ?_);refine goesL_ (some 8) rfl rfl Try.func61 (by kernel_rfl) rfl #[.pointer (some ⟨g,0,none⟩),.int .i64 (wrap64 (1 + t287))] rfl mP ?_;(with_reducible refine (spec_l92Clock.calls k g s0_0 t288 (wrap64 (1 + t287)) t289 t290 t291 t294 w0 _ ?Zi ?Zj A3.out).mono ?_);(case Zi=>exact bI);(case Zj=>exact bB);rintro e w35 ⟨v292,rfl,ho0,hi,hb,hk⟩;refine ⟨_,rfl,?_⟩;have Zg:=aQ (Kd.N_lower (Kd.N_mono (ok':=fun k_=>(w.heap.size ≤ k_)∧k_ ≠ Za∧k_ ≠ g) ho0 (fun k_ hk_=>⟨(Nat.le_trans (keep_size (w:=w) (g:=g) (row:=none) (by repeat (first | (with_reducible first | exact HK.out | apply KeepBut.set_ | apply keep_drewN | apply keep_drew | apply keep_alloc | refine keep_far ?_ Ze.out _) | exact HK.out))) hk_),(Kd.freshB (g:=Za) (o:=.cells #[.int .i64 0,.int .i64 0,.slice none 0 0] 29 (0,0)) (by (with_reducible repeat (first | refine blk_drewN ?_ _ | refine blk_drew ?_ | refine blk_alloc ?_ _));exact Zc.out) k_ hk_),(IsS67.fresh (by repeat (first | (with_reducible first | exact HI0.out | apply IsS67.alloc | apply IsS67.drewN | apply IsS67.drew | apply IsS67.set_1 | refine IsS67.far ?_ Zf.out _) | exact HI0.out)) k_ hk_)⟩)) (keep_size (w:=w) (g:=g) (row:=none) (by repeat (first | (with_reducible first | exact HK.out | apply KeepBut.set_ | apply keep_drewN | apply keep_drew | apply keep_alloc | refine keep_far ?_ Ze.out _) | exact HK.out))));replace Zc:=aQ (KeepBut.blk hk (g':=Za) (o:=.cells #[.int .i64 0,.int .i64 0,.slice none 0 0] 29 (0,0)) (by (with_reducible repeat (first | refine blk_drewN ?_ _ | refine blk_drew ?_ | refine blk_alloc ?_ _));exact Zc.out) Zh.out (by simp));replace HK:=aQ (KeepBut.trans (by repeat (first | (with_reducible first | exact HK.out | apply KeepBut.set_ | apply keep_drewN | apply keep_drew | apply keep_alloc | refine keep_far ?_ Ze.out _) | exact HK.out)) hk (.inl rfl));replace HB:=aQ (hb);replace HI0:=aQ (hi);(try clear hb);(try clear hk);(try clear hi);(try clear ho0)) | ((with_reducible refine gate_dst (N:=3) rfl ?_);refine box_event ?hg (N:=3) ?hd (cs:=#[.int .i64 0,.int .i64 0,.slice none 0 0]) (t:=29) ?hr ?_;(case hd=>rfl);(case hg=>rfl);(case hr=>first | (go_simp;done) | (go_simp;rfl));intro Zb hg w36 hbox hb;replace Zg:=aQ (Kd.N_below (Kd.N_elderB (by (with_reducible repeat (first | apply Kd.N_alloc | apply Kd.N_drewN | apply Kd.N_drew));exact Zg.out) Zb (Nat.le_of_eq hg.symm)) hb);replace HB:=aQ (below_step (by repeat (first | (with_reducible first | exact HB.out | apply below_alloc | apply pw_below_drewN | apply below_drew1 | refine below_set ?_ (IsS67.ge HI0.out) | refine below_set ?_ Zp.out) | exact HB.out)) hb);have Zk:=aQ (hbox);have Zo:=aQ ((by rw [hg];exact (keep_size (w:=w) (g:=g) (row:=none) (by repeat (first | (with_reducible first | exact HK.out | apply KeepBut.set_ | apply keep_drewN | apply keep_drew | apply keep_alloc | refine keep_far ?_ Ze.out _) | exact HK.out))):w.heap.size ≤ Zb));have Zq:=aQ ((Nat.le_trans HW0.out (by rw [hg];exact (keep_size (w:=w) (g:=g) (row:=none) (by repeat (first | (with_reducible first | exact HK.out | apply KeepBut.set_ | apply keep_drewN | apply keep_drew | apply keep_alloc | refine keep_far ?_ Ze.out _) | exact HK.out))):w.heap.size ≤ Zb):w0.heap.size ≤ Zb));replace HK:=aQ (KeepBut.trans (by repeat (first | (with_reducible first | exact HK.out | apply KeepBut.set_ | apply keep_drewN | apply keep_drew | apply keep_alloc | refine keep_far ?_ Ze.out _) | exact HK.out)) (KeepBut.of_below hb g none) (.inl rfl));have Zd:=aQ ((by rw [hg];exact Nat.ne_of_lt (blk_lt (g:=Za) (o:=.cells #[.int .i64 0,.int .i64 0,.slice none 0 0] 29 (0,0)) (by (with_reducible repeat (first | refine blk_drewN ?_ _ | refine blk_drew ?_ | refine blk_alloc ?_ _));exact Zc.out)):Za ≠ Zb));have Zn:=aQ Zd.out.symm;replace Zc:=aQ (blk_below (g:=Za) (o:=.cells #[.int .i64 0,.int .i64 0,.slice none 0 0] 29 (0,0)) (by (with_reducible repeat (first | refine blk_drewN ?_ _ | refine blk_drew ?_ | refine blk_alloc ?_ _));exact Zc.out) hb);have Zm:=aQ ((by rw [hg];exact Nat.ne_of_lt (IsS67.lt (show IsS67 w0 _ g s0_0 t294 from by repeat (first | (with_reducible first | exact HI0.out | apply IsS67.alloc | apply IsS67.drewN | apply IsS67.drew | apply IsS67.set_1 | refine IsS67.far ?_ Zf.out _) | exact HI0.out))):g ≠ Zb));have Zl:=aQ ((by rw [hg];exact Nat.ne_of_gt (IsS67.lt (show IsS67 w0 _ g s0_0 t294 from by repeat (first | (with_reducible first | exact HI0.out | apply IsS67.alloc | apply IsS67.drewN | apply IsS67.drew | apply IsS67.set_1 | refine IsS67.far ?_ Zf.out _) | exact HI0.out))):Zb ≠ g));replace HI0:=aQ (IsS67.below (by repeat (first | (with_reducible first | exact HI0.out | apply IsS67.alloc | apply IsS67.drewN | apply IsS67.drew | apply IsS67.set_1 | refine IsS67.far ?_ Zf.out _) | exact HI0.out)) hb);clear hb hbox hg;have YI:=Zn.out;have YJ:=Zd.out;have YK:=Zl.out;have YL:=Zm.out;obtain ⟨ZS,ZT,ZU,ZV,ZW,ZX⟩:=cz3 Zk.out;obtain ⟨Zv,Zw,Zy⟩:=Kd.N_slice Zg.out;subst Zy) | ((with_reducible refine gate_callee (f:=56) rfl ?_);refine goesL_ (some 10) rfl rfl Try.func56 (by kernel_rfl) rfl #[.pointer (some ⟨g,0,none⟩),.int .i64 30] rfl mP ?_;(with_reducible refine (spec_l6Rd_pick.calls k g s0_0 t294 30 t296 t297 w0 _ ?Zi ?Zj A4.out).mono ?_);(case Zi=>exact bI);(case Zj=>exact bB);rintro e w41 ⟨rfl,hi,hb,hk⟩;refine ⟨_,rfl,?_⟩;replace Zc:=aQ (KeepBut.blk hk (g':=Za) (o:=.cells #[.int .i64 0,.int .i64 0,.slice none 0 0] 29 (0,0)) (by (with_reducible repeat (first | refine blk_drewN ?_ _ | refine blk_drew ?_ | refine blk_alloc ?_ _));refine blk_far ?_ Zd.out _;(with_reducible repeat (first | refine blk_drewN ?_ _ | refine blk_drew ?_ | refine blk_alloc ?_ _));refine blk_far ?_ Zd.out _;(with_reducible repeat (first | refine blk_drewN ?_ _ | refine blk_drew ?_ | refine blk_alloc ?_ _));refine blk_far ?_ Zd.out _;(with_reducible repeat (first | refine blk_drewN ?_ _ | refine blk_drew ?_ | refine blk_alloc ?_ _));exact Zc.out) Zh.out (by simp));replace Zg:=aQ (Kd.N_mono (Kd.N_keep (Kd.N_mono (ok:=fun k_=>((((w.heap.size ≤ k_))∧(k_ ≠ Za∧k_ ≠ g))∧k_ ≠ Zb)) (by (with_reducible repeat (first | apply Kd.N_alloc | apply Kd.N_drewN | apply Kd.N_drew));exact (Kd.N_mono (Kd.N_far (p:=⟨Zb,2,none⟩) (Kd.N_far (p:=⟨Zb,1,none⟩) (Kd.N_far (p:=⟨Zb,0,none⟩) (Kd.N_mono Zg.out (fun k_ hk=>(⟨hk,hk.2⟩:_∧k_ ≠ Zb))) (fun _ hk=>hk.2) (.int .i64 t289)) (fun _ hk=>hk.2) (.int .i64 t290)) (fun _ hk=>hk.2) (.slice Zv t291.length Zw)) (fun _ h_=>h_.1))) (fun k_ hk_=>(⟨hk_,hk_.1.2.2⟩:_∧k_ ≠ g))) hk (fun _ h=>h.2)) (fun _ h=>h.1));replace Zk:=aQ (KeepBut.blk hk (g':=Zb) (o:=.cells #[.int .i64 t289,.int .i64 t290,.slice Zv t291.length Zw] 29 (0,0)) bP Zl.out (by simp));replace HK:=aQ (KeepBut.trans (by repeat (first | (with_reducible first | exact HK.out | apply KeepBut.set_ | apply keep_drewN | apply keep_drew | apply keep_alloc | refine keep_far ?_ Ze.out _ | refine keep_far ?_ Zo.out _) | exact HK.out)) hk (.inl rfl));replace HB:=aQ (hb);replace HI0:=aQ (hi);(try clear hb);(try clear hk);(try clear hi);obtain ⟨ZY,ZZ,Ya,Yb,Yc,Yd⟩:=cz3 Zk.out;have YM:=Zh.out;have YN:=Zf.out;obtain ⟨Ye,Yf,Yg,Yh,Yi,Yj⟩:=cz3 Zc.out))
  refine bodyPost_ret (results_cell_row rfl _ _ Za 29 #[.int .i64 t289,.int .i64 t290,.slice Zv t291.length Zw] (0,0) _ rfl bP Try.underlying29 rfl (by kernel_rfl)) rfl ?_
  exact ⟨_,rfl,by (with_reducible repeat (first | apply Kd.N_alloc | apply Kd.N_drewN | apply Kd.N_drew));exact Kd.N_mono (nFN (g:=Za) Zg.out (fun k_ hk=>hk.1.2.1)) (fun _ hk=>hk.1.1),by repeat (first | (with_reducible first | exact HI0.out | apply IsS67.alloc | apply IsS67.drewN | apply IsS67.drew | apply IsS67.set_1 | refine IsS67.far ?_ Zf.out _ | refine IsS67.far ?_ Zm.out _) | exact HI0.out),by repeat (first | (with_reducible first | exact HB.out | apply below_alloc | apply pw_below_drewN | apply below_drew1 | refine below_set ?_ (IsS67.ge HI0.out) | refine below_set ?_ Zp.out | refine below_set ?_ Zq.out) | exact HB.out),by repeat (first | (with_reducible first | exact HK.out | apply KeepBut.set_ | apply keep_drewN | apply keep_drew | apply keep_alloc | refine keep_far ?_ Ze.out _ | refine keep_far ?_ Zo.out _) | exact HK.out)⟩
 rw [if_pos c20] at H
 have c20b0:(t296 == 1) = true:=beq_iff_eq.mpr c20
 have c20b1:(t296 != 1) = false:=bne_eq_false_iff_eq.mpr c20
 clear c20
 simp only [Option.some.injEq,Prod.mk.injEq] at H
 obtain ⟨rfl,rfl,rfl,rfl⟩:=H
 go_enter Try.func46,Try.ntmps46
 go_wp2_with (first | ((with_reducible refine gate_dst (N:=2) rfl ?_);refine box_event ?hg (N:=2) ?hd (cs:=#[.int .i64 0,.int .i64 0,.slice none 0 0]) (t:=29) ?hr ?_;(case hd=>rfl);(case hg=>rfl);(case hr=>first | (go_simp;done) | (go_simp;rfl));intro Za hg w21 hbox hb;replace HB:=aQ (below_step (by repeat (first | (with_reducible first | exact HB.out | apply below_alloc | apply pw_below_drewN | apply below_drew1 | refine below_set ?_ (IsS67.ge HI0.out)) | exact HB.out)) hb);have Zc:=aQ (hbox);have Ze:=aQ ((by rw [hg];exact (keep_size (w:=w) (g:=g) (row:=none) (by repeat (first | (with_reducible first | exact HK.out | apply KeepBut.set_ | apply keep_drewN | apply keep_drew | apply keep_alloc) | exact HK.out))):w.heap.size ≤ Za));have Zp:=aQ ((Nat.le_trans HW0.out (by rw [hg];exact (keep_size (w:=w) (g:=g) (row:=none) (by repeat (first | (with_reducible first | exact HK.out | apply KeepBut.set_ | apply keep_drewN | apply keep_drew | apply keep_alloc) | exact HK.out))):w.heap.size ≤ Za):w0.heap.size ≤ Za));replace HK:=aQ (KeepBut.trans (by repeat (first | (with_reducible first | exact HK.out | apply KeepBut.set_ | apply keep_drewN | apply keep_drew | apply keep_alloc) | exact HK.out)) (KeepBut.of_below hb g none) (.inl rfl));have Zf:=aQ ((by rw [hg];exact Nat.ne_of_lt (IsS67.lt (show IsS67 w0 _ g s0_0 s0_1 from by repeat (first | (with_reducible first | exact HI0.out | apply IsS67.alloc | apply IsS67.drewN | apply IsS67.drew | apply IsS67.set_1) | exact HI0.out))):g ≠ Za));have Zh:=aQ ((by rw [hg];exact Nat.ne_of_gt (IsS67.lt (show IsS67 w0 _ g s0_0 s0_1 from by repeat (first | (with_reducible first | exact HI0.out | apply IsS67.alloc | apply IsS67.drewN | apply IsS67.drew | apply IsS67.set_1) | exact HI0.out))):Za ≠ g));replace HI0:=aQ (IsS67.below (by repeat (first | (with_reducible first | exact HI0.out | apply IsS67.alloc | apply IsS67.drewN | apply IsS67.drew | apply IsS67.set_1) | exact HI0.out)) hb);clear hb hbox hg) | ((with_reducible refine gate_callee (f:=56) rfl ?_);refine goesL_ (some 6) rfl rfl Try.func56 (by kernel_rfl) rfl #[.pointer (some ⟨g,0,none⟩),.int .i64 4] rfl mP ?_;(with_reducible refine (spec_l6Rd_pick.calls k g s0_0 s0_1 4 t287 t288 w0 _ ?Zi ?Zj A2.out).mono ?_);(case Zi=>exact bI);(case Zj=>exact bB);rintro e w22 ⟨rfl,hi,hb,hk⟩;refine ⟨_,rfl,?_⟩;replace Zc:=aQ (KeepBut.blk hk (g':=Za) (o:=.cells #[.int .i64 0,.int .i64 0,.slice none 0 0] 29 (0,0)) (by (with_reducible repeat (first | refine blk_drewN ?_ _ | refine blk_drew ?_ | refine blk_alloc ?_ _));exact Zc.out) Zh.out (by simp));replace HK:=aQ (KeepBut.trans (by repeat (first | (with_reducible first | exact HK.out | apply KeepBut.set_ | apply keep_drewN | apply keep_drew | apply keep_alloc | refine keep_far ?_ Ze.out _) | exact HK.out)) hk (.inl rfl));replace HB:=aQ (hb);replace HI0:=aQ (hi);(try clear hb);(try clear hk);(try clear hi)) | ((with_reducible refine gate_callee (f:=61) rfl ?_);refine goesL_ (some 8) rfl rfl Try.func61 (by kernel_rfl) rfl #[.pointer (some ⟨g,0,none⟩),.int .i64 (wrap64 (1 + t287))] rfl mP ?_;(with_reducible refine (spec_l92Clock.calls k g s0_0 t288 (wrap64 (1 + t287)) t289 t290 t291 t294 w0 _ ?Zi ?Zj A3.out).mono ?_);(case Zi=>exact bI);(case Zj=>exact bB);rintro e w23 ⟨v292,rfl,ho0,hi,hb,hk⟩;refine ⟨_,rfl,?_⟩;have Zg:=aQ (Kd.N_lower (Kd.N_mono (ok':=fun k_=>(w.heap.size ≤ k_)∧k_ ≠ Za∧k_ ≠ g) ho0 (fun k_ hk_=>⟨(Nat.le_trans (keep_size (w:=w) (g:=g) (row:=none) (by repeat (first | (with_reducible first | exact HK.out | apply KeepBut.set_ | apply keep_drewN | apply keep_drew | apply keep_alloc | refine keep_far ?_ Ze.out _) | exact HK.out))) hk_),(Kd.freshB (g:=Za) (o:=.cells #[.int .i64 0,.int .i64 0,.slice none 0 0] 29 (0,0)) (by (with_reducible repeat (first | refine blk_drewN ?_ _ | refine blk_drew ?_ | refine blk_alloc ?_ _));exact Zc.out) k_ hk_),(IsS67.fresh (by repeat (first | (with_reducible first | exact HI0.out | apply IsS67.alloc | apply IsS67.drewN | apply IsS67.drew | apply IsS67.set_1 | refine IsS67.far ?_ Zf.out _) | exact HI0.out)) k_ hk_)⟩)) (keep_size (w:=w) (g:=g) (row:=none) (by repeat (first | (with_reducible first | exact HK.out | apply KeepBut.set_ | apply keep_drewN | apply keep_drew | apply keep_alloc | refine keep_far ?_ Ze.out _) | exact HK.out))));replace Zc:=aQ (KeepBut.blk hk (g':=Za) (o:=.cells #[.int .i64 0,.int .i64 0,.slice none 0 0] 29 (0,0)) (by (with_reducible repeat (first | refine blk_drewN ?_ _ | refine blk_drew ?_ | refine blk_alloc ?_ _));exact Zc.out) Zh.out (by simp));replace HK:=aQ (KeepBut.trans (by repeat (first | (with_reducible first | exact HK.out | apply KeepBut.set_ | apply keep_drewN | apply keep_drew | apply keep_alloc | refine keep_far ?_ Ze.out _) | exact HK.out)) hk (.inl rfl));replace HB:=aQ (hb);replace HI0:=aQ (hi);(try clear hb);(try clear hk);(try clear hi);(try clear ho0)) | ((with_reducible refine gate_dst (N:=3) rfl ?_);refine box_event ?hg (N:=3) ?hd (cs:=#[.int .i64 0,.int .i64 0,.slice none 0 0]) (t:=29) ?hr ?_;(case hd=>rfl);(case hg=>rfl);(case hr=>first | (go_simp;done) | (go_simp;rfl));intro Zb hg w24 hbox hb;replace Zg:=aQ (Kd.N_below (Kd.N_elderB (by (with_reducible repeat (first | apply Kd.N_alloc | apply Kd.N_drewN | apply Kd.N_drew));exact Zg.out) Zb (Nat.le_of_eq hg.symm)) hb);replace HB:=aQ (below_step (by repeat (first | (with_reducible first | exact HB.out | apply below_alloc | apply pw_below_drewN | apply below_drew1 | refine below_set ?_ (IsS67.ge HI0.out) | refine below_set ?_ Zp.out) | exact HB.out)) hb);have Zk:=aQ (hbox);have Zo:=aQ ((by rw [hg];exact (keep_size (w:=w) (g:=g) (row:=none) (by repeat (first | (with_reducible first | exact HK.out | apply KeepBut.set_ | apply keep_drewN | apply keep_drew | apply keep_alloc | refine keep_far ?_ Ze.out _) | exact HK.out))):w.heap.size ≤ Zb));have Zq:=aQ ((Nat.le_trans HW0.out (by rw [hg];exact (keep_size (w:=w) (g:=g) (row:=none) (by repeat (first | (with_reducible first | exact HK.out | apply KeepBut.set_ | apply keep_drewN | apply keep_drew | apply keep_alloc | refine keep_far ?_ Ze.out _) | exact HK.out))):w.heap.size ≤ Zb):w0.heap.size ≤ Zb));replace HK:=aQ (KeepBut.trans (by repeat (first | (with_reducible first | exact HK.out | apply KeepBut.set_ | apply keep_drewN | apply keep_drew | apply keep_alloc | refine keep_far ?_ Ze.out _) | exact HK.out)) (KeepBut.of_below hb g none) (.inl rfl));have Zd:=aQ ((by rw [hg];exact Nat.ne_of_lt (blk_lt (g:=Za) (o:=.cells #[.int .i64 0,.int .i64 0,.slice none 0 0] 29 (0,0)) (by (with_reducible repeat (first | refine blk_drewN ?_ _ | refine blk_drew ?_ | refine blk_alloc ?_ _));exact Zc.out)):Za ≠ Zb));have Zn:=aQ Zd.out.symm;replace Zc:=aQ (blk_below (g:=Za) (o:=.cells #[.int .i64 0,.int .i64 0,.slice none 0 0] 29 (0,0)) (by (with_reducible repeat (first | refine blk_drewN ?_ _ | refine blk_drew ?_ | refine blk_alloc ?_ _));exact Zc.out) hb);have Zm:=aQ ((by rw [hg];exact Nat.ne_of_lt (IsS67.lt (show IsS67 w0 _ g s0_0 t294 from by repeat (first | (with_reducible first | exact HI0.out | apply IsS67.alloc | apply IsS67.drewN | apply IsS67.drew | apply IsS67.set_1 | refine IsS67.far ?_ Zf.out _) | exact HI0.out))):g ≠ Zb));have Zl:=aQ ((by rw [hg];exact Nat.ne_of_gt (IsS67.lt (show IsS67 w0 _ g s0_0 t294 from by repeat (first | (with_reducible first | exact HI0.out | apply IsS67.alloc | apply IsS67.drewN | apply IsS67.drew | apply IsS67.set_1 | refine IsS67.far ?_ Zf.out _) | exact HI0.out))):Zb ≠ g));replace HI0:=aQ (IsS67.below (by repeat (first | (with_reducible first | exact HI0.out | apply IsS67.alloc | apply IsS67.drewN | apply IsS67.drew | apply IsS67.set_1 | refine IsS67.far ?_ Zf.out _) | exact HI0.out)) hb);clear hb hbox hg;have YO:=Zn.out;have YP:=Zd.out;have YQ:=Zl.out;have YR:=Zm.out;obtain ⟨Yk,Yl,Ym,Yn,Yo,Yp⟩:=cz3 Zk.out;obtain ⟨Zt,Zu,Zz⟩:=Kd.N_slice Zg.out;subst Zz) | ((with_reducible refine gate_callee (f:=56) rfl ?_);refine goesL_ (some 10) rfl rfl Try.func56 (by kernel_rfl) rfl #[.pointer (some ⟨g,0,none⟩),.int .i64 30] rfl mP ?_;(with_reducible refine (spec_l6Rd_pick.calls k g s0_0 t294 30 t296 t297 w0 _ ?Zi ?Zj A4.out).mono ?_);(case Zi=>exact bI);(case Zj=>exact bB);rintro e w29 ⟨rfl,hi,hb,hk⟩;refine ⟨_,rfl,?_⟩;replace Zc:=aQ (KeepBut.blk hk (g':=Za) (o:=.cells #[.int .i64 0,.int .i64 0,.slice none 0 0] 29 (0,0)) (by (with_reducible repeat (first | refine blk_drewN ?_ _ | refine blk_drew ?_ | refine blk_alloc ?_ _));refine blk_far ?_ Zd.out _;(with_reducible repeat (first | refine blk_drewN ?_ _ | refine blk_drew ?_ | refine blk_alloc ?_ _));refine blk_far ?_ Zd.out _;(with_reducible repeat (first | refine blk_drewN ?_ _ | refine blk_drew ?_ | refine blk_alloc ?_ _));refine blk_far ?_ Zd.out _;(with_reducible repeat (first | refine blk_drewN ?_ _ | refine blk_drew ?_ | refine blk_alloc ?_ _));exact Zc.out) Zh.out (by simp));replace Zg:=aQ (Kd.N_mono (Kd.N_keep (Kd.N_mono (ok:=fun k_=>((((w.heap.size ≤ k_))∧(k_ ≠ Za∧k_ ≠ g))∧k_ ≠ Zb)) (by (with_reducible repeat (first | apply Kd.N_alloc | apply Kd.N_drewN | apply Kd.N_drew));exact (Kd.N_mono (Kd.N_far (p:=⟨Zb,2,none⟩) (Kd.N_far (p:=⟨Zb,1,none⟩) (Kd.N_far (p:=⟨Zb,0,none⟩) (Kd.N_mono Zg.out (fun k_ hk=>(⟨hk,hk.2⟩:_∧k_ ≠ Zb))) (fun _ hk=>hk.2) (.int .i64 t289)) (fun _ hk=>hk.2) (.int .i64 t290)) (fun _ hk=>hk.2) (.slice Zt t291.length Zu)) (fun _ h_=>h_.1))) (fun k_ hk_=>(⟨hk_,hk_.1.2.2⟩:_∧k_ ≠ g))) hk (fun _ h=>h.2)) (fun _ h=>h.1));replace Zk:=aQ (KeepBut.blk hk (g':=Zb) (o:=.cells #[.int .i64 t289,.int .i64 t290,.slice Zt t291.length Zu] 29 (0,0)) bP Zl.out (by simp));replace HK:=aQ (KeepBut.trans (by repeat (first | (with_reducible first | exact HK.out | apply KeepBut.set_ | apply keep_drewN | apply keep_drew | apply keep_alloc | refine keep_far ?_ Ze.out _ | refine keep_far ?_ Zo.out _) | exact HK.out)) hk (.inl rfl));replace HB:=aQ (hb);replace HI0:=aQ (hi);(try clear hb);(try clear hk);(try clear hi);obtain ⟨Yq,Yr,Ys,Yt,Yu,Yv⟩:=cz3 Zk.out;have YS:=Zh.out;have YT:=Zf.out;obtain ⟨Yw,Yx,Yy,Yz,YA,YB⟩:=cz3 Zc.out))
 refine bodyPost_ret (results_cell_row rfl _ _ Za 29 #[.int .i64 t289,.int .i64 (-1),.slice Zt t291.length Zu] (0,0) _ rfl (by (with_reducible repeat (first | refine blk_drewN ?_ _ | refine blk_drew ?_ | refine blk_alloc ?_ _));refine blk_put (cs:=#[.int .i64 t289,.int .i64 (-1),.slice none 0 0]) ?_ 2 _ rfl;(with_reducible repeat (first | refine blk_drewN ?_ _ | refine blk_drew ?_ | refine blk_alloc ?_ _));refine blk_put (cs:=#[.int .i64 t289,.int .i64 0,.slice none 0 0]) ?_ 1 _ rfl;(with_reducible repeat (first | refine blk_drewN ?_ _ | refine blk_drew ?_ | refine blk_alloc ?_ _));refine blk_put (cs:=#[.int .i64 0,.int .i64 0,.slice none 0 0]) ?_ 0 _ rfl;(with_reducible repeat (first | refine blk_drewN ?_ _ | refine blk_drew ?_ | refine blk_alloc ?_ _));refine blk_far ?_ Zd.out _;(with_reducible repeat (first | refine blk_drewN ?_ _ | refine blk_drew ?_ | refine blk_alloc ?_ _));exact Zc.out) Try.underlying29 rfl (by kernel_rfl)) rfl ?_
 exact ⟨_,rfl,by (with_reducible repeat (first | apply Kd.N_alloc | apply Kd.N_drewN | apply Kd.N_drew));exact Kd.N_mono (Kd.N_far (p:=⟨Za,2,none⟩) (Kd.N_far (p:=⟨Za,1,none⟩) (Kd.N_far (p:=⟨Za,0,none⟩) (Kd.N_far (p:=⟨Zb,1,none⟩) (Kd.N_mono (Kd.N_mono Zg.out (fun k_ hk=>(⟨hk,hk.2⟩:_∧k_ ≠ Zb))) (fun k_ hk=>(⟨hk,hk.1.1.2.1⟩:_∧k_ ≠ Za))) (fun _ hk=>hk.1.2) (.int .i64 (-1))) (fun _ hk=>hk.2) (.int .i64 t289)) (fun _ hk=>hk.2) (.int .i64 (-1))) (fun _ hk=>hk.2) (.slice Zt t291.length Zu)) (fun _ hk=>hk.1.1.1.1),by repeat (first | (with_reducible first | exact HI0.out | apply IsS67.alloc | apply IsS67.drewN | apply IsS67.drew | apply IsS67.set_1 | refine IsS67.far ?_ Zf.out _ | refine IsS67.far ?_ Zm.out _) | exact HI0.out),by repeat (first | (with_reducible first | exact HB.out | apply below_alloc | apply pw_below_drewN | apply below_drew1 | refine below_set ?_ (IsS67.ge HI0.out) | refine below_set ?_ Zp.out | refine below_set ?_ Zq.out) | exact HB.out),by repeat (first | (with_reducible first | exact HK.out | apply KeepBut.set_ | apply keep_drewN | apply keep_drew | apply keep_alloc | refine keep_far ?_ Ze.out _ | refine keep_far ?_ Zo.out _) | exact HK.out)⟩
end Go.Proofs.Ytnkgcjdlfenepaa.P
