/- What the Go functions that the laws reach compute, and that their calls come to just that: told by a program of this session (aprint.py). No condition. -/
import Derived.Test.YtnkgcjdlfenepaaP0
import Derived.Test.YtnkgcjdlfenepaaP1
import Derived.Test.YtnkgcjdlfenepaaP2
import Derived.Test.YtnkgcjdlfenepaaCut
namespace Go.Proofs.Ytnkgcjdlfenepaa.P
open Go.RowKit Go.Proofs.YtnkgcjdlfenepaaW.PrintWords Go.Proofs.YtnkgcjdlfenepaaW.PrintLast Go.Proofs.YtnkgcjdlfenepaaW.PrintMore
attribute [local go_sem] max2_int min2_int max_two min_two max_three min_three max_four min_four
set_option linter.unusedVariables false
set_option linter.unusedSimpArgs false
def spec_l17Pass.f:Nat → Int → Int → List (S29) → Option (Int × Int × (List (S29)) × Bool)
 | 0,_,_,_=>none
 | k + 1,a0_0,a0_1,l0_2=>if a0_0 = 0 then (some (0,0,([]:List (S29)),true)) else (if a0_0 = 1 then ((spec_l17Copy.f k a0_0 a0_1 l0_2).bind fun bt521=>(some (bt521.1,bt521.2.1,bt521.2.2,(a0_1 != 0)))) else (if a0_0 = 2 then (if a0_1 = 1 then (if 0 < (l0_2.length:Int) then ((spec_l17Copy.f k ((rd_T29 l0_2 0).f0) ((rd_T29 l0_2 0).f1) ((rd_T29 l0_2 0).f2)).bind fun bt527=>(some (bt527.1,bt527.2.1,bt527.2.2,true))) else (none)) else (if 0 < (l0_2.length:Int) then ((spec_l17Copy.f k ((rd_T29 l0_2 0).f0) ((rd_T29 l0_2 0).f1) ((rd_T29 l0_2 0).f2)).bind fun bt533=>(some (a0_0,wrap64 (a0_1 - 1),(([(⟨bt533.1,bt533.2.1,bt533.2.2⟩:S29)]:List (S29))),true))) else (none))) else (if 0 < (l0_2.length:Int) then ((spec_l17Pass.f k ((rd_T29 l0_2 0).f0) ((rd_T29 l0_2 0).f1) ((rd_T29 l0_2 0).f2)).bind fun bt542=>(if 1 < (l0_2.length:Int) then ((spec_l17Pass.f k ((rd_T29 l0_2 1).f0) ((rd_T29 l0_2 1).f1) ((rd_T29 l0_2 1).f2)).bind fun bt550=>(if bt542.2.2.2 = true then (if bt550.2.2.2 = true then (if a0_0 = 4 then ((spec_l17Meet.f k ((rd_T29 l0_2 0).f0) ((rd_T29 l0_2 0).f1) ((rd_T29 l0_2 0).f2) ((rd_T29 l0_2 1).f0) ((rd_T29 l0_2 1).f1) ((rd_T29 l0_2 1).f2)).bind fun t559=>(if t559 = true then (some (0,0,([]:List (S29)),false)) else ((spec_l17Two.f a0_0 bt542.1 bt542.2.1 bt542.2.2.1 bt550.1 bt550.2.1 bt550.2.2.1).bind fun bt560=>(some (bt560.1,bt560.2.1,bt560.2.2,true))))) else ((spec_l17Two.f a0_0 bt542.1 bt542.2.1 bt542.2.2.1 bt550.1 bt550.2.1 bt550.2.2.1).bind fun bt565=>(some (bt565.1,bt565.2.1,bt565.2.2,true)))) else (some (0,0,([]:List (S29)),false))) else (some (0,0,([]:List (S29)),false)))) else (none))) else (none))))
theorem spec_l17Pass.mono_l:∀ k,(∀ y0 y1 y2,LeO (spec_l17Pass.f k y0 y1 y2) (spec_l17Pass.f (k + 1) y0 y1 y2))
 | 0=>fun _ _ _ r h=>by simp [spec_l17Pass.f] at h
 | k + 1=>by
  have ih0:=spec_l17Pass.mono_l k
  ·intro y0 y1 y2
   unfold spec_l17Pass.f
   repeat' first
   | (with_reducible exact ih0 _ _ _)
   | (with_reducible exact spec_l17Copy.mono _ _ _ _)
   | (with_reducible exact spec_l17Meet.mono _ _ _ _ _ _ _)
   | (with_reducible exact LeO.refl _)
   | (with_reducible exact LeO.none _)
   | (with_reducible refine LeO.ite ?_ ?_)
   | (with_reducible refine LeO.bind ?_ (fun _=>?_))
   | exact ih0 _ _ _
   | exact spec_l17Copy.mono _ _ _ _
   | exact spec_l17Meet.mono _ _ _ _ _ _ _
   | exact LeO.none _
   | refine LeO.ite ?_ ?_
   | refine LeO.bind ?_ (fun _=>?_)
theorem spec_l17Pass.mono:∀ a0 a1 a2 k,LeO (spec_l17Pass.f k a0 a1 a2) (spec_l17Pass.f (k + 1) a0 a1 a2):=by
 intro a0 a1 a2 k
 have ih0:=spec_l17Pass.mono_l k
 exact ih0 a0 a1 a2
def spec_l17Pass.T9:Bool × List (List Nat × List Nat):=(true,[([],[]),([0],[0]),([],[]),([2],[2]),([3],[3]),([],[]),([5],[5]),([6],[6]),([7],[7]),([8],[8]),([9],[9]),([1,4,10],[1,4,10]),([11,9,0,1,2,3,4,5,6,7,8,9,10,11],[11]),([12,0,1,2,3,4,5,6,7,8,9,10,11,12],[])])
def spec_l17Pass.B9:List Nat:=[0,1,0,4,12,0,32,96,224,480,992,2047,4095,8191]
theorem spec_l17Pass.tab9:rtab .any (opsOf Try.f50 9) = spec_l17Pass.T9:=by kernel_rfl
theorem spec_l17Pass.bits9:waitsOk spec_l17Pass.T9.2 spec_l17Pass.B9 = true:=by kernel_rfl
def spec_l17Pass.T12:Bool × List (List Nat × List Nat):=(true,[([],[]),([0],[0]),([1],[1]),([2],[2]),([3,2],[2,3]),([2,4],[2,4]),([5,2],[5]),([6],[6]),([7,6],[6,7]),([8,6],[6,8]),([9,6,6],[6,9]),([10],[10]),([11,10],[10,11]),([12,10],[10,12]),([13,10],[10,13]),([10],[10]),([15,10],[10,15]),([16,10],[10,16]),([17,10],[10,17]),([14,18,10,10],[10,14,18]),([10,19,6],[6,10,19]),([6,20],[6,20])])
def spec_l17Pass.B12:List Nat:=[0,1,3,7,15,31,63,127,255,511,1023,2047,4095,8191,16383,2047,34815,100351,231423,524287,1048575,2097151]
theorem spec_l17Pass.tab12:rtab .any (opsOf Try.f50 12) = spec_l17Pass.T12:=by kernel_rfl
theorem spec_l17Pass.bits12:waitsOk spec_l17Pass.T12.2 spec_l17Pass.B12 = true:=by kernel_rfl
set_option maxHeartbeats 8000000 in
set_option maxRecDepth 100000 in
theorem spec_l17Pass.calls (k:Nat):∀ (a0_0:Int) (a0_1:Int) (A0_2:Option Addr) (c0_2:Nat) (l0_2:List (S29)) (r1:Int) (r2:Int) (r3:List (S29)) (r4:Bool) (w:World) (hr0_2:Kd.C k29 w A0_2 l0_2.length l0_2) (hc0_2:l0_2.length ≤ c0_2) (h:spec_l17Pass.f k a0_0 a0_1 l0_2 = some (r1,r2,r3,r4)),
  Calls Try.prog 50 #[.agg #[.int .i64 a0_0,.int .i64 a0_1,.slice A0_2 l0_2.length c0_2]] w fun e w'=>∃ v2_:Value,e = .returned (.tuple #[.agg #[.int .i64 r1,.int .i64 r2,v2_],.bool r4])∧Kd.N k29 29 w' w.heap.size (fun k_=>(w.heap.size ≤ k_)) v2_ r3∧Below w.heap.size w w':=by
 induction k using Nat.strongRecOn with
 | _ k ih =>
 intro a0_0 a0_1 A0_2 c0_2 l0_2 r1 r2 r3 r4 w hr0_2 hc0_2 h
 cases k with
 | zero=>exact absurd h (by simp [spec_l17Pass.f])
 | succ k =>
 simp only [spec_l17Pass.f] at h
 have hu29:=Try.underlying29
 have ZV:=aQ hr0_2
 have Xu:=aQ hc0_2
 clear hr0_2 hc0_2
 have HB:=aQ (Below.refl w.heap.size w)
 have H:=h
 clear h
 by_cases c2:a0_0 = 0
 ·rw [if_pos c2] at H
  have c2b0:(a0_0 == 0) = true:=beq_iff_eq.mpr c2
  have c2b1:(a0_0 != 0) = false:=bne_eq_false_iff_eq.mpr c2
  clear c2
  simp only [Option.some.injEq,Prod.mk.injEq] at H
  obtain ⟨rfl,rfl,rfl,rfl⟩:=H
  go_enter Try.func50,Try.ntmps50
  go_wp2_with (first | ((with_reducible refine gate_dst (N:=1) rfl ?_);refine box1 (N:=1) (cs:=#[.int .i64 a0_0,.int .i64 a0_1,.slice A0_2 l0_2.length c0_2]) (t:=29) ?_;intro Zg hg w3 hbox hb;have Za:=aQ (hbox);have ZW:=aQ (gB:w.heap.size ≤ Zg);have YF:=ZW;replace HB:=aQ (below_step bB hb);clear hb hbox hg) | ((with_reducible refine gate_dst (N:=2) rfl ?_);refine box1 (N:=2) (cs:=#[.int .i64 0,.int .i64 0,.slice none 0 0]) (t:=29) ?_;intro Zd hg w4 hbox hb;have Ze:=aQ (hbox);have Zo:=aQ (gB:w.heap.size ≤ Zd);have YG:=Zo;replace HB:=aQ (below_step bB hb);have Zh:=aQ ((by rw [hg];exact Nat.ne_of_lt (blk_lt (nB Za.out)):Zg ≠ Zd));have Zq:=aQ Zh.out.symm;replace Za:=aQ (blk_below (nB Za.out) hb);clear hb hbox hg;have Rv:=Zh.out;have Rw:=Zq.out;obtain ⟨TU,TV,TW,TX,TY,TZ⟩:=cz3 Za.out;obtain ⟨Sa,Sb,Sc,Sd,Se,Sf⟩:=cz3 Ze.out))
  refine bodyPost_ret (results_ct rfl _ _ Zd 29 #[.int .i64 0,.int .i64 0,.slice none 0 0] (0,0) _ rfl bP Try.underlying29 rfl (by kernel_rfl)) rfl ?_
  exact ⟨_,rfl,by first | exact Kd.R_nil _ _ _ _ _ | exact Kd.N_nil _ _ _ _ _ | exact Kd.V_nil _ _ _ _ _ | exact Kd.Q_nil _ _ _ _ _ | exact Kd.S_nil _ _ _ _ _,bB⟩
 rw [if_neg c2] at H
 have c2b0:(a0_0 == 0) = false:=beq_eq_false_iff_ne.mpr c2
 have c2b1:(a0_0 != 0) = true:=bne_iff_ne.mpr c2
 by_cases c8:a0_0 = 1
 ·rw [if_pos c8] at H
  have c8b0:(a0_0 == 1) = true:=beq_iff_eq.mpr c8
  have c8b1:(a0_0 != 1) = false:=bne_eq_false_iff_eq.mpr c8
  clear c8
  obtain ⟨⟨t521,t522,t523⟩,A9,H⟩:=bQ H
  dsimp only at H
  simp only [Option.some.injEq,Prod.mk.injEq] at H
  obtain ⟨rfl,rfl,rfl,rfl⟩:=H
  go_enter Try.func50,Try.ntmps50
  try go_wp2_with (first | ((with_reducible refine gate_dst (N:=1) rfl ?_);refine box1 (N:=1) (cs:=#[.int .i64 a0_0,.int .i64 a0_1,.slice A0_2 l0_2.length c0_2]) (t:=29) ?_;intro Zg hg w10 hbox hb;have Za:=aQ (hbox);have ZW:=aQ (gB:w.heap.size ≤ Zg);have YF:=ZW;replace HB:=aQ (below_step bB hb);clear hb hbox hg) | ((with_reducible refine gate_dst (N:=2) rfl ?_);refine box1 (N:=2) (cs:=#[.int .i64 0,.int .i64 0,.slice none 0 0]) (t:=29) ?_;intro Zd hg w11 hbox hb;have Ze:=aQ (hbox);have Zo:=aQ (gB:w.heap.size ≤ Zd);have YG:=Zo;replace HB:=aQ (below_step bB hb);have Zh:=aQ ((by rw [hg];exact Nat.ne_of_lt (blk_lt (nB Za.out)):Zg ≠ Zd));have Zq:=aQ Zh.out.symm;replace Za:=aQ (blk_below (nB Za.out) hb);clear hb hbox hg;have SQ:=Zh.out;have SR:=Zq.out;obtain ⟨Uo,Up,Uq,Ur,Us,Ut⟩:=cz3 Za.out))
  replace Za:=aQ (blk_drew Za.out)
  replace Ze:=aQ (blk_drew Ze.out)
  replace HB:=aQ (below_drew1 HB.out)
  refine start_ (n:=7) (S:=fun w'=>w'.cell? ⟨Zg,0,none⟩ = some (.int .i64 a0_0)∧w'.cell? ⟨Zg,1,none⟩ = some (.int .i64 a0_1)∧w'.cell? ⟨Zg,2,none⟩ = some (.slice A0_2 l0_2.length c0_2)) (ds:=[]) (bn 7 0) (by kernel_rfl) rfl rfl ⟨(blk_cell Za.out 0).trans rfl,(blk_cell Za.out 1).trans rfl,(blk_cell Za.out 2).trans rfl⟩ (fun hHeld=>?_)
  generalize w11.drew = w14 at Za Ze HB hHeld ⊢
  refine pur (i:=2) (N:=some 17) (bn 7 4) ?_
  refine tak (i:=0) (N:=some 15) (bn 7 5) ?_
  refine tak (i:=3) (N:=some 18) (bn 7 13) ?_
  refine pur (i:=4) (N:=some 19) (bn 7 29) ?_
  refine one_ (i:=1) (N:=some 16) (bn 7 31) rfl rfl (by kernel_rfl) (by decide) (fun K hK=>?_)
  refine goes1 Try.func52 #[.agg #[.int .i64 a0_0,.int .i64 a0_1,.slice A0_2 l0_2.length c0_2]] ?_
  with_reducible refine (spec_l17Copy.calls k a0_0 a0_1 _ _ l0_2 t521 t522 t523 _ ?Zu ?Zv A9.out).mono ?_
  (case Zu=>repeat (first | exact (Kd.C_below ZV.out HB.out) | (with_reducible refine Kd.C_alloc ?_ _) | (with_reducible refine Kd.C_drewN ?_ _) | (with_reducible refine Kd.C_drew ?_)))
  (case Zv=>exact Xu.out)
  rintro e w15 ⟨v524,rfl,ho0,hb⟩
  refine ⟨_,rfl,?_⟩
  have Xg:=aQ (Kd.N_lower (Kd.N_mono (ok':=fun k_=>(w.heap.size ≤ k_)∧k_ ≠ Zg∧k_ ≠ Zd) ho0 (fun k_ hk_=>⟨(Nat.le_trans (below_size bB) hk_),(Kd.freshB (nB Za.out) k_ hk_),(Kd.freshB (nB Ze.out) k_ hk_)⟩)) (below_size bB))
  replace Za:=aQ (blk_below (nB Za.out) hb)
  replace Ze:=aQ (blk_below (nB Ze.out) hb)
  replace HB:=aQ (below_step bB hb)
  (try clear hb)
  (try clear ho0)
  obtain ⟨XH,XI,Xp⟩:=Kd.N_slice Xg.out
  (first | subst Xp | (injection Xp with f1_ f2_ f3_;have f4_:=f1_.symm;have f5_:=f3_.symm;clear f1_ f2_ f3_;subst f4_;subst f5_))
  refine hK.out _ _ ⟨(blk_cell Za.out 0).trans rfl,(blk_cell Za.out 1).trans rfl,(blk_cell Za.out 2).trans rfl⟩ (fun hHeld=>?_)
  clear hK K
  refine nrm (N:=some 16) ?_
  refine one_ (i:=5) (N:=none) (bn 7 63) rfl rfl (by kernel_rfl) (by decide) (fun K hK=>?_)
  have hs16:w15.cell? ⟨Zd,0,none⟩ = some (.int .i64 0):=(blk_cell Ze.out 0).trans rfl
  have hfs16:=blk_frozen Ze.out 0
  have hns16_0:=Zh.out
  have hms16_0:=Zq.out
  have hs17:w15.cell? ⟨Zd,1,none⟩ = some (.int .i64 0):=(blk_cell Ze.out 1).trans rfl
  have hfs17:=blk_frozen Ze.out 1
  have hns17_0:=Zh.out
  have hms17_0:=Zq.out
  have hs19:w15.cell? ⟨Zd,2,none⟩ = some (.slice none 0 0):=(blk_cell Ze.out 2).trans rfl
  have hfs19:=blk_frozen Ze.out 2
  have hns19_0:=Zh.out
  have hms19_0:=Zq.out
  refine skip_ (w1:=?_) (by rfl) rfl ?_ ?_
  rotate_left
  ·go_simp
   rfl
  refine hK.out _ _ ⟨((cell_far (p:=⟨Zd,_,none⟩) Zh.out _).trans (((cell_far (p:=⟨Zd,_,none⟩) Zh.out _).trans (((cell_far (p:=⟨Zd,_,none⟩) Zh.out _).trans (hHeld.1)))))),((cell_far (p:=⟨Zd,_,none⟩) Zh.out _).trans (((cell_far (p:=⟨Zd,_,none⟩) Zh.out _).trans (((cell_far (p:=⟨Zd,_,none⟩) Zh.out _).trans (hHeld.2.1)))))),((cell_far (p:=⟨Zd,_,none⟩) Zh.out _).trans (((cell_far (p:=⟨Zd,_,none⟩) Zh.out _).trans (((cell_far (p:=⟨Zd,_,none⟩) Zh.out _).trans (hHeld.2.2))))))⟩ (fun hHeld=>?_)
  clear hK K
  refine pur (i:=6) (N:=some 3) (bn 7 127) ?_
  refine done_ (by kernel_rfl) ?_
  try go_wp2
  refine bodyPost_ret (results_ct rfl _ _ Zd 29 #[.int .i64 t521,.int .i64 t522,.slice XH t523.length XI] (0,0) _ rfl bP Try.underlying29 rfl (by kernel_rfl)) rfl ?_
  exact ⟨_,rfl,by (with_reducible repeat (first | apply Kd.N_alloc | apply Kd.N_drewN | apply Kd.N_drew));exact Kd.N_mono (nFN (g:=Zd) Xg.out (fun k_ hk=>hk.2.2)) (fun _ hk=>hk.1),bB⟩
 rw [if_neg c8] at H
 have c8b0:(a0_0 == 1) = false:=beq_eq_false_iff_ne.mpr c8
 have c8b1:(a0_0 != 1) = true:=bne_iff_ne.mpr c8
 by_cases c20:a0_0 = 2
 ·rw [if_pos c20] at H
  have c20b0:(a0_0 == 2) = true:=beq_iff_eq.mpr c20
  have c20b1:(a0_0 != 2) = false:=bne_eq_false_iff_eq.mpr c20
  clear c20
  by_cases c21:a0_1 = 1
  ·rw [if_pos c21] at H
   have c21b0:(a0_1 == 1) = true:=beq_iff_eq.mpr c21
   have c21b1:(a0_1 != 1) = false:=bne_eq_false_iff_eq.mpr c21
   clear c21
   by_cases c22:0 < (l0_2.length:Int);rotate_left
   ·rw [if_neg c22] at H
    exact absurd H (by simp)
   rw [if_pos c22] at H
   have c22b0:decide (0 < (l0_2.length:Int)) = true:=decide_eq_true c22
   have c22b1:decide (0 < l0_2.length) = true:=decide_eq_true (by omega)
   clear c22
   obtain ⟨⟨t527,t528,t529⟩,A23,H⟩:=bQ H
   dsimp only at H
   simp only [Option.some.injEq,Prod.mk.injEq] at H
   obtain ⟨rfl,rfl,rfl,rfl⟩:=H
   go_enter Try.func50,Try.ntmps50
   go_wp2_with (first | ((with_reducible refine gate_dst (N:=1) rfl ?_);refine box1 (N:=1) (cs:=#[.int .i64 a0_0,.int .i64 a0_1,.slice A0_2 l0_2.length c0_2]) (t:=29) ?_;intro Zg hg w24 hbox hb;have Za:=aQ (hbox);have ZW:=aQ (gB:w.heap.size ≤ Zg);have YF:=ZW;replace HB:=aQ (below_step bB hb);clear hb hbox hg) | ((with_reducible refine gate_dst (N:=2) rfl ?_);refine box1 (N:=2) (cs:=#[.int .i64 0,.int .i64 0,.slice none 0 0]) (t:=29) ?_;intro Zd hg w25 hbox hb;have Ze:=aQ (hbox);have Zo:=aQ (gB:w.heap.size ≤ Zd);have YG:=Zo;replace HB:=aQ (below_step bB hb);have Zh:=aQ ((by rw [hg];exact Nat.ne_of_lt (blk_lt (nB Za.out)):Zg ≠ Zd));have Zq:=aQ Zh.out.symm;replace Za:=aQ (blk_below (nB Za.out) hb);clear hb hbox hg;have SS:=Zh.out;have ST:=Zq.out;obtain ⟨Uu,Uv,Uw,Ux,Uy,Uz⟩:=cz3 Za.out;have p526:0 ≤ (0:Int):=(by omega);have q526:0 < (l0_2.length:Int):=of_decide_eq_true (by first | (with_reducible assumption) | assumption);obtain ⟨SU,A526_2,c526_2,e526,YH,YI,YJ,YW,YX⟩:=at_T29 ZV.out 0 p526 q526;cases e526;have qi526:(0 < l0_2.length) = True:=eq_true (by omega);(try rw [show ((0:Int)).toNat = 0 from rfl,show 0 * 3 = 0 from rfl] at YH YI YJ);(try rw [Addr.add_zero'] at YH);(try rw [Addr.add_zero'] at YI);(try rw [Addr.add_zero'] at YJ);replace YH:=(HB.out.cell (World.block_lt_of_cell? w _ YH)).trans YH;replace YI:=(HB.out.cell (World.block_lt_of_cell? w _ YI)).trans YI;replace YJ:=(HB.out.cell (World.block_lt_of_cell? w _ YJ)).trans YJ;have Xm:=aQ YX;have Xn:=aQ YW;clear YX YW;replace p526:=eq_true p526;replace q526:=eq_true q526) | ((with_reducible refine gate_callee (f:=52) rfl ?_);refine goesL_ (some 29) rfl rfl Try.func52 (by kernel_rfl) rfl #[.agg #[.int .i64 ((rd_T29 l0_2 0).f0),.int .i64 ((rd_T29 l0_2 0).f1),.slice A526_2 ((rd_T29 l0_2 0).f2).length c526_2]] rfl mP ?_;(with_reducible refine (spec_l17Copy.calls k ((rd_T29 l0_2 0).f0) ((rd_T29 l0_2 0).f1) _ _ ((rd_T29 l0_2 0).f2) t527 t528 t529 _ ?Zu ?Zv A23.out).mono ?_);(case Zu=>repeat (first | exact (Kd.C_below Xm.out HB.out) | (with_reducible refine Kd.C_alloc ?_ _) | (with_reducible refine Kd.C_drewN ?_ _) | (with_reducible refine Kd.C_drew ?_)));(case Zv=>exact Xn.out);rintro e w28 ⟨v530,rfl,ho0,hb⟩;refine ⟨_,rfl,?_⟩;have Xh:=aQ (Kd.N_lower (Kd.N_mono (ok':=fun k_=>(w.heap.size ≤ k_)∧k_ ≠ Zg∧k_ ≠ Zd) ho0 (fun k_ hk_=>⟨(Nat.le_trans (below_size bB) hk_),(Kd.freshB (nB Za.out) k_ hk_),(Kd.freshB (nB Ze.out) k_ hk_)⟩)) (below_size bB));replace Za:=aQ (blk_below (nB Za.out) hb);replace Ze:=aQ (blk_below (nB Ze.out) hb);replace HB:=aQ (below_step bB hb);(try clear hb);(try clear ho0);obtain ⟨UA,UB,UC,UD,UE,UF⟩:=cz3 Ze.out;obtain ⟨XJ,XK,XL⟩:=Kd.N_slice Xh.out;subst XL))
   refine bodyPost_ret (results_ct rfl _ _ Zd 29 #[.int .i64 t527,.int .i64 t528,.slice XJ t529.length XK] (0,0) _ rfl bP Try.underlying29 rfl (by kernel_rfl)) rfl ?_
   exact ⟨_,rfl,by (with_reducible repeat (first | apply Kd.N_alloc | apply Kd.N_drewN | apply Kd.N_drew));exact Kd.N_mono (nFN (g:=Zd) Xh.out (fun k_ hk=>hk.2.2)) (fun _ hk=>hk.1),bB⟩
  rw [if_neg c21] at H
  have c21b0:(a0_1 == 1) = false:=beq_eq_false_iff_ne.mpr c21
  have c21b1:(a0_1 != 1) = true:=bne_iff_ne.mpr c21
  by_cases c31:0 < (l0_2.length:Int);rotate_left
  ·rw [if_neg c31] at H
   exact absurd H (by simp)
  rw [if_pos c31] at H
  have c31b0:decide (0 < (l0_2.length:Int)) = true:=decide_eq_true c31
  have c31b1:decide (0 < l0_2.length) = true:=decide_eq_true (by omega)
  clear c31
  obtain ⟨⟨t533,t534,t535⟩,A32,H⟩:=bQ H
  dsimp only at H
  obtain ⟨y538,Xb⟩:∃ y_:List (S29),y_ = (([(⟨t533,t534,t535⟩:S29)]:List (S29))):=⟨_,rfl⟩
  replace H:(some (a0_0,wrap64 (a0_1 - 1),y538,true)) = some (r1,r2,r3,r4):=by rw [Xb];exact H
  have Xi:=aQ Xb
  clear Xb
  simp only [Option.some.injEq,Prod.mk.injEq] at H
  obtain ⟨rfl,rfl,rfl,rfl⟩:=H
  go_enter Try.func50,Try.ntmps50
  try go_wp2_with (first | ((with_reducible refine gate_dst (N:=1) rfl ?_);refine box1 (N:=1) (cs:=#[.int .i64 a0_0,.int .i64 a0_1,.slice A0_2 l0_2.length c0_2]) (t:=29) ?_;intro Zg hg w33 hbox hb;have Za:=aQ (hbox);have ZW:=aQ (gB:w.heap.size ≤ Zg);have YF:=ZW;replace HB:=aQ (below_step bB hb);clear hb hbox hg) | ((with_reducible refine gate_dst (N:=2) rfl ?_);refine box1 (N:=2) (cs:=#[.int .i64 0,.int .i64 0,.slice none 0 0]) (t:=29) ?_;intro Zd hg w34 hbox hb;have Ze:=aQ (hbox);have Zo:=aQ (gB:w.heap.size ≤ Zd);have YG:=Zo;replace HB:=aQ (below_step bB hb);have Zh:=aQ ((by rw [hg];exact Nat.ne_of_lt (blk_lt (nB Za.out)):Zg ≠ Zd));have Zq:=aQ Zh.out.symm;replace Za:=aQ (blk_below (nB Za.out) hb);clear hb hbox hg;have SV:=Zh.out;have SW:=Zq.out;obtain ⟨UG,UH,UI,UJ,UK,UL⟩:=cz3 Za.out))
  replace Za:=aQ (blk_drew Za.out)
  replace Ze:=aQ (blk_drew Ze.out)
  replace HB:=aQ (below_drew1 HB.out)
  have p532:0 ≤ (0:Int):=(by omega)
  have q532:0 < (l0_2.length:Int):=of_decide_eq_true (by first | (with_reducible assumption) | assumption)
  obtain ⟨YQ,A532_2,c532_2,e532,Ys,Yt,Yu,YY,YZ⟩:=at_T29 ZV.out 0 p532 q532
  have Zw:=Yu
  (try rw [show ((0:Int)).toNat = 0 from rfl] at Zw)
  (try rw [show 0 * 3 = 0 from rfl] at Zw)
  (try rw [Addr.add_zero'] at Zw)
  have Zx:=Yt
  (try rw [show ((0:Int)).toNat = 0 from rfl] at Zx)
  (try rw [show 0 * 3 = 0 from rfl] at Zx)
  (try rw [Addr.add_zero'] at Zx)
  have Zy:=Ys
  (try rw [show ((0:Int)).toNat = 0 from rfl] at Zy)
  (try rw [show 0 * 3 = 0 from rfl] at Zy)
  (try rw [Addr.add_zero'] at Zy)
  cases e532
  have qi532:(0 < l0_2.length) = True:=eq_true (by omega)
  (try rw [show ((0:Int)).toNat = 0 from rfl,show 0 * 3 = 0 from rfl] at Ys Yt Yu)
  (try rw [Addr.add_zero'] at Ys)
  (try rw [Addr.add_zero'] at Yt)
  (try rw [Addr.add_zero'] at Yu)
  replace Ys:=(HB.out.cell (World.block_lt_of_cell? w _ Ys)).trans Ys
  replace Yt:=(HB.out.cell (World.block_lt_of_cell? w _ Yt)).trans Yt
  replace Yu:=(HB.out.cell (World.block_lt_of_cell? w _ Yu)).trans Yu
  have Xa:=aQ YZ
  have Xo:=aQ YY
  clear YZ YY
  replace p532:=eq_true p532
  replace q532:=eq_true q532
  refine start_ (n:=14) (S:=fun w'=>w'.cell? ⟨Zg,0,none⟩ = some (.int .i64 a0_0)∧w'.cell? ⟨Zg,1,none⟩ = some (.int .i64 a0_1)∧w'.cell? ⟨Zg,2,none⟩ = some (.slice (some YQ) l0_2.length c0_2)∧w'.cell? YQ = some (.int .i64 ((rd_T29 l0_2 0).f0))∧w'.cell? ⟨YQ.block,YQ.off + 1,none⟩ = some (.int .i64 ((rd_T29 l0_2 0).f1))∧w'.cell? ⟨YQ.block,YQ.off + 2,none⟩ = some (.slice A532_2 ((rd_T29 l0_2 0).f2).length c532_2)) (ds:=[]) (bn 14 0) (by kernel_rfl) rfl rfl ⟨(blk_cell Za.out 0).trans rfl,(blk_cell Za.out 1).trans rfl,(blk_cell Za.out 2).trans rfl,((HB.out.cell (World.block_lt_of_cell? w _ Zy)).trans Zy),((HB.out.cell (World.block_lt_of_cell? w _ Zx)).trans Zx),((HB.out.cell (World.block_lt_of_cell? w _ Zw)).trans Zw)⟩ (fun hHeld=>?_);refine with_tabW spec_l17Pass.tab9 spec_l17Pass.bits9 (fun HT_ HW_=>?_)
  generalize w34.drew = w37 at Za Ze HB Xa Ys Yt Yu hHeld ⊢
  refine pur (i:=0) (N:=some 30) (bn 14 1) ?_
  refine pur (i:=2) (N:=some 32) (bn 14 5) ?_
  refine pur (i:=5) (N:=some 35) (bn 14 37) ?_
  refine tak (i:=1) (N:=some 31) (bn 14 39) ?_
  refine tak (i:=3) (N:=some 33) (bn 14 47) ?_
  refine pur (i:=4) (N:=some 34) (bn 14 63) ?_
  refine tak (i:=6) (N:=some 36) (bn 14 127) ?_
  refine pur (i:=7) (N:=some 37) (bn 14 255) ?_
  refine tak (i:=8) (N:=some 38) (bn 14 511) ?_
  refine one_ (i:=9) (N:=some 39) (bn 14 1023) rfl rfl (one_of HT_.out (by kernel_rfl)) (by decide) (fun K hK=>?_)
  refine goes1 Try.func52 #[.agg #[.int .i64 ((rd_T29 l0_2 0).f0),.int .i64 ((rd_T29 l0_2 0).f1),.slice A532_2 ((rd_T29 l0_2 0).f2).length c532_2]] ?_
  with_reducible refine (spec_l17Copy.calls k ((rd_T29 l0_2 0).f0) ((rd_T29 l0_2 0).f1) _ _ ((rd_T29 l0_2 0).f2) t533 t534 t535 _ ?Zu ?Zv A32.out).mono ?_
  (case Zu=>repeat (first | exact (Kd.C_below Xa.out HB.out) | (with_reducible refine Kd.C_alloc ?_ _) | (with_reducible refine Kd.C_drewN ?_ _) | (with_reducible refine Kd.C_drew ?_)))
  (case Zv=>exact Xo.out)
  rintro e w38 ⟨v536,rfl,ho0,hb⟩
  refine ⟨_,rfl,?_⟩
  have YT:=aQ (Kd.N_lower (Kd.N_mono (ok':=fun k_=>(w.heap.size ≤ k_)∧k_ ≠ Zg∧k_ ≠ Zd) ho0 (fun k_ hk_=>⟨(Nat.le_trans (below_size bB) hk_),(Kd.freshB (nB Za.out) k_ hk_),(Kd.freshB (nB Ze.out) k_ hk_)⟩)) (below_size bB))
  replace Za:=aQ (blk_below (nB Za.out) hb)
  replace Ze:=aQ (blk_below (nB Ze.out) hb)
  replace HB:=aQ (below_step bB hb)
  (try clear hb)
  (try clear ho0)
  obtain ⟨Xq,Xr,Xs⟩:=Kd.N_slice YT.out
  (first | subst Xs | (injection Xs with f1_ f2_ f3_;have f4_:=f1_.symm;have f5_:=f3_.symm;clear f1_ f2_ f3_;subst f4_;subst f5_))
  refine hK.out _ _ ⟨(blk_cell Za.out 0).trans rfl,(blk_cell Za.out 1).trans rfl,(blk_cell Za.out 2).trans rfl,((HB.out.cell (World.block_lt_of_cell? w _ Zy)).trans Zy),((HB.out.cell (World.block_lt_of_cell? w _ Zx)).trans Zx),((HB.out.cell (World.block_lt_of_cell? w _ Zw)).trans Zw)⟩ (fun hHeld=>?_)
  clear hK K
  refine nrm (N:=some 39) ?_
  refine one_ (i:=10) (N:=some 40) (bn 14 2047) rfl rfl (one_of HT_.out (by kernel_rfl)) (by decide) (fun K hK=>?_)
  refine Kd.N_lit_step k29 _ 29 ?hg (N':=40) ?hd (xs:=([(⟨t533,t534,t535⟩:S29)]:List (S29))) (inner:=[.int .i64 t533,.int .i64 t534,.slice Xq t535.length Xr]) (ok:=(fun k_=>(w.heap.size ≤ k_)∧k_ ≠ Zg∧k_ ≠ Zd)) (okp:=(fun k_=>(w.heap.size ≤ k_)∧k_ ≠ Zg∧k_ ≠ Zd)) ?hr ?hp (fun _ hk=>hk) ((show ∀ k_,w38.heap.size ≤ k_ → (fun k_=>(w.heap.size ≤ k_)∧k_ ≠ Zg∧k_ ≠ Zd) k_ from fun k_ hk=>⟨(Nat.le_trans (below_size bB) hk),Kd.freshB (nB Za.out) k_ hk,Kd.freshB (nB Ze.out) k_ hk⟩) _ (Nat.le_refl _)) (Below.refl _ _) (Nat.le_refl _) (by simp) ?_;(case hd=>rfl);(case hg=>rfl);(case hr=>first | (go_simp;done) | (go_simp;rfl));(case hp=>exact (Reps.c3 (show Kd.FK k29 _ _ (⟨t533,t534,t535⟩:S29) [.int .i64 t533,.int .i64 t534,.slice Xq t535.length Xr] from (k29_mkF _ _ (⟨t533,t534,t535⟩:S29) (Kd.N_reads' (Kd.N_mono (ok':=(fun k_=>(w.heap.size ≤ k_)∧k_ ≠ Zg∧k_ ≠ Zd)) (YT.out) (fun k_ hk=>⟨hk.1,⟨hk.2.1,hk.2.2⟩⟩))).2.1 (Kd.N_F (Kd.N_mono (ok':=(fun k_=>(w.heap.size ≤ k_)∧k_ ≠ Zg∧k_ ≠ Zd)) (YT.out) (fun k_ hk=>⟨hk.1,⟨hk.2.1,hk.2.2⟩⟩))))) (Reps.none _ _)))
  intro v539 w40 ho41 hb hg_ hnew_
  clear hg_ hnew_
  (first | rw [← Xi.out] at ho41 | (simp only [Int.reduceToNat] at ho41;rw [← Xi.out] at ho41))
  have n0_:=aQ (Kd.N_lower ho41 (below_size bB))
  have n1_:=aQ (blk_below (nB Za.out) hb)
  have n2_:=aQ (blk_below (nB Ze.out) hb)
  have n3_:=aQ (below_step bB hb)
  clear Za Ze HB YT
  have Xj:=n0_
  have Za:=n1_
  have Ze:=n2_
  have HB:=n3_
  clear n0_ n1_ n2_ n3_
  clear hb ho41
  obtain ⟨XM,XN,Xt⟩:=Kd.N_slice Xj.out
  (first | subst Xt | (injection Xt with f1_ f2_ f3_;have f4_:=f1_.symm;have f5_:=f3_.symm;clear f1_ f2_ f3_;subst f4_;subst f5_))
  refine hK.out _ _ ⟨(blk_cell Za.out 0).trans rfl,(blk_cell Za.out 1).trans rfl,(blk_cell Za.out 2).trans rfl,((HB.out.cell (World.block_lt_of_cell? w _ Zy)).trans Zy),((HB.out.cell (World.block_lt_of_cell? w _ Zx)).trans Zx),((HB.out.cell (World.block_lt_of_cell? w _ Zw)).trans Zw)⟩ (fun hHeld=>?_)
  clear hK K
  refine nrm (N:=some 40) ?_
  refine pur (i:=11) (N:=some 41) (bn 14 4095) ?_
  refine one_ (i:=12) (N:=none) (bn 14 8191) rfl rfl (one_of HT_.out (by kernel_rfl)) (by decide) (fun K hK=>?_)
  have hs43:w40.cell? ⟨Zd,0,none⟩ = some (.int .i64 0):=(blk_cell Ze.out 0).trans rfl
  have hfs43:=blk_frozen Ze.out 0
  have hns43_0:=Zh.out
  have hms43_0:=Zq.out
  have hs44:w40.cell? ⟨Zd,1,none⟩ = some (.int .i64 0):=(blk_cell Ze.out 1).trans rfl
  have hfs44:=blk_frozen Ze.out 1
  have hns44_0:=Zh.out
  have hms44_0:=Zq.out
  have hs45:w40.cell? ⟨Zd,2,none⟩ = some (.slice none 0 0):=(blk_cell Ze.out 2).trans rfl
  have hfs45:=blk_frozen Ze.out 2
  have hns45_0:=Zh.out
  have hms45_0:=Zq.out
  refine skip_ (w1:=?_) (by rfl) rfl ?_ ?_
  rotate_left
  ·go_simp
   rfl
  refine hK.out _ _ ⟨((cell_far (p:=⟨Zd,_,none⟩) Zh.out _).trans (((cell_far (p:=⟨Zd,_,none⟩) Zh.out _).trans (((cell_far (p:=⟨Zd,_,none⟩) Zh.out _).trans (hHeld.1)))))),((cell_far (p:=⟨Zd,_,none⟩) Zh.out _).trans (((cell_far (p:=⟨Zd,_,none⟩) Zh.out _).trans (((cell_far (p:=⟨Zd,_,none⟩) Zh.out _).trans (hHeld.2.1)))))),((cell_far (p:=⟨Zd,_,none⟩) Zh.out _).trans (((cell_far (p:=⟨Zd,_,none⟩) Zh.out _).trans (((cell_far (p:=⟨Zd,_,none⟩) Zh.out _).trans (hHeld.2.2.1)))))),((cell_far (p:=⟨Zd,_,none⟩) (by first | exact Nat.ne_of_lt (Nat.lt_of_lt_of_le (by have:=World.block_lt_of_cell? _ _ Zy;first | rwa [add_block] at this | exact this) Zo.out) | (rw [add_block];exact Nat.ne_of_lt (Nat.lt_of_lt_of_le (by have:=World.block_lt_of_cell? _ _ Zy;first | rwa [add_block] at this | exact this) Zo.out)) | (show (Addr.add _ _).block ≠ _;rw [add_block];exact Nat.ne_of_lt (Nat.lt_of_lt_of_le (by have:=World.block_lt_of_cell? _ _ Zy;first | rwa [add_block] at this | exact this) Zo.out)) | (dsimp only;exact Nat.ne_of_lt (Nat.lt_of_lt_of_le (by have:=World.block_lt_of_cell? _ _ Zy;first | rwa [add_block] at this | exact this) Zo.out))) _).trans (((cell_far (p:=⟨Zd,_,none⟩) (by first | exact Nat.ne_of_lt (Nat.lt_of_lt_of_le (by have:=World.block_lt_of_cell? _ _ Zy;first | rwa [add_block] at this | exact this) Zo.out) | (rw [add_block];exact Nat.ne_of_lt (Nat.lt_of_lt_of_le (by have:=World.block_lt_of_cell? _ _ Zy;first | rwa [add_block] at this | exact this) Zo.out)) | (show (Addr.add _ _).block ≠ _;rw [add_block];exact Nat.ne_of_lt (Nat.lt_of_lt_of_le (by have:=World.block_lt_of_cell? _ _ Zy;first | rwa [add_block] at this | exact this) Zo.out)) | (dsimp only;exact Nat.ne_of_lt (Nat.lt_of_lt_of_le (by have:=World.block_lt_of_cell? _ _ Zy;first | rwa [add_block] at this | exact this) Zo.out))) _).trans (((cell_far (p:=⟨Zd,_,none⟩) (by first | exact Nat.ne_of_lt (Nat.lt_of_lt_of_le (by have:=World.block_lt_of_cell? _ _ Zy;first | rwa [add_block] at this | exact this) Zo.out) | (rw [add_block];exact Nat.ne_of_lt (Nat.lt_of_lt_of_le (by have:=World.block_lt_of_cell? _ _ Zy;first | rwa [add_block] at this | exact this) Zo.out)) | (show (Addr.add _ _).block ≠ _;rw [add_block];exact Nat.ne_of_lt (Nat.lt_of_lt_of_le (by have:=World.block_lt_of_cell? _ _ Zy;first | rwa [add_block] at this | exact this) Zo.out)) | (dsimp only;exact Nat.ne_of_lt (Nat.lt_of_lt_of_le (by have:=World.block_lt_of_cell? _ _ Zy;first | rwa [add_block] at this | exact this) Zo.out))) _).trans (hHeld.2.2.2.1)))))),((cell_far (p:=⟨Zd,_,none⟩) (by first | exact Nat.ne_of_lt (Nat.lt_of_lt_of_le (by have:=World.block_lt_of_cell? _ _ Zx;first | rwa [add_block] at this | exact this) Zo.out) | (rw [add_block];exact Nat.ne_of_lt (Nat.lt_of_lt_of_le (by have:=World.block_lt_of_cell? _ _ Zx;first | rwa [add_block] at this | exact this) Zo.out)) | (show (Addr.add _ _).block ≠ _;rw [add_block];exact Nat.ne_of_lt (Nat.lt_of_lt_of_le (by have:=World.block_lt_of_cell? _ _ Zx;first | rwa [add_block] at this | exact this) Zo.out)) | (dsimp only;exact Nat.ne_of_lt (Nat.lt_of_lt_of_le (by have:=World.block_lt_of_cell? _ _ Zx;first | rwa [add_block] at this | exact this) Zo.out))) _).trans (((cell_far (p:=⟨Zd,_,none⟩) (by first | exact Nat.ne_of_lt (Nat.lt_of_lt_of_le (by have:=World.block_lt_of_cell? _ _ Zx;first | rwa [add_block] at this | exact this) Zo.out) | (rw [add_block];exact Nat.ne_of_lt (Nat.lt_of_lt_of_le (by have:=World.block_lt_of_cell? _ _ Zx;first | rwa [add_block] at this | exact this) Zo.out)) | (show (Addr.add _ _).block ≠ _;rw [add_block];exact Nat.ne_of_lt (Nat.lt_of_lt_of_le (by have:=World.block_lt_of_cell? _ _ Zx;first | rwa [add_block] at this | exact this) Zo.out)) | (dsimp only;exact Nat.ne_of_lt (Nat.lt_of_lt_of_le (by have:=World.block_lt_of_cell? _ _ Zx;first | rwa [add_block] at this | exact this) Zo.out))) _).trans (((cell_far (p:=⟨Zd,_,none⟩) (by first | exact Nat.ne_of_lt (Nat.lt_of_lt_of_le (by have:=World.block_lt_of_cell? _ _ Zx;first | rwa [add_block] at this | exact this) Zo.out) | (rw [add_block];exact Nat.ne_of_lt (Nat.lt_of_lt_of_le (by have:=World.block_lt_of_cell? _ _ Zx;first | rwa [add_block] at this | exact this) Zo.out)) | (show (Addr.add _ _).block ≠ _;rw [add_block];exact Nat.ne_of_lt (Nat.lt_of_lt_of_le (by have:=World.block_lt_of_cell? _ _ Zx;first | rwa [add_block] at this | exact this) Zo.out)) | (dsimp only;exact Nat.ne_of_lt (Nat.lt_of_lt_of_le (by have:=World.block_lt_of_cell? _ _ Zx;first | rwa [add_block] at this | exact this) Zo.out))) _).trans (hHeld.2.2.2.2.1)))))),((cell_far (p:=⟨Zd,_,none⟩) (by first | exact Nat.ne_of_lt (Nat.lt_of_lt_of_le (by have:=World.block_lt_of_cell? _ _ Zw;first | rwa [add_block] at this | exact this) Zo.out) | (rw [add_block];exact Nat.ne_of_lt (Nat.lt_of_lt_of_le (by have:=World.block_lt_of_cell? _ _ Zw;first | rwa [add_block] at this | exact this) Zo.out)) | (show (Addr.add _ _).block ≠ _;rw [add_block];exact Nat.ne_of_lt (Nat.lt_of_lt_of_le (by have:=World.block_lt_of_cell? _ _ Zw;first | rwa [add_block] at this | exact this) Zo.out)) | (dsimp only;exact Nat.ne_of_lt (Nat.lt_of_lt_of_le (by have:=World.block_lt_of_cell? _ _ Zw;first | rwa [add_block] at this | exact this) Zo.out))) _).trans (((cell_far (p:=⟨Zd,_,none⟩) (by first | exact Nat.ne_of_lt (Nat.lt_of_lt_of_le (by have:=World.block_lt_of_cell? _ _ Zw;first | rwa [add_block] at this | exact this) Zo.out) | (rw [add_block];exact Nat.ne_of_lt (Nat.lt_of_lt_of_le (by have:=World.block_lt_of_cell? _ _ Zw;first | rwa [add_block] at this | exact this) Zo.out)) | (show (Addr.add _ _).block ≠ _;rw [add_block];exact Nat.ne_of_lt (Nat.lt_of_lt_of_le (by have:=World.block_lt_of_cell? _ _ Zw;first | rwa [add_block] at this | exact this) Zo.out)) | (dsimp only;exact Nat.ne_of_lt (Nat.lt_of_lt_of_le (by have:=World.block_lt_of_cell? _ _ Zw;first | rwa [add_block] at this | exact this) Zo.out))) _).trans (((cell_far (p:=⟨Zd,_,none⟩) (by first | exact Nat.ne_of_lt (Nat.lt_of_lt_of_le (by have:=World.block_lt_of_cell? _ _ Zw;first | rwa [add_block] at this | exact this) Zo.out) | (rw [add_block];exact Nat.ne_of_lt (Nat.lt_of_lt_of_le (by have:=World.block_lt_of_cell? _ _ Zw;first | rwa [add_block] at this | exact this) Zo.out)) | (show (Addr.add _ _).block ≠ _;rw [add_block];exact Nat.ne_of_lt (Nat.lt_of_lt_of_le (by have:=World.block_lt_of_cell? _ _ Zw;first | rwa [add_block] at this | exact this) Zo.out)) | (dsimp only;exact Nat.ne_of_lt (Nat.lt_of_lt_of_le (by have:=World.block_lt_of_cell? _ _ Zw;first | rwa [add_block] at this | exact this) Zo.out))) _).trans (hHeld.2.2.2.2.2))))))⟩ (fun hHeld=>?_)
  clear hK K
  refine pur (i:=13) (N:=some 3) (bn 14 16383) ?_
  refine done_ (done_of HT_.out (by kernel_rfl)) ?_
  try go_wp2
  refine bodyPost_ret (results_ct rfl _ _ Zd 29 #[.int .i64 a0_0,.int .i64 (wrap64 (a0_1 - 1)),.slice XM y538.length XN] (0,0) _ rfl bP Try.underlying29 rfl (by kernel_rfl)) rfl ?_
  exact ⟨_,rfl,by (with_reducible repeat (first | apply Kd.N_alloc | apply Kd.N_drewN | apply Kd.N_drew));exact Kd.N_mono (nFN (g:=Zd) Xj.out (fun k_ hk=>hk.2.2)) (fun _ hk=>hk.1),bB⟩
 rw [if_neg c20] at H
 have c20b0:(a0_0 == 2) = false:=beq_eq_false_iff_ne.mpr c20
 have c20b1:(a0_0 != 2) = true:=bne_iff_ne.mpr c20
 by_cases c46:0 < (l0_2.length:Int);rotate_left
 ·rw [if_neg c46] at H
  exact absurd H (by simp)
 rw [if_pos c46] at H
 have c46b0:decide (0 < (l0_2.length:Int)) = true:=decide_eq_true c46
 have c46b1:decide (0 < l0_2.length) = true:=decide_eq_true (by omega)
 clear c46
 obtain ⟨⟨t542,t543,t544,t547⟩,A47,H⟩:=bQ H
 dsimp only at H
 by_cases c48:1 < (l0_2.length:Int);rotate_left
 ·rw [if_neg c48] at H
  exact absurd H (by simp)
 rw [if_pos c48] at H
 have c48b0:decide (1 < (l0_2.length:Int)) = true:=decide_eq_true c48
 have c48b1:decide (1 < l0_2.length) = true:=decide_eq_true (by omega)
 clear c48
 obtain ⟨⟨t550,t551,t552,t555⟩,A49,H⟩:=bQ H
 dsimp only at H
 by_cases c50:t547 = true
 ·subst c50
  have H1:(if t555 = true then (if a0_0 = 4 then ((spec_l17Meet.f k ((rd_T29 l0_2 0).f0) ((rd_T29 l0_2 0).f1) ((rd_T29 l0_2 0).f2) ((rd_T29 l0_2 1).f0) ((rd_T29 l0_2 1).f1) ((rd_T29 l0_2 1).f2)).bind fun t559=>(if t559 = true then (some (0,0,([]:List (S29)),false)) else ((spec_l17Two.f a0_0 t542 t543 t544 t550 t551 t552).bind fun bt560=>(some (bt560.1,bt560.2.1,bt560.2.2,true))))) else ((spec_l17Two.f a0_0 t542 t543 t544 t550 t551 t552).bind fun bt565=>(some (bt565.1,bt565.2.1,bt565.2.2,true)))) else (some (0,0,([]:List (S29)),false))) = some (r1,r2,r3,r4):=by rw [if_pos rfl] at H;exact H
  clear H
  have H:=H1
  clear H1
  by_cases c51:t555 = true
  ·subst c51
   have H1:(if a0_0 = 4 then ((spec_l17Meet.f k ((rd_T29 l0_2 0).f0) ((rd_T29 l0_2 0).f1) ((rd_T29 l0_2 0).f2) ((rd_T29 l0_2 1).f0) ((rd_T29 l0_2 1).f1) ((rd_T29 l0_2 1).f2)).bind fun t559=>(if t559 = true then (some (0,0,([]:List (S29)),false)) else ((spec_l17Two.f a0_0 t542 t543 t544 t550 t551 t552).bind fun bt560=>(some (bt560.1,bt560.2.1,bt560.2.2,true))))) else ((spec_l17Two.f a0_0 t542 t543 t544 t550 t551 t552).bind fun bt565=>(some (bt565.1,bt565.2.1,bt565.2.2,true)))) = some (r1,r2,r3,r4):=by rw [if_pos rfl] at H;exact H
   clear H
   have H:=H1
   clear H1
   by_cases c52:a0_0 = 4;rotate_left
   ·rw [if_neg c52] at H
    have c52b0:(a0_0 == 4) = false:=beq_eq_false_iff_ne.mpr c52
    have c52b1:(a0_0 != 4) = true:=bne_iff_ne.mpr c52
    obtain ⟨⟨t565,t566,t567⟩,A105,H⟩:=bQ H
    dsimp only at H
    simp only [Option.some.injEq,Prod.mk.injEq] at H
    obtain ⟨rfl,rfl,rfl,rfl⟩:=H
    go_enter Try.func50,Try.ntmps50
    try go_wp2_with (first | ((with_reducible refine gate_dst (N:=1) rfl ?_);refine box1 (N:=1) (cs:=#[.int .i64 a0_0,.int .i64 a0_1,.slice A0_2 l0_2.length c0_2]) (t:=29) ?_;intro Zg hg w106 hbox hb;have Za:=aQ (hbox);have ZW:=aQ (gB:w.heap.size ≤ Zg);have YF:=ZW;replace HB:=aQ (below_step bB hb);clear hb hbox hg) | ((with_reducible refine gate_dst (N:=2) rfl ?_);refine box1 (N:=2) (cs:=#[.int .i64 0,.int .i64 0,.slice none 0 0]) (t:=29) ?_;intro Zd hg w107 hbox hb;have Ze:=aQ (hbox);have Zo:=aQ (gB:w.heap.size ≤ Zd);have YG:=Zo;replace HB:=aQ (below_step bB hb);have Zh:=aQ ((by rw [hg];exact Nat.ne_of_lt (blk_lt (nB Za.out)):Zg ≠ Zd));have Zq:=aQ Zh.out.symm;replace Za:=aQ (blk_below (nB Za.out) hb);clear hb hbox hg;have Sg:=Zh.out;have Sh:=Zq.out;obtain ⟨XO,XP,XQ,XR,XS,XT⟩:=cz3 Za.out;have p541:0 ≤ (0:Int):=(by omega);have q541:0 < (l0_2.length:Int):=of_decide_eq_true (by first | (with_reducible assumption) | assumption);obtain ⟨Zl,A541_2,c541_2,e541,Zr,Zs,Zt,ZR,ZS⟩:=at_T29 ZV.out 0 p541 q541;cases e541;have qi541:(0 < l0_2.length) = True:=eq_true (by omega);(try rw [show ((0:Int)).toNat = 0 from rfl,show 0 * 3 = 0 from rfl] at Zr Zs Zt);(try rw [Addr.add_zero'] at Zr);(try rw [Addr.add_zero'] at Zs);(try rw [Addr.add_zero'] at Zt);replace Zr:=(HB.out.cell (World.block_lt_of_cell? w _ Zr)).trans Zr;replace Zs:=(HB.out.cell (World.block_lt_of_cell? w _ Zs)).trans Zs;replace Zt:=(HB.out.cell (World.block_lt_of_cell? w _ Zt)).trans Zt;have Yc:=aQ ZS;have Yd:=aQ ZR;clear ZS ZR;replace p541:=eq_true p541;replace q541:=eq_true q541) | ((with_reducible refine gate_callee (f:=50) rfl ?_);refine goesL_ (some 47) rfl rfl Try.func50 (by kernel_rfl) rfl #[.agg #[.int .i64 ((rd_T29 l0_2 0).f0),.int .i64 ((rd_T29 l0_2 0).f1),.slice A541_2 ((rd_T29 l0_2 0).f2).length c541_2]] rfl mP ?_;(with_reducible refine (ih k (by omega) ((rd_T29 l0_2 0).f0) ((rd_T29 l0_2 0).f1) _ _ ((rd_T29 l0_2 0).f2) t542 t543 t544 true _ ?Zu ?Zv A47.out).mono ?_);(case Zu=>repeat (first | exact (Kd.C_below Yc.out HB.out) | (with_reducible refine Kd.C_alloc ?_ _) | (with_reducible refine Kd.C_drewN ?_ _) | (with_reducible refine Kd.C_drew ?_)));(case Zv=>exact Yd.out);rintro e w110 ⟨v545,rfl,ho0,hb⟩;refine ⟨_,rfl,?_⟩;have Zi:=aQ (Kd.N_lower (Kd.N_mono (ok':=fun k_=>(w.heap.size ≤ k_)∧k_ ≠ Zg∧k_ ≠ Zd) ho0 (fun k_ hk_=>⟨(Nat.le_trans (below_size bB) hk_),(Kd.freshB (nB Za.out) k_ hk_),(Kd.freshB (nB Ze.out) k_ hk_)⟩)) (below_size bB));replace Za:=aQ (blk_below (nB Za.out) hb);replace Ze:=aQ (blk_below (nB Ze.out) hb);replace HB:=aQ (below_step bB hb);(try clear hb);(try clear ho0)) | ((with_reducible refine gate_dst (N:=4) rfl ?_);refine box1 (N:=4) (cs:=#[.int .i64 0,.int .i64 0,.slice none 0 0]) (t:=29) ?_;intro Zc hg w111 hbox hb;replace Zi:=aQ (Kd.N_below (Kd.N_elderB (nN Zi.out) Zc (Nat.le_of_eq hg.symm)) hb);have Zm:=aQ (hbox);have ZE:=aQ (gB:w.heap.size ≤ Zc);have YU:=ZE;replace HB:=aQ (below_step bB hb);have Zz:=aQ ((by rw [hg];exact Nat.ne_of_lt (blk_lt (nB Za.out)):Zg ≠ Zc));have ZX:=aQ Zz.out.symm;replace Za:=aQ (blk_below (nB Za.out) hb);have ZA:=aQ ((by rw [hg];exact Nat.ne_of_lt (blk_lt (nB Ze.out)):Zd ≠ Zc));have ZY:=aQ ZA.out.symm;replace Ze:=aQ (blk_below (nB Ze.out) hb);clear hb hbox hg;have Si:=ZX.out;have Sj:=Zz.out;have Sk:=ZY.out;have Sl:=ZA.out;obtain ⟨XU,XV,XW,XX,XY,XZ⟩:=cz3 Zm.out;obtain ⟨Ye,Yf,Xv⟩:=Kd.N_slice Zi.out;subst Xv;obtain ⟨Wa,Wb,Wc,Wd,We,Wf⟩:=cz3 Za.out;have p549:0 ≤ (1:Int):=(by omega);have q549:1 < (l0_2.length:Int):=of_decide_eq_true (by first | (with_reducible assumption) | assumption);obtain ⟨Yz,A549_2,c549_2,e549,Zf,Zj,Zk,ZT,ZU⟩:=at_T29 ZV.out 1 p549 q549;obtain rfl:Zl = Yz:=(by injection e549);(try simp only [show (1:Int).toNat = 1 from rfl,Nat.reduceMul,Nat.reduceEqDiff,Go.Addr.add,↓reduceIte] at Zf);(try simp only [show (1:Int).toNat = 1 from rfl,Nat.reduceMul,Nat.reduceEqDiff,Go.Addr.add,↓reduceIte] at Zj);(try simp only [show (1:Int).toNat = 1 from rfl,Nat.reduceMul,Nat.reduceEqDiff,Go.Addr.add,↓reduceIte] at Zk);have qi549:(1 < l0_2.length) = True:=eq_true (by omega);(try rw [show ((1:Int)).toNat = 1 from rfl,show 1 * 3 = 3 from rfl] at Zf Zj Zk);have hn549_0:Zl.block ≠ Zc:=Nat.ne_of_lt (Nat.lt_of_lt_of_le (by have:=World.block_lt_of_cell? _ _ Zf;first | rwa [add_block] at this | exact this) ZE.out);have hn549_1:Zl.block ≠ Zc:=Nat.ne_of_lt (Nat.lt_of_lt_of_le (by have:=World.block_lt_of_cell? _ _ Zf;first | rwa [add_block] at this | exact this) ZE.out);have hn549_2:Zl.block ≠ Zc:=Nat.ne_of_lt (Nat.lt_of_lt_of_le (by have:=World.block_lt_of_cell? _ _ Zf;first | rwa [add_block] at this | exact this) ZE.out);replace Zf:=(HB.out.cell (World.block_lt_of_cell? w _ Zf)).trans Zf;replace Zj:=(HB.out.cell (World.block_lt_of_cell? w _ Zj)).trans Zj;replace Zk:=(HB.out.cell (World.block_lt_of_cell? w _ Zk)).trans Zk;have Yg:=aQ ZU;have Yh:=aQ ZT;clear ZU ZT;replace Zf:=(cell_far (p:=⟨Zc,0,none⟩) (by first | (rw [add_block];exact hn549_0) | (show (Addr.add _ _).block ≠ _;rw [add_block];exact hn549_0) | exact hn549_0) (.int .i64 t542)).trans Zf;replace Zj:=(cell_far (p:=⟨Zc,0,none⟩) (by first | (rw [add_block];exact hn549_0) | (show (Addr.add _ _).block ≠ _;rw [add_block];exact hn549_0) | exact hn549_0) (.int .i64 t542)).trans Zj;replace Zk:=(cell_far (p:=⟨Zc,0,none⟩) (by first | (rw [add_block];exact hn549_0) | (show (Addr.add _ _).block ≠ _;rw [add_block];exact hn549_0) | exact hn549_0) (.int .i64 t542)).trans Zk;replace Zf:=(cell_far (p:=⟨Zc,1,none⟩) (by first | (rw [add_block];exact hn549_1) | (show (Addr.add _ _).block ≠ _;rw [add_block];exact hn549_1) | exact hn549_1) (.int .i64 t543)).trans Zf;replace Zj:=(cell_far (p:=⟨Zc,1,none⟩) (by first | (rw [add_block];exact hn549_1) | (show (Addr.add _ _).block ≠ _;rw [add_block];exact hn549_1) | exact hn549_1) (.int .i64 t543)).trans Zj;replace Zk:=(cell_far (p:=⟨Zc,1,none⟩) (by first | (rw [add_block];exact hn549_1) | (show (Addr.add _ _).block ≠ _;rw [add_block];exact hn549_1) | exact hn549_1) (.int .i64 t543)).trans Zk;replace Zf:=(cell_far (p:=⟨Zc,2,none⟩) (by first | (rw [add_block];exact hn549_2) | (show (Addr.add _ _).block ≠ _;rw [add_block];exact hn549_2) | exact hn549_2) (.slice Ye t544.length Yf)).trans Zf;replace Zj:=(cell_far (p:=⟨Zc,2,none⟩) (by first | (rw [add_block];exact hn549_2) | (show (Addr.add _ _).block ≠ _;rw [add_block];exact hn549_2) | exact hn549_2) (.slice Ye t544.length Yf)).trans Zj;replace Zk:=(cell_far (p:=⟨Zc,2,none⟩) (by first | (rw [add_block];exact hn549_2) | (show (Addr.add _ _).block ≠ _;rw [add_block];exact hn549_2) | exact hn549_2) (.slice Ye t544.length Yf)).trans Zk;clear hn549_0;clear hn549_1;clear hn549_2;replace p549:=eq_true p549;replace q549:=eq_true q549) | ((with_reducible refine gate_callee (f:=50) rfl ?_);refine goesL_ (some 55) rfl rfl Try.func50 (by kernel_rfl) rfl #[.agg #[.int .i64 ((rd_T29 l0_2 1).f0),.int .i64 ((rd_T29 l0_2 1).f1),.slice A549_2 ((rd_T29 l0_2 1).f2).length c549_2]] rfl mP ?_;(with_reducible refine (ih k (by omega) ((rd_T29 l0_2 1).f0) ((rd_T29 l0_2 1).f1) _ _ ((rd_T29 l0_2 1).f2) t550 t551 t552 true _ ?Zu ?Zv A49.out).mono ?_);(case Zu=>exact Kd.C_below Yg.out bB);(case Zv=>exact Yh.out);rintro e w117 ⟨v553,rfl,ho0,hb⟩;refine ⟨_,rfl,?_⟩;have Zn:=aQ (Kd.N_lower (Kd.N_mono (ok':=fun k_=>(w.heap.size ≤ k_)∧some k_ ≠ (.slice Ye t544.length Yf:Value).ownBlock∧k_ ≠ Zg∧k_ ≠ Zd∧k_ ≠ Zc) ho0 (fun k_ hk_=>⟨(Nat.le_trans (below_size bB) hk_),(Kd.fresh' (Kd.N_lt (nN ((Kd.N_mono (Kd.N_far (p:=⟨Zc,2,none⟩) (Kd.N_far (p:=⟨Zc,1,none⟩) (Kd.N_far (p:=⟨Zc,0,none⟩) (Kd.N_mono Zi.out (fun k_ hk=>(⟨hk,hk.2⟩:_∧k_ ≠ Zc))) (fun _ hk=>hk.2) (.int .i64 t542)) (fun _ hk=>hk.2) (.int .i64 t543)) (fun _ hk=>hk.2) (.slice Ye t544.length Yf)) (fun _ h_=>h_.1))))) k_ hk_),(Kd.freshB (g:=Zg) (o:=.cells #[.int .i64 a0_0,.int .i64 a0_1,.slice (some Zl) l0_2.length c0_2] 29 (0,0)) bF k_ hk_),(Kd.freshB (g:=Zd) (o:=.cells #[.int .i64 0,.int .i64 0,.slice none 0 0] 29 (0,0)) bF k_ hk_),(Kd.freshB (g:=Zc) (o:=.cells #[.int .i64 t542,.int .i64 t543,.slice Ye t544.length Yf] 29 (0,0)) bP k_ hk_)⟩)) (below_size bB));replace Zi:=aQ (Kd.N_elder' (nN ((Kd.N_mono (Kd.N_far (p:=⟨Zc,2,none⟩) (Kd.N_far (p:=⟨Zc,1,none⟩) (Kd.N_far (p:=⟨Zc,0,none⟩) (Kd.N_mono Zi.out (fun k_ hk=>(⟨hk,hk.2⟩:_∧k_ ≠ Zc))) (fun _ hk=>hk.2) (.int .i64 t542)) (fun _ hk=>hk.2) (.int .i64 t543)) (fun _ hk=>hk.2) (.slice Ye t544.length Yf)) (fun _ h_=>h_.1)))) (Kd.N_base ho0) hb);replace Za:=aQ (blk_below (g:=Zg) (o:=.cells #[.int .i64 a0_0,.int .i64 a0_1,.slice (some Zl) l0_2.length c0_2] 29 (0,0)) bF hb);replace Ze:=aQ (blk_below (g:=Zd) (o:=.cells #[.int .i64 0,.int .i64 0,.slice none 0 0] 29 (0,0)) bF hb);replace Zm:=aQ (blk_below (g:=Zc) (o:=.cells #[.int .i64 t542,.int .i64 t543,.slice Ye t544.length Yf] 29 (0,0)) bP hb);replace HB:=aQ (below_step bB hb);(try clear hb);(try clear ho0)) | ((with_reducible refine gate_dst (N:=6) rfl ?_);refine box1 (N:=6) (cs:=#[.int .i64 0,.int .i64 0,.slice none 0 0]) (t:=29) ?_;intro Zb hg w118 hbox hb;replace Zi:=aQ (Kd.N_below (Kd.N_elderB (nN Zi.out) Zb (Nat.le_of_eq hg.symm)) hb);replace Zn:=aQ (Kd.N_below (Kd.N_elderB (nN Zn.out) Zb (Nat.le_of_eq hg.symm)) hb);have Zp:=aQ (hbox);have YA:=aQ (gB:w.heap.size ≤ Zb);have YV:=YA;replace HB:=aQ (below_step bB hb);have ZB:=aQ ((by rw [hg];exact Nat.ne_of_lt (blk_lt (nB Za.out)):Zg ≠ Zb));have ZZ:=aQ ZB.out.symm;replace Za:=aQ (blk_below (nB Za.out) hb);have ZC:=aQ ((by rw [hg];exact Nat.ne_of_lt (blk_lt (nB Ze.out)):Zd ≠ Zb));have Ya:=aQ ZC.out.symm;replace Ze:=aQ (blk_below (nB Ze.out) hb);have ZD:=aQ ((by rw [hg];exact Nat.ne_of_lt (blk_lt (nB Zm.out)):Zc ≠ Zb));have Yb:=aQ ZD.out.symm;replace Zm:=aQ (blk_below (nB Zm.out) hb);clear hb hbox hg;have Sm:=ZZ.out;have Sn:=ZB.out;have So:=Ya.out;have Sp:=ZC.out;have Sq:=Yb.out;have Sr:=ZD.out;obtain ⟨Wg,Wh,Wi,Wj,Wk,Wl⟩:=cz3 Zp.out;obtain ⟨Yi,Yj,Xw⟩:=Kd.N_slice Zn.out;subst Xw))
    have n0_:Aside0 (Kd.N k29 29 (((w118.setCell ⟨Zb,0,none⟩ (.int .i64 t550)).setCell ⟨Zb,1,none⟩ (.int .i64 t551)).setCell ⟨Zb,2,none⟩ (.slice Yi t552.length Yj)) w.heap.size (fun k_=>(w.heap.size ≤ k_)∧some k_ ≠ (.slice Yi t552.length Yj:Value).ownBlock∧k_ ≠ Zg∧k_ ≠ Zd∧k_ ≠ Zc∧k_ ≠ Zb) (.slice Ye t544.length Yf) t544):=⟨Kd.N_mono (nFN (g:=Zb) Zi.out (fun k_ hk=>hk.2)) (fun _ hk=>⟨hk.1.1.1.1,⟨hk.1.2,⟨hk.1.1.1.2.1,⟨hk.1.1.1.2.2,⟨hk.1.1.2,hk.2⟩⟩⟩⟩⟩)⟩
    have n1_:Aside0 (Kd.N k29 29 (((w118.setCell ⟨Zb,0,none⟩ (.int .i64 t550)).setCell ⟨Zb,1,none⟩ (.int .i64 t551)).setCell ⟨Zb,2,none⟩ (.slice Yi t552.length Yj)) w.heap.size (fun k_=>(w.heap.size ≤ k_)∧some k_ ≠ (.slice Ye t544.length Yf:Value).ownBlock∧k_ ≠ Zg∧k_ ≠ Zd∧k_ ≠ Zc∧k_ ≠ Zb) (.slice Yi t552.length Yj) t552):=⟨Kd.N_mono (nFN (g:=Zb) Zn.out (fun k_ hk=>hk.2)) (fun _ hk=>⟨hk.1.1,⟨hk.1.2.1,⟨hk.1.2.2.1,⟨hk.1.2.2.2.1,⟨hk.1.2.2.2.2,hk.2⟩⟩⟩⟩⟩)⟩
    have n2_:Aside0 ((((w118.setCell ⟨Zb,0,none⟩ (.int .i64 t550)).setCell ⟨Zb,1,none⟩ (.int .i64 t551)).setCell ⟨Zb,2,none⟩ (.slice Yi t552.length Yj)).heap[Zg]? = some (.cells #[.int .i64 a0_0,.int .i64 a0_1,.slice (some Zl) l0_2.length c0_2] 29 (0,0))):=⟨bF⟩
    have n3_:Aside0 ((((w118.setCell ⟨Zb,0,none⟩ (.int .i64 t550)).setCell ⟨Zb,1,none⟩ (.int .i64 t551)).setCell ⟨Zb,2,none⟩ (.slice Yi t552.length Yj)).heap[Zd]? = some (.cells #[.int .i64 0,.int .i64 0,.slice none 0 0] 29 (0,0))):=⟨bF⟩
    have n4_:Aside0 ((((w118.setCell ⟨Zb,0,none⟩ (.int .i64 t550)).setCell ⟨Zb,1,none⟩ (.int .i64 t551)).setCell ⟨Zb,2,none⟩ (.slice Yi t552.length Yj)).heap[Zc]? = some (.cells #[.int .i64 t542,.int .i64 t543,.slice Ye t544.length Yf] 29 (0,0))):=⟨bF⟩
    have n5_:Aside0 ((((w118.setCell ⟨Zb,0,none⟩ (.int .i64 t550)).setCell ⟨Zb,1,none⟩ (.int .i64 t551)).setCell ⟨Zb,2,none⟩ (.slice Yi t552.length Yj)).heap[Zb]? = some (.cells #[.int .i64 t550,.int .i64 t551,.slice Yi t552.length Yj] 29 (0,0))):=⟨bP⟩
    have n6_:Aside0 (Below w.heap.size w (((w118.setCell ⟨Zb,0,none⟩ (.int .i64 t550)).setCell ⟨Zb,1,none⟩ (.int .i64 t551)).setCell ⟨Zb,2,none⟩ (.slice Yi t552.length Yj))):=⟨bB⟩
    (try clear Zi)
    (try clear Zn)
    (try clear Za)
    (try clear Ze)
    (try clear Zm)
    (try clear Zp)
    (try clear HB)
    generalize (((w118.setCell ⟨Zb,0,none⟩ (.int .i64 t550)).setCell ⟨Zb,1,none⟩ (.int .i64 t551)).setCell ⟨Zb,2,none⟩ (.slice Yi t552.length Yj)) = w124 at n0_ n1_ n2_ n3_ n4_ n5_ n6_ ⊢
    have Zi:=n0_
    have Zn:=n1_
    have Za:=n2_
    have Ze:=n3_
    have Zm:=n4_
    have Zp:=n5_
    have HB:=n6_
    clear n0_ n1_ n2_ n3_ n4_ n5_ n6_
    replace Zi:=aQ (Kd.N_drew Zi.out)
    replace Zn:=aQ (Kd.N_drew Zn.out)
    replace Za:=aQ (blk_drew Za.out)
    replace Ze:=aQ (blk_drew Ze.out)
    replace Zm:=aQ (blk_drew Zm.out)
    replace Zp:=aQ (blk_drew Zp.out)
    replace HB:=aQ (below_drew1 HB.out)
    refine start_ (n:=22) (S:=fun w'=>w'.cell? ⟨Zg,0,none⟩ = some (.int .i64 a0_0)∧w'.cell? ⟨Zg,1,none⟩ = some (.int .i64 a0_1)∧w'.cell? ⟨Zg,2,none⟩ = some (.slice (some Zl) l0_2.length c0_2)) (ds:=[]) (bn 22 0) (by kernel_rfl) rfl rfl ⟨(blk_cell Za.out 0).trans rfl,(blk_cell Za.out 1).trans rfl,(blk_cell Za.out 2).trans rfl⟩ (fun hHeld=>?_);refine with_tabW spec_l17Pass.tab12 spec_l17Pass.bits12 (fun HT_ HW_=>?_)
    generalize w124.drew = w125 at Zi Zn Za Ze Zm Zp HB hHeld ⊢
    refine pur (i:=0) (N:=some 58) (bn 22 1) ?_
    refine pur (i:=1) (N:=some 59) (bn 22 3) ?_
    refine pur (i:=2) (N:=some 60) (bn 22 7) ?_
    refine pur (i:=3) (N:=some 61) (bn 22 15) ?_
    refine pur (i:=4) (N:=some 62) (bn 22 31) ?_
    refine pur (i:=5) (N:=some 63) (bn 22 63) ?_
    refine pur (i:=6) (N:=some 64) (bn 22 127) ?_
    refine pur (i:=7) (N:=some 65) (bn 22 255) ?_
    refine tak (i:=8) (N:=some 66) (bn 22 511) ?_
    refine pur (i:=9) (N:=some 67) (bn 22 1023) ?_
    refine pur (i:=10) (N:=some 68) (bn 22 2047) ?_
    refine pur (i:=11) (N:=some 69) (v:=undef) (bn 22 4095) ?_
    refine pur (i:=12) (N:=some 70) (v:=undef) (bn 22 8191) ?_
    refine pur (i:=13) (N:=some 71) (v:=undef) (bn 22 16383) ?_
    refine pur (i:=14) (N:=some 72) (v:=undef) (bn 22 32767) ?_
    refine pur (i:=15) (N:=some 73) (v:=undef) (bn 22 65535) ?_
    refine pur (i:=16) (N:=some 74) (v:=undef) (bn 22 131071) ?_
    refine pur (i:=17) (N:=some 75) (v:=undef) (bn 22 262143) ?_
    refine pur (i:=18) (N:=some 76) (v:=undef) (bn 22 524287) ?_
    refine pur (i:=19) (N:=some 77) (v:=undef) (bn 22 1048575) ?_
    refine pur (i:=20) (N:=some 78) (bn 22 2097151) ?_
    refine pur (i:=21) (N:=some 79) (bn 22 4194303) ?_
    refine done_ (done_of HT_.out (by kernel_rfl)) ?_
    obtain ⟨Wm,Wn,Wo,Wp,Wq,Wr⟩:=cz3 Za.out
    obtain ⟨Ws,Wt,Wu,Wv,Ww,Wx⟩:=cz3 Zm.out
    obtain ⟨Wy,Wz,WA,WB,WC,WD⟩:=cz3 Zp.out
    try go_wp2_with (first | ((with_reducible refine gate_callee (f:=66) rfl ?_);refine goesL_ (some 85) rfl rfl Try.func66 (by kernel_rfl) rfl #[.int .i64 a0_0,.agg #[.int .i64 t542,.int .i64 t543,.slice Ye t544.length Yf],.agg #[.int .i64 t550,.int .i64 t551,.slice Yi t552.length Yj]] rfl mP ?_;(with_reducible refine (spec_l17Two.calls a0_0 t542 t543 (fun k_=>((w.heap.size ≤ k_)∧(some k_ ≠ (.slice Yi t552.length Yj:Value).ownBlock∧(k_ ≠ Zg∧(k_ ≠ Zd∧(k_ ≠ Zc∧k_ ≠ Zb)))))) _ _ t544 t550 t551 (fun k_=>((w.heap.size ≤ k_)∧(some k_ ≠ (.slice Ye t544.length Yf:Value).ownBlock∧(k_ ≠ Zg∧(k_ ≠ Zd∧(k_ ≠ Zc∧k_ ≠ Zb)))))) _ _ t552 t565 t566 t567 _ ?Zu ?Zv A105.out).mono ?_);(case Zu=>exact Kd.N_V (Zi.out));(case Zv=>exact Kd.N_V (Zn.out));rintro e w129 ⟨v568,rfl,ho0,hb⟩;refine ⟨_,rfl,?_⟩;replace Zi:=aQ (Kd.N_elder' (nN Zi.out) (Kd.N_base ho0) hb);replace Zn:=aQ (Kd.N_elder' (nN Zn.out) (Kd.N_base ho0) hb);have Xk:=aQ (Kd.N_lower (Kd.N_mono (ok':=fun k_=>(w.heap.size ≤ k_)∧k_ ≠ Zg∧k_ ≠ Zd∧k_ ≠ Zc∧k_ ≠ Zb) ho0 (fun k_ hk_=>⟨Or.elim hk_ (fun hs_=>Or.elim hs_ (fun hs_=>hs_.1) (fun hs_=>hs_.1)) (fun hn_=>(Nat.le_trans (below_size bB) hn_)),Or.elim hk_ (fun hs_=>Or.elim hs_ (fun hs_=>hs_.2.2.1) (fun hs_=>hs_.2.2.1)) (fun hn_=>(Kd.freshB (nB Za.out) k_ hn_)),Or.elim hk_ (fun hs_=>Or.elim hs_ (fun hs_=>hs_.2.2.2.1) (fun hs_=>hs_.2.2.2.1)) (fun hn_=>(Kd.freshB (nB Ze.out) k_ hn_)),Or.elim hk_ (fun hs_=>Or.elim hs_ (fun hs_=>hs_.2.2.2.2.1) (fun hs_=>hs_.2.2.2.2.1)) (fun hn_=>(Kd.freshB (nB Zm.out) k_ hn_)),Or.elim hk_ (fun hs_=>Or.elim hs_ (fun hs_=>hs_.2.2.2.2.2) (fun hs_=>hs_.2.2.2.2.2)) (fun hn_=>(Kd.freshB (nB Zp.out) k_ hn_))⟩)) (below_size bB));replace Za:=aQ (blk_below (nB Za.out) hb);replace Ze:=aQ (blk_below (nB Ze.out) hb);replace Zm:=aQ (blk_below (nB Zm.out) hb);replace Zp:=aQ (blk_below (nB Zp.out) hb);replace HB:=aQ (below_step bB hb);(try clear hb);(try clear ho0);obtain ⟨WE,WF,WG,WH,WI,WJ⟩:=cz3 Ze.out;obtain ⟨Xx,Xy,Xz⟩:=Kd.N_slice Xk.out;subst Xz))
    refine bodyPost_ret (results_ct rfl _ _ Zd 29 #[.int .i64 t565,.int .i64 t566,.slice Xx t567.length Xy] (0,0) _ rfl bP Try.underlying29 rfl (by kernel_rfl)) rfl ?_
    exact ⟨_,rfl,by (with_reducible repeat (first | apply Kd.N_alloc | apply Kd.N_drewN | apply Kd.N_drew));exact Kd.N_mono (nFN (g:=Zd) Xk.out (fun k_ hk=>hk.2.2.1)) (fun _ hk=>hk.1),bB⟩
   rw [if_pos c52] at H
   have c52b0:(a0_0 == 4) = true:=beq_iff_eq.mpr c52
   have c52b1:(a0_0 != 4) = false:=bne_eq_false_iff_eq.mpr c52
   clear c52
   obtain ⟨t559,A53,H⟩:=bQ H
   (try dsimp only at H)
   by_cases c54:t559 = true
   ·subst c54
    have H1:(some (0,0,([]:List (S29)),false)) = some (r1,r2,r3,r4):=by rw [if_pos rfl] at H;exact H
    clear H
    have H:=H1
    clear H1
    simp only [Option.some.injEq,Prod.mk.injEq] at H
    obtain ⟨rfl,rfl,rfl,rfl⟩:=H
    go_enter Try.func50,Try.ntmps50
    try go_wp2_with (first | ((with_reducible refine gate_dst (N:=1) rfl ?_);refine box1 (N:=1) (cs:=#[.int .i64 a0_0,.int .i64 a0_1,.slice A0_2 l0_2.length c0_2]) (t:=29) ?_;intro Zg hg w55 hbox hb;have Za:=aQ (hbox);have ZW:=aQ (gB:w.heap.size ≤ Zg);have YF:=ZW;replace HB:=aQ (below_step bB hb);clear hb hbox hg) | ((with_reducible refine gate_dst (N:=2) rfl ?_);refine box1 (N:=2) (cs:=#[.int .i64 0,.int .i64 0,.slice none 0 0]) (t:=29) ?_;intro Zd hg w56 hbox hb;have Ze:=aQ (hbox);have Zo:=aQ (gB:w.heap.size ≤ Zd);have YG:=Zo;replace HB:=aQ (below_step bB hb);have Zh:=aQ ((by rw [hg];exact Nat.ne_of_lt (blk_lt (nB Za.out)):Zg ≠ Zd));have Zq:=aQ Zh.out.symm;replace Za:=aQ (blk_below (nB Za.out) hb);clear hb hbox hg;have SX:=Zh.out;have SY:=Zq.out;obtain ⟨UM,UN,UO,UP,UQ,UR⟩:=cz3 Za.out;have p541:0 ≤ (0:Int):=(by omega);have q541:0 < (l0_2.length:Int):=of_decide_eq_true (by first | (with_reducible assumption) | assumption);obtain ⟨Zl,A541_2,c541_2,e541,Zr,Zs,Zt,ZR,ZS⟩:=at_T29 ZV.out 0 p541 q541;cases e541;have qi541:(0 < l0_2.length) = True:=eq_true (by omega);(try rw [show ((0:Int)).toNat = 0 from rfl,show 0 * 3 = 0 from rfl] at Zr Zs Zt);(try rw [Addr.add_zero'] at Zr);(try rw [Addr.add_zero'] at Zs);(try rw [Addr.add_zero'] at Zt);replace Zr:=(HB.out.cell (World.block_lt_of_cell? w _ Zr)).trans Zr;replace Zs:=(HB.out.cell (World.block_lt_of_cell? w _ Zs)).trans Zs;replace Zt:=(HB.out.cell (World.block_lt_of_cell? w _ Zt)).trans Zt;have Yc:=aQ ZS;have Yd:=aQ ZR;clear ZS ZR;replace p541:=eq_true p541;replace q541:=eq_true q541) | ((with_reducible refine gate_callee (f:=50) rfl ?_);refine goesL_ (some 47) rfl rfl Try.func50 (by kernel_rfl) rfl #[.agg #[.int .i64 ((rd_T29 l0_2 0).f0),.int .i64 ((rd_T29 l0_2 0).f1),.slice A541_2 ((rd_T29 l0_2 0).f2).length c541_2]] rfl mP ?_;(with_reducible refine (ih k (by omega) ((rd_T29 l0_2 0).f0) ((rd_T29 l0_2 0).f1) _ _ ((rd_T29 l0_2 0).f2) t542 t543 t544 true _ ?Zu ?Zv A47.out).mono ?_);(case Zu=>repeat (first | exact (Kd.C_below Yc.out HB.out) | (with_reducible refine Kd.C_alloc ?_ _) | (with_reducible refine Kd.C_drewN ?_ _) | (with_reducible refine Kd.C_drew ?_)));(case Zv=>exact Yd.out);rintro e w59 ⟨v545,rfl,ho0,hb⟩;refine ⟨_,rfl,?_⟩;have Zi:=aQ (Kd.N_lower (Kd.N_mono (ok':=fun k_=>(w.heap.size ≤ k_)∧k_ ≠ Zg∧k_ ≠ Zd) ho0 (fun k_ hk_=>⟨(Nat.le_trans (below_size bB) hk_),(Kd.freshB (nB Za.out) k_ hk_),(Kd.freshB (nB Ze.out) k_ hk_)⟩)) (below_size bB));replace Za:=aQ (blk_below (nB Za.out) hb);replace Ze:=aQ (blk_below (nB Ze.out) hb);replace HB:=aQ (below_step bB hb);(try clear hb);(try clear ho0)) | ((with_reducible refine gate_dst (N:=4) rfl ?_);refine box1 (N:=4) (cs:=#[.int .i64 0,.int .i64 0,.slice none 0 0]) (t:=29) ?_;intro Zc hg w60 hbox hb;replace Zi:=aQ (Kd.N_below (Kd.N_elderB (nN Zi.out) Zc (Nat.le_of_eq hg.symm)) hb);have Zm:=aQ (hbox);have ZE:=aQ (gB:w.heap.size ≤ Zc);have YU:=ZE;replace HB:=aQ (below_step bB hb);have Zz:=aQ ((by rw [hg];exact Nat.ne_of_lt (blk_lt (nB Za.out)):Zg ≠ Zc));have ZX:=aQ Zz.out.symm;replace Za:=aQ (blk_below (nB Za.out) hb);have ZA:=aQ ((by rw [hg];exact Nat.ne_of_lt (blk_lt (nB Ze.out)):Zd ≠ Zc));have ZY:=aQ ZA.out.symm;replace Ze:=aQ (blk_below (nB Ze.out) hb);clear hb hbox hg;have SZ:=ZX.out;have Ra:=Zz.out;have Rb:=ZY.out;have Rc:=ZA.out;obtain ⟨US,UT,UU,UV,UW,UX⟩:=cz3 Zm.out;obtain ⟨YB,YC,WK⟩:=Kd.N_slice Zi.out;subst WK;obtain ⟨UY,UZ,Ta,Tb,Tc,Td⟩:=cz3 Za.out;have p549:0 ≤ (1:Int):=(by omega);have q549:1 < (l0_2.length:Int):=of_decide_eq_true (by first | (with_reducible assumption) | assumption);obtain ⟨Yz,A549_2,c549_2,e549,Zf,Zj,Zk,ZT,ZU⟩:=at_T29 ZV.out 1 p549 q549;obtain rfl:Zl = Yz:=(by injection e549);(try simp only [show (1:Int).toNat = 1 from rfl,Nat.reduceMul,Nat.reduceEqDiff,Go.Addr.add,↓reduceIte] at Zf);(try simp only [show (1:Int).toNat = 1 from rfl,Nat.reduceMul,Nat.reduceEqDiff,Go.Addr.add,↓reduceIte] at Zj);(try simp only [show (1:Int).toNat = 1 from rfl,Nat.reduceMul,Nat.reduceEqDiff,Go.Addr.add,↓reduceIte] at Zk);have qi549:(1 < l0_2.length) = True:=eq_true (by omega);(try rw [show ((1:Int)).toNat = 1 from rfl,show 1 * 3 = 3 from rfl] at Zf Zj Zk);have hn549_0:Zl.block ≠ Zc:=Nat.ne_of_lt (Nat.lt_of_lt_of_le (by have:=World.block_lt_of_cell? _ _ Zf;first | rwa [add_block] at this | exact this) ZE.out);have hn549_1:Zl.block ≠ Zc:=Nat.ne_of_lt (Nat.lt_of_lt_of_le (by have:=World.block_lt_of_cell? _ _ Zf;first | rwa [add_block] at this | exact this) ZE.out);have hn549_2:Zl.block ≠ Zc:=Nat.ne_of_lt (Nat.lt_of_lt_of_le (by have:=World.block_lt_of_cell? _ _ Zf;first | rwa [add_block] at this | exact this) ZE.out);replace Zf:=(HB.out.cell (World.block_lt_of_cell? w _ Zf)).trans Zf;replace Zj:=(HB.out.cell (World.block_lt_of_cell? w _ Zj)).trans Zj;replace Zk:=(HB.out.cell (World.block_lt_of_cell? w _ Zk)).trans Zk;have Yg:=aQ ZU;have Yh:=aQ ZT;clear ZU ZT;replace Zf:=(cell_far (p:=⟨Zc,0,none⟩) (by first | (rw [add_block];exact hn549_0) | (show (Addr.add _ _).block ≠ _;rw [add_block];exact hn549_0) | exact hn549_0) (.int .i64 t542)).trans Zf;replace Zj:=(cell_far (p:=⟨Zc,0,none⟩) (by first | (rw [add_block];exact hn549_0) | (show (Addr.add _ _).block ≠ _;rw [add_block];exact hn549_0) | exact hn549_0) (.int .i64 t542)).trans Zj;replace Zk:=(cell_far (p:=⟨Zc,0,none⟩) (by first | (rw [add_block];exact hn549_0) | (show (Addr.add _ _).block ≠ _;rw [add_block];exact hn549_0) | exact hn549_0) (.int .i64 t542)).trans Zk;replace Zf:=(cell_far (p:=⟨Zc,1,none⟩) (by first | (rw [add_block];exact hn549_1) | (show (Addr.add _ _).block ≠ _;rw [add_block];exact hn549_1) | exact hn549_1) (.int .i64 t543)).trans Zf;replace Zj:=(cell_far (p:=⟨Zc,1,none⟩) (by first | (rw [add_block];exact hn549_1) | (show (Addr.add _ _).block ≠ _;rw [add_block];exact hn549_1) | exact hn549_1) (.int .i64 t543)).trans Zj;replace Zk:=(cell_far (p:=⟨Zc,1,none⟩) (by first | (rw [add_block];exact hn549_1) | (show (Addr.add _ _).block ≠ _;rw [add_block];exact hn549_1) | exact hn549_1) (.int .i64 t543)).trans Zk;replace Zf:=(cell_far (p:=⟨Zc,2,none⟩) (by first | (rw [add_block];exact hn549_2) | (show (Addr.add _ _).block ≠ _;rw [add_block];exact hn549_2) | exact hn549_2) (.slice YB t544.length YC)).trans Zf;replace Zj:=(cell_far (p:=⟨Zc,2,none⟩) (by first | (rw [add_block];exact hn549_2) | (show (Addr.add _ _).block ≠ _;rw [add_block];exact hn549_2) | exact hn549_2) (.slice YB t544.length YC)).trans Zj;replace Zk:=(cell_far (p:=⟨Zc,2,none⟩) (by first | (rw [add_block];exact hn549_2) | (show (Addr.add _ _).block ≠ _;rw [add_block];exact hn549_2) | exact hn549_2) (.slice YB t544.length YC)).trans Zk;clear hn549_0;clear hn549_1;clear hn549_2;replace p549:=eq_true p549;replace q549:=eq_true q549) | ((with_reducible refine gate_callee (f:=50) rfl ?_);refine goesL_ (some 55) rfl rfl Try.func50 (by kernel_rfl) rfl #[.agg #[.int .i64 ((rd_T29 l0_2 1).f0),.int .i64 ((rd_T29 l0_2 1).f1),.slice A549_2 ((rd_T29 l0_2 1).f2).length c549_2]] rfl mP ?_;(with_reducible refine (ih k (by omega) ((rd_T29 l0_2 1).f0) ((rd_T29 l0_2 1).f1) _ _ ((rd_T29 l0_2 1).f2) t550 t551 t552 true _ ?Zu ?Zv A49.out).mono ?_);(case Zu=>exact Kd.C_below Yg.out bB);(case Zv=>exact Yh.out);rintro e w66 ⟨v553,rfl,ho0,hb⟩;refine ⟨_,rfl,?_⟩;have Zn:=aQ (Kd.N_lower (Kd.N_mono (ok':=fun k_=>(w.heap.size ≤ k_)∧some k_ ≠ (.slice YB t544.length YC:Value).ownBlock∧k_ ≠ Zg∧k_ ≠ Zd∧k_ ≠ Zc) ho0 (fun k_ hk_=>⟨(Nat.le_trans (below_size bB) hk_),(Kd.fresh' (Kd.N_lt (nN ((Kd.N_mono (Kd.N_far (p:=⟨Zc,2,none⟩) (Kd.N_far (p:=⟨Zc,1,none⟩) (Kd.N_far (p:=⟨Zc,0,none⟩) (Kd.N_mono Zi.out (fun k_ hk=>(⟨hk,hk.2⟩:_∧k_ ≠ Zc))) (fun _ hk=>hk.2) (.int .i64 t542)) (fun _ hk=>hk.2) (.int .i64 t543)) (fun _ hk=>hk.2) (.slice YB t544.length YC)) (fun _ h_=>h_.1))))) k_ hk_),(Kd.freshB (g:=Zg) (o:=.cells #[.int .i64 a0_0,.int .i64 a0_1,.slice (some Zl) l0_2.length c0_2] 29 (0,0)) bF k_ hk_),(Kd.freshB (g:=Zd) (o:=.cells #[.int .i64 0,.int .i64 0,.slice none 0 0] 29 (0,0)) bF k_ hk_),(Kd.freshB (g:=Zc) (o:=.cells #[.int .i64 t542,.int .i64 t543,.slice YB t544.length YC] 29 (0,0)) bP k_ hk_)⟩)) (below_size bB));replace Zi:=aQ (Kd.N_elder' (nN ((Kd.N_mono (Kd.N_far (p:=⟨Zc,2,none⟩) (Kd.N_far (p:=⟨Zc,1,none⟩) (Kd.N_far (p:=⟨Zc,0,none⟩) (Kd.N_mono Zi.out (fun k_ hk=>(⟨hk,hk.2⟩:_∧k_ ≠ Zc))) (fun _ hk=>hk.2) (.int .i64 t542)) (fun _ hk=>hk.2) (.int .i64 t543)) (fun _ hk=>hk.2) (.slice YB t544.length YC)) (fun _ h_=>h_.1)))) (Kd.N_base ho0) hb);replace Za:=aQ (blk_below (g:=Zg) (o:=.cells #[.int .i64 a0_0,.int .i64 a0_1,.slice (some Zl) l0_2.length c0_2] 29 (0,0)) bF hb);replace Ze:=aQ (blk_below (g:=Zd) (o:=.cells #[.int .i64 0,.int .i64 0,.slice none 0 0] 29 (0,0)) bF hb);replace Zm:=aQ (blk_below (g:=Zc) (o:=.cells #[.int .i64 t542,.int .i64 t543,.slice YB t544.length YC] 29 (0,0)) bP hb);replace HB:=aQ (below_step bB hb);(try clear hb);(try clear ho0)) | ((with_reducible refine gate_dst (N:=6) rfl ?_);refine box1 (N:=6) (cs:=#[.int .i64 0,.int .i64 0,.slice none 0 0]) (t:=29) ?_;intro Zb hg w67 hbox hb;replace Zi:=aQ (Kd.N_below (Kd.N_elderB (nN Zi.out) Zb (Nat.le_of_eq hg.symm)) hb);replace Zn:=aQ (Kd.N_below (Kd.N_elderB (nN Zn.out) Zb (Nat.le_of_eq hg.symm)) hb);have Zp:=aQ (hbox);have YA:=aQ (gB:w.heap.size ≤ Zb);have YV:=YA;replace HB:=aQ (below_step bB hb);have ZB:=aQ ((by rw [hg];exact Nat.ne_of_lt (blk_lt (nB Za.out)):Zg ≠ Zb));have ZZ:=aQ ZB.out.symm;replace Za:=aQ (blk_below (nB Za.out) hb);have ZC:=aQ ((by rw [hg];exact Nat.ne_of_lt (blk_lt (nB Ze.out)):Zd ≠ Zb));have Ya:=aQ ZC.out.symm;replace Ze:=aQ (blk_below (nB Ze.out) hb);have ZD:=aQ ((by rw [hg];exact Nat.ne_of_lt (blk_lt (nB Zm.out)):Zc ≠ Zb));have Yb:=aQ ZD.out.symm;replace Zm:=aQ (blk_below (nB Zm.out) hb);clear hb hbox hg;have Rd:=ZZ.out;have Re:=ZB.out;have Rf:=Ya.out;have Rg:=ZC.out;have Rh:=Yb.out;have Ri:=ZD.out;obtain ⟨Te,Tf,Tg,Th,Ti,Tj⟩:=cz3 Zp.out;obtain ⟨YD,YE,WL⟩:=Kd.N_slice Zn.out;subst WL))
    have n0_:Aside0 (Kd.N k29 29 (((w67.setCell ⟨Zb,0,none⟩ (.int .i64 t550)).setCell ⟨Zb,1,none⟩ (.int .i64 t551)).setCell ⟨Zb,2,none⟩ (.slice YD t552.length YE)) w.heap.size (fun k_=>(w.heap.size ≤ k_)∧some k_ ≠ (.slice YD t552.length YE:Value).ownBlock∧k_ ≠ Zg∧k_ ≠ Zd∧k_ ≠ Zc∧k_ ≠ Zb) (.slice YB t544.length YC) t544):=⟨Kd.N_mono (nFN (g:=Zb) Zi.out (fun k_ hk=>hk.2)) (fun _ hk=>⟨hk.1.1.1.1,⟨hk.1.2,⟨hk.1.1.1.2.1,⟨hk.1.1.1.2.2,⟨hk.1.1.2,hk.2⟩⟩⟩⟩⟩)⟩
    have n1_:Aside0 (Kd.N k29 29 (((w67.setCell ⟨Zb,0,none⟩ (.int .i64 t550)).setCell ⟨Zb,1,none⟩ (.int .i64 t551)).setCell ⟨Zb,2,none⟩ (.slice YD t552.length YE)) w.heap.size (fun k_=>(w.heap.size ≤ k_)∧some k_ ≠ (.slice YB t544.length YC:Value).ownBlock∧k_ ≠ Zg∧k_ ≠ Zd∧k_ ≠ Zc∧k_ ≠ Zb) (.slice YD t552.length YE) t552):=⟨Kd.N_mono (nFN (g:=Zb) Zn.out (fun k_ hk=>hk.2)) (fun _ hk=>⟨hk.1.1,⟨hk.1.2.1,⟨hk.1.2.2.1,⟨hk.1.2.2.2.1,⟨hk.1.2.2.2.2,hk.2⟩⟩⟩⟩⟩)⟩
    have n2_:Aside0 ((((w67.setCell ⟨Zb,0,none⟩ (.int .i64 t550)).setCell ⟨Zb,1,none⟩ (.int .i64 t551)).setCell ⟨Zb,2,none⟩ (.slice YD t552.length YE)).heap[Zg]? = some (.cells #[.int .i64 a0_0,.int .i64 a0_1,.slice (some Zl) l0_2.length c0_2] 29 (0,0))):=⟨bF⟩
    have n3_:Aside0 ((((w67.setCell ⟨Zb,0,none⟩ (.int .i64 t550)).setCell ⟨Zb,1,none⟩ (.int .i64 t551)).setCell ⟨Zb,2,none⟩ (.slice YD t552.length YE)).heap[Zd]? = some (.cells #[.int .i64 0,.int .i64 0,.slice none 0 0] 29 (0,0))):=⟨bF⟩
    have n4_:Aside0 ((((w67.setCell ⟨Zb,0,none⟩ (.int .i64 t550)).setCell ⟨Zb,1,none⟩ (.int .i64 t551)).setCell ⟨Zb,2,none⟩ (.slice YD t552.length YE)).heap[Zc]? = some (.cells #[.int .i64 t542,.int .i64 t543,.slice YB t544.length YC] 29 (0,0))):=⟨bF⟩
    have n5_:Aside0 ((((w67.setCell ⟨Zb,0,none⟩ (.int .i64 t550)).setCell ⟨Zb,1,none⟩ (.int .i64 t551)).setCell ⟨Zb,2,none⟩ (.slice YD t552.length YE)).heap[Zb]? = some (.cells #[.int .i64 t550,.int .i64 t551,.slice YD t552.length YE] 29 (0,0))):=⟨bP⟩
    have n6_:Aside0 (Below w.heap.size w (((w67.setCell ⟨Zb,0,none⟩ (.int .i64 t550)).setCell ⟨Zb,1,none⟩ (.int .i64 t551)).setCell ⟨Zb,2,none⟩ (.slice YD t552.length YE))):=⟨bB⟩
    (try clear Zi)
    (try clear Zn)
    (try clear Za)
    (try clear Ze)
    (try clear Zm)
    (try clear Zp)
    (try clear HB)
    generalize (((w67.setCell ⟨Zb,0,none⟩ (.int .i64 t550)).setCell ⟨Zb,1,none⟩ (.int .i64 t551)).setCell ⟨Zb,2,none⟩ (.slice YD t552.length YE)) = w73 at n0_ n1_ n2_ n3_ n4_ n5_ n6_ ⊢
    have Zi:=n0_
    have Zn:=n1_
    have Za:=n2_
    have Ze:=n3_
    have Zm:=n4_
    have Zp:=n5_
    have HB:=n6_
    clear n0_ n1_ n2_ n3_ n4_ n5_ n6_
    replace Zi:=aQ (Kd.N_drew Zi.out)
    replace Zn:=aQ (Kd.N_drew Zn.out)
    replace Za:=aQ (blk_drew Za.out)
    replace Ze:=aQ (blk_drew Ze.out)
    replace Zm:=aQ (blk_drew Zm.out)
    replace Zp:=aQ (blk_drew Zp.out)
    replace HB:=aQ (below_drew1 HB.out)
    have p557:0 ≤ (0:Int):=(by omega)
    have q557:0 < (l0_2.length:Int):=of_decide_eq_true (by first | (with_reducible assumption) | assumption)
    obtain ⟨Xc,A557_2,c557_2,e557,ZF,ZG,ZH,YK,YL⟩:=at_T29 ZV.out 0 p557 q557
    have ZI:=ZH
    (try rw [show ((0:Int)).toNat = 0 from rfl] at ZI)
    (try rw [show 0 * 3 = 0 from rfl] at ZI)
    (try rw [Addr.add_zero'] at ZI)
    have ZJ:=ZG
    (try rw [show ((0:Int)).toNat = 0 from rfl] at ZJ)
    (try rw [show 0 * 3 = 0 from rfl] at ZJ)
    (try rw [Addr.add_zero'] at ZJ)
    have ZK:=ZF
    (try rw [show ((0:Int)).toNat = 0 from rfl] at ZK)
    (try rw [show 0 * 3 = 0 from rfl] at ZK)
    (try rw [Addr.add_zero'] at ZK)
    obtain rfl:Zl = Xc:=(by injection e557)
    have qi557:(0 < l0_2.length) = True:=eq_true (by omega)
    (try rw [show ((0:Int)).toNat = 0 from rfl,show 0 * 3 = 0 from rfl] at ZF ZG ZH)
    (try rw [Addr.add_zero'] at ZF)
    (try rw [Addr.add_zero'] at ZG)
    (try rw [Addr.add_zero'] at ZH)
    replace ZF:=(HB.out.cell (World.block_lt_of_cell? w _ ZF)).trans ZF
    replace ZG:=(HB.out.cell (World.block_lt_of_cell? w _ ZG)).trans ZG
    replace ZH:=(HB.out.cell (World.block_lt_of_cell? w _ ZH)).trans ZH
    have YM:=aQ YL
    have YR:=aQ YK
    clear YL YK
    replace p557:=eq_true p557
    replace q557:=eq_true q557
    have p558:0 ≤ (1:Int):=(by omega)
    have q558:1 < (l0_2.length:Int):=of_decide_eq_true (by first | (with_reducible assumption) | assumption)
    obtain ⟨Xd,A558_2,c558_2,e558,ZL,ZM,ZN,YN,YO⟩:=at_T29 ZV.out 1 p558 q558
    have ZO:=ZN
    (try rw [show ((1:Int)).toNat = 1 from rfl] at ZO)
    (try rw [show 1 * 3 = 3 from rfl] at ZO)
    (try simp only [Nat.reduceMul,Nat.reduceEqDiff,Go.Addr.add,↓reduceIte] at ZO)
    have ZP:=ZM
    (try rw [show ((1:Int)).toNat = 1 from rfl] at ZP)
    (try rw [show 1 * 3 = 3 from rfl] at ZP)
    (try simp only [Nat.reduceMul,Nat.reduceEqDiff,Go.Addr.add,↓reduceIte] at ZP)
    have ZQ:=ZL
    (try rw [show ((1:Int)).toNat = 1 from rfl] at ZQ)
    (try rw [show 1 * 3 = 3 from rfl] at ZQ)
    (try simp only [Nat.reduceMul,Nat.reduceEqDiff,Go.Addr.add,↓reduceIte] at ZQ)
    obtain rfl:Zl = Xd:=(by injection e558)
    (try simp only [show (1:Int).toNat = 1 from rfl,Nat.reduceMul,Nat.reduceEqDiff,Go.Addr.add,↓reduceIte] at ZL)
    (try simp only [show (1:Int).toNat = 1 from rfl,Nat.reduceMul,Nat.reduceEqDiff,Go.Addr.add,↓reduceIte] at ZM)
    (try simp only [show (1:Int).toNat = 1 from rfl,Nat.reduceMul,Nat.reduceEqDiff,Go.Addr.add,↓reduceIte] at ZN)
    have qi558:(1 < l0_2.length) = True:=eq_true (by omega)
    (try rw [show ((1:Int)).toNat = 1 from rfl,show 1 * 3 = 3 from rfl] at ZL ZM ZN)
    replace ZL:=(HB.out.cell (World.block_lt_of_cell? w _ ZL)).trans ZL
    replace ZM:=(HB.out.cell (World.block_lt_of_cell? w _ ZM)).trans ZM
    replace ZN:=(HB.out.cell (World.block_lt_of_cell? w _ ZN)).trans ZN
    have YP:=aQ YO
    have YS:=aQ YN
    clear YO YN
    replace p558:=eq_true p558
    replace q558:=eq_true q558
    refine start_ (n:=22) (S:=fun w'=>w'.cell? ⟨Zg,0,none⟩ = some (.int .i64 a0_0)∧w'.cell? ⟨Zg,1,none⟩ = some (.int .i64 a0_1)∧w'.cell? ⟨Zg,2,none⟩ = some (.slice (some Zl) l0_2.length c0_2)∧w'.cell? Zl = some (.int .i64 ((rd_T29 l0_2 0).f0))∧w'.cell? ⟨Zl.block,Zl.off + 1,none⟩ = some (.int .i64 ((rd_T29 l0_2 0).f1))∧w'.cell? ⟨Zl.block,Zl.off + 2,none⟩ = some (.slice A557_2 ((rd_T29 l0_2 0).f2).length c557_2)∧w'.cell? ⟨Zl.block,Zl.off + 3,none⟩ = some (.int .i64 ((rd_T29 l0_2 1).f0))∧w'.cell? ⟨Zl.block,Zl.off + 3 + 1,none⟩ = some (.int .i64 ((rd_T29 l0_2 1).f1))∧w'.cell? ⟨Zl.block,Zl.off + 3 + 2,none⟩ = some (.slice A558_2 ((rd_T29 l0_2 1).f2).length c558_2)) (ds:=[]) (bn 22 0) (by kernel_rfl) rfl rfl ⟨(blk_cell Za.out 0).trans rfl,(blk_cell Za.out 1).trans rfl,(blk_cell Za.out 2).trans rfl,((HB.out.cell (World.block_lt_of_cell? w _ ZK)).trans ZK),((HB.out.cell (World.block_lt_of_cell? w _ ZJ)).trans ZJ),((HB.out.cell (World.block_lt_of_cell? w _ ZI)).trans ZI),((HB.out.cell (World.block_lt_of_cell? w _ ZQ)).trans ZQ),((HB.out.cell (World.block_lt_of_cell? w _ ZP)).trans ZP),((HB.out.cell (World.block_lt_of_cell? w _ ZO)).trans ZO)⟩ (fun hHeld=>?_);refine with_tabW spec_l17Pass.tab12 spec_l17Pass.bits12 (fun HT_ HW_=>?_)
    generalize w73.drew = w74 at Zi Zn Za Ze Zm Zp HB YM YP ZF ZG ZH ZL ZM ZN hHeld ⊢
    refine pur (i:=0) (N:=some 58) (bn 22 1) ?_
    refine pur (i:=1) (N:=some 59) (bn 22 3) ?_
    refine pur (i:=2) (N:=some 60) (bn 22 7) ?_
    refine pur (i:=3) (N:=some 61) (bn 22 15) ?_
    refine pur (i:=4) (N:=some 62) (bn 22 31) ?_
    refine pur (i:=5) (N:=some 63) (bn 22 63) ?_
    refine pur (i:=6) (N:=some 64) (bn 22 127) ?_
    refine pur (i:=7) (N:=some 65) (bn 22 255) ?_
    refine tak (i:=8) (N:=some 66) (bn 22 511) ?_
    refine pur (i:=9) (N:=some 67) (bn 22 1023) ?_
    refine pur (i:=10) (N:=some 68) (bn 22 2047) ?_
    refine pur (i:=11) (N:=some 69) (bn 22 4095) ?_
    refine pur (i:=15) (N:=some 73) (bn 22 36863) ?_
    refine tak (i:=12) (N:=some 70) (bn 22 40959) ?_
    refine pur (i:=13) (N:=some 71) (bn 22 49151) ?_
    refine tak (i:=14) (N:=some 72) (bn 22 65535) ?_
    refine tak (i:=16) (N:=some 74) (bn 22 131071) ?_
    refine pur (i:=17) (N:=some 75) (bn 22 262143) ?_
    refine tak (i:=18) (N:=some 76) (bn 22 524287) ?_
    refine one_ (i:=19) (N:=some 77) (bn 22 1048575) rfl rfl (one_of HT_.out (by kernel_rfl)) (by decide) (fun K hK=>?_)
    refine goes1 Try.func65 #[.agg #[.int .i64 ((rd_T29 l0_2 0).f0),.int .i64 ((rd_T29 l0_2 0).f1),.slice A557_2 ((rd_T29 l0_2 0).f2).length c557_2],.agg #[.int .i64 ((rd_T29 l0_2 1).f0),.int .i64 ((rd_T29 l0_2 1).f1),.slice A558_2 ((rd_T29 l0_2 1).f2).length c558_2]] ?_
    with_reducible refine (spec_l17Meet.calls k ((rd_T29 l0_2 0).f0) ((rd_T29 l0_2 0).f1) _ _ ((rd_T29 l0_2 0).f2) ((rd_T29 l0_2 1).f0) ((rd_T29 l0_2 1).f1) _ _ ((rd_T29 l0_2 1).f2) true _ ?Zu ?Zv ?Xe ?Xf A53.out).mono ?_
    (case Zu=>repeat (first | exact (Kd.C_below YM.out HB.out) | (with_reducible refine Kd.C_alloc ?_ _) | (with_reducible refine Kd.C_drewN ?_ _) | (with_reducible refine Kd.C_drew ?_)))
    (case Zv=>exact YR.out)
    (case Xe=>repeat (first | exact (Kd.C_below YP.out HB.out) | (with_reducible refine Kd.C_alloc ?_ _) | (with_reducible refine Kd.C_drewN ?_ _) | (with_reducible refine Kd.C_drew ?_)))
    (case Xf=>exact YS.out)
    rintro e w75 ⟨rfl,hb⟩
    refine ⟨_,rfl,?_⟩
    replace Zi:=aQ (Kd.N_below (nN Zi.out) hb)
    replace Zn:=aQ (Kd.N_below (nN Zn.out) hb)
    replace Za:=aQ (blk_below (nB Za.out) hb)
    replace Ze:=aQ (blk_below (nB Ze.out) hb)
    replace Zm:=aQ (blk_below (nB Zm.out) hb)
    replace Zp:=aQ (blk_below (nB Zp.out) hb)
    replace HB:=aQ (below_step bB hb)
    (try clear hb)
    refine hK.out _ _ ⟨(blk_cell Za.out 0).trans rfl,(blk_cell Za.out 1).trans rfl,(blk_cell Za.out 2).trans rfl,((HB.out.cell (World.block_lt_of_cell? w _ ZK)).trans ZK),((HB.out.cell (World.block_lt_of_cell? w _ ZJ)).trans ZJ),((HB.out.cell (World.block_lt_of_cell? w _ ZI)).trans ZI),((HB.out.cell (World.block_lt_of_cell? w _ ZQ)).trans ZQ),((HB.out.cell (World.block_lt_of_cell? w _ ZP)).trans ZP),((HB.out.cell (World.block_lt_of_cell? w _ ZO)).trans ZO)⟩ (fun hHeld=>?_)
    clear hK K
    refine nrm (N:=some 77) ?_
    refine pur (i:=20) (N:=some 78) (bn 22 2097151) ?_
    refine pur (i:=21) (N:=some 79) (bn 22 4194303) ?_
    refine done_ (done_of HT_.out (by kernel_rfl)) ?_
    obtain ⟨Tk,Tl,Tm,Tn,To,Tp⟩:=cz3 Ze.out
    try go_wp2
    refine bodyPost_ret (results_ct rfl _ _ Zd 29 #[.int .i64 0,.int .i64 0,.slice none 0 0] (0,0) _ rfl bP Try.underlying29 rfl (by kernel_rfl)) rfl ?_
    exact ⟨_,rfl,by first | exact Kd.R_nil _ _ _ _ _ | exact Kd.N_nil _ _ _ _ _ | exact Kd.V_nil _ _ _ _ _ | exact Kd.Q_nil _ _ _ _ _ | exact Kd.S_nil _ _ _ _ _,bB⟩
   ·replace c54:=Bool.eq_false_iff.mpr c54
    subst c54
    have H1:((spec_l17Two.f a0_0 t542 t543 t544 t550 t551 t552).bind fun bt560=>(some (bt560.1,bt560.2.1,bt560.2.2,true))) = some (r1,r2,r3,r4):=by rw [if_neg (show ¬ (false = true) by decide)] at H;exact H
    clear H
    have H:=H1
    clear H1
    obtain ⟨⟨t560,t561,t562⟩,A77,H⟩:=bQ H
    dsimp only at H
    simp only [Option.some.injEq,Prod.mk.injEq] at H
    obtain ⟨rfl,rfl,rfl,rfl⟩:=H
    go_enter Try.func50,Try.ntmps50
    try go_wp2_with (first | ((with_reducible refine gate_dst (N:=1) rfl ?_);refine box1 (N:=1) (cs:=#[.int .i64 a0_0,.int .i64 a0_1,.slice A0_2 l0_2.length c0_2]) (t:=29) ?_;intro Zg hg w78 hbox hb;have Za:=aQ (hbox);have ZW:=aQ (gB:w.heap.size ≤ Zg);have YF:=ZW;replace HB:=aQ (below_step bB hb);clear hb hbox hg) | ((with_reducible refine gate_dst (N:=2) rfl ?_);refine box1 (N:=2) (cs:=#[.int .i64 0,.int .i64 0,.slice none 0 0]) (t:=29) ?_;intro Zd hg w79 hbox hb;have Ze:=aQ (hbox);have Zo:=aQ (gB:w.heap.size ≤ Zd);have YG:=Zo;replace HB:=aQ (below_step bB hb);have Zh:=aQ ((by rw [hg];exact Nat.ne_of_lt (blk_lt (nB Za.out)):Zg ≠ Zd));have Zq:=aQ Zh.out.symm;replace Za:=aQ (blk_below (nB Za.out) hb);clear hb hbox hg;have Rj:=Zh.out;have Rk:=Zq.out;obtain ⟨Tq,Tr,Ts,Tt,Tu,Tv⟩:=cz3 Za.out;have p541:0 ≤ (0:Int):=(by omega);have q541:0 < (l0_2.length:Int):=of_decide_eq_true (by first | (with_reducible assumption) | assumption);obtain ⟨Zl,A541_2,c541_2,e541,Zr,Zs,Zt,ZR,ZS⟩:=at_T29 ZV.out 0 p541 q541;cases e541;have qi541:(0 < l0_2.length) = True:=eq_true (by omega);(try rw [show ((0:Int)).toNat = 0 from rfl,show 0 * 3 = 0 from rfl] at Zr Zs Zt);(try rw [Addr.add_zero'] at Zr);(try rw [Addr.add_zero'] at Zs);(try rw [Addr.add_zero'] at Zt);replace Zr:=(HB.out.cell (World.block_lt_of_cell? w _ Zr)).trans Zr;replace Zs:=(HB.out.cell (World.block_lt_of_cell? w _ Zs)).trans Zs;replace Zt:=(HB.out.cell (World.block_lt_of_cell? w _ Zt)).trans Zt;have Yc:=aQ ZS;have Yd:=aQ ZR;clear ZS ZR;replace p541:=eq_true p541;replace q541:=eq_true q541) | ((with_reducible refine gate_callee (f:=50) rfl ?_);refine goesL_ (some 47) rfl rfl Try.func50 (by kernel_rfl) rfl #[.agg #[.int .i64 ((rd_T29 l0_2 0).f0),.int .i64 ((rd_T29 l0_2 0).f1),.slice A541_2 ((rd_T29 l0_2 0).f2).length c541_2]] rfl mP ?_;(with_reducible refine (ih k (by omega) ((rd_T29 l0_2 0).f0) ((rd_T29 l0_2 0).f1) _ _ ((rd_T29 l0_2 0).f2) t542 t543 t544 true _ ?Zu ?Zv A47.out).mono ?_);(case Zu=>repeat (first | exact (Kd.C_below Yc.out HB.out) | (with_reducible refine Kd.C_alloc ?_ _) | (with_reducible refine Kd.C_drewN ?_ _) | (with_reducible refine Kd.C_drew ?_)));(case Zv=>exact Yd.out);rintro e w82 ⟨v545,rfl,ho0,hb⟩;refine ⟨_,rfl,?_⟩;have Zi:=aQ (Kd.N_lower (Kd.N_mono (ok':=fun k_=>(w.heap.size ≤ k_)∧k_ ≠ Zg∧k_ ≠ Zd) ho0 (fun k_ hk_=>⟨(Nat.le_trans (below_size bB) hk_),(Kd.freshB (nB Za.out) k_ hk_),(Kd.freshB (nB Ze.out) k_ hk_)⟩)) (below_size bB));replace Za:=aQ (blk_below (nB Za.out) hb);replace Ze:=aQ (blk_below (nB Ze.out) hb);replace HB:=aQ (below_step bB hb);(try clear hb);(try clear ho0)) | ((with_reducible refine gate_dst (N:=4) rfl ?_);refine box1 (N:=4) (cs:=#[.int .i64 0,.int .i64 0,.slice none 0 0]) (t:=29) ?_;intro Zc hg w83 hbox hb;replace Zi:=aQ (Kd.N_below (Kd.N_elderB (nN Zi.out) Zc (Nat.le_of_eq hg.symm)) hb);have Zm:=aQ (hbox);have ZE:=aQ (gB:w.heap.size ≤ Zc);have YU:=ZE;replace HB:=aQ (below_step bB hb);have Zz:=aQ ((by rw [hg];exact Nat.ne_of_lt (blk_lt (nB Za.out)):Zg ≠ Zc));have ZX:=aQ Zz.out.symm;replace Za:=aQ (blk_below (nB Za.out) hb);have ZA:=aQ ((by rw [hg];exact Nat.ne_of_lt (blk_lt (nB Ze.out)):Zd ≠ Zc));have ZY:=aQ ZA.out.symm;replace Ze:=aQ (blk_below (nB Ze.out) hb);clear hb hbox hg;have Rl:=ZX.out;have Rm:=Zz.out;have Rn:=ZY.out;have Ro:=ZA.out;obtain ⟨Tw,Tx,Ty,Tz,TA,TB⟩:=cz3 Zm.out;obtain ⟨Yv,Yw,WM⟩:=Kd.N_slice Zi.out;subst WM;obtain ⟨TC,TD,TE,TF,TG,TH⟩:=cz3 Za.out;have p549:0 ≤ (1:Int):=(by omega);have q549:1 < (l0_2.length:Int):=of_decide_eq_true (by first | (with_reducible assumption) | assumption);obtain ⟨Yz,A549_2,c549_2,e549,Zf,Zj,Zk,ZT,ZU⟩:=at_T29 ZV.out 1 p549 q549;obtain rfl:Zl = Yz:=(by injection e549);(try simp only [show (1:Int).toNat = 1 from rfl,Nat.reduceMul,Nat.reduceEqDiff,Go.Addr.add,↓reduceIte] at Zf);(try simp only [show (1:Int).toNat = 1 from rfl,Nat.reduceMul,Nat.reduceEqDiff,Go.Addr.add,↓reduceIte] at Zj);(try simp only [show (1:Int).toNat = 1 from rfl,Nat.reduceMul,Nat.reduceEqDiff,Go.Addr.add,↓reduceIte] at Zk);have qi549:(1 < l0_2.length) = True:=eq_true (by omega);(try rw [show ((1:Int)).toNat = 1 from rfl,show 1 * 3 = 3 from rfl] at Zf Zj Zk);have hn549_0:Zl.block ≠ Zc:=Nat.ne_of_lt (Nat.lt_of_lt_of_le (by have:=World.block_lt_of_cell? _ _ Zf;first | rwa [add_block] at this | exact this) ZE.out);have hn549_1:Zl.block ≠ Zc:=Nat.ne_of_lt (Nat.lt_of_lt_of_le (by have:=World.block_lt_of_cell? _ _ Zf;first | rwa [add_block] at this | exact this) ZE.out);have hn549_2:Zl.block ≠ Zc:=Nat.ne_of_lt (Nat.lt_of_lt_of_le (by have:=World.block_lt_of_cell? _ _ Zf;first | rwa [add_block] at this | exact this) ZE.out);replace Zf:=(HB.out.cell (World.block_lt_of_cell? w _ Zf)).trans Zf;replace Zj:=(HB.out.cell (World.block_lt_of_cell? w _ Zj)).trans Zj;replace Zk:=(HB.out.cell (World.block_lt_of_cell? w _ Zk)).trans Zk;have Yg:=aQ ZU;have Yh:=aQ ZT;clear ZU ZT;replace Zf:=(cell_far (p:=⟨Zc,0,none⟩) (by first | (rw [add_block];exact hn549_0) | (show (Addr.add _ _).block ≠ _;rw [add_block];exact hn549_0) | exact hn549_0) (.int .i64 t542)).trans Zf;replace Zj:=(cell_far (p:=⟨Zc,0,none⟩) (by first | (rw [add_block];exact hn549_0) | (show (Addr.add _ _).block ≠ _;rw [add_block];exact hn549_0) | exact hn549_0) (.int .i64 t542)).trans Zj;replace Zk:=(cell_far (p:=⟨Zc,0,none⟩) (by first | (rw [add_block];exact hn549_0) | (show (Addr.add _ _).block ≠ _;rw [add_block];exact hn549_0) | exact hn549_0) (.int .i64 t542)).trans Zk;replace Zf:=(cell_far (p:=⟨Zc,1,none⟩) (by first | (rw [add_block];exact hn549_1) | (show (Addr.add _ _).block ≠ _;rw [add_block];exact hn549_1) | exact hn549_1) (.int .i64 t543)).trans Zf;replace Zj:=(cell_far (p:=⟨Zc,1,none⟩) (by first | (rw [add_block];exact hn549_1) | (show (Addr.add _ _).block ≠ _;rw [add_block];exact hn549_1) | exact hn549_1) (.int .i64 t543)).trans Zj;replace Zk:=(cell_far (p:=⟨Zc,1,none⟩) (by first | (rw [add_block];exact hn549_1) | (show (Addr.add _ _).block ≠ _;rw [add_block];exact hn549_1) | exact hn549_1) (.int .i64 t543)).trans Zk;replace Zf:=(cell_far (p:=⟨Zc,2,none⟩) (by first | (rw [add_block];exact hn549_2) | (show (Addr.add _ _).block ≠ _;rw [add_block];exact hn549_2) | exact hn549_2) (.slice Yv t544.length Yw)).trans Zf;replace Zj:=(cell_far (p:=⟨Zc,2,none⟩) (by first | (rw [add_block];exact hn549_2) | (show (Addr.add _ _).block ≠ _;rw [add_block];exact hn549_2) | exact hn549_2) (.slice Yv t544.length Yw)).trans Zj;replace Zk:=(cell_far (p:=⟨Zc,2,none⟩) (by first | (rw [add_block];exact hn549_2) | (show (Addr.add _ _).block ≠ _;rw [add_block];exact hn549_2) | exact hn549_2) (.slice Yv t544.length Yw)).trans Zk;clear hn549_0;clear hn549_1;clear hn549_2;replace p549:=eq_true p549;replace q549:=eq_true q549) | ((with_reducible refine gate_callee (f:=50) rfl ?_);refine goesL_ (some 55) rfl rfl Try.func50 (by kernel_rfl) rfl #[.agg #[.int .i64 ((rd_T29 l0_2 1).f0),.int .i64 ((rd_T29 l0_2 1).f1),.slice A549_2 ((rd_T29 l0_2 1).f2).length c549_2]] rfl mP ?_;(with_reducible refine (ih k (by omega) ((rd_T29 l0_2 1).f0) ((rd_T29 l0_2 1).f1) _ _ ((rd_T29 l0_2 1).f2) t550 t551 t552 true _ ?Zu ?Zv A49.out).mono ?_);(case Zu=>exact Kd.C_below Yg.out bB);(case Zv=>exact Yh.out);rintro e w89 ⟨v553,rfl,ho0,hb⟩;refine ⟨_,rfl,?_⟩;have Zn:=aQ (Kd.N_lower (Kd.N_mono (ok':=fun k_=>(w.heap.size ≤ k_)∧some k_ ≠ (.slice Yv t544.length Yw:Value).ownBlock∧k_ ≠ Zg∧k_ ≠ Zd∧k_ ≠ Zc) ho0 (fun k_ hk_=>⟨(Nat.le_trans (below_size bB) hk_),(Kd.fresh' (Kd.N_lt (nN ((Kd.N_mono (Kd.N_far (p:=⟨Zc,2,none⟩) (Kd.N_far (p:=⟨Zc,1,none⟩) (Kd.N_far (p:=⟨Zc,0,none⟩) (Kd.N_mono Zi.out (fun k_ hk=>(⟨hk,hk.2⟩:_∧k_ ≠ Zc))) (fun _ hk=>hk.2) (.int .i64 t542)) (fun _ hk=>hk.2) (.int .i64 t543)) (fun _ hk=>hk.2) (.slice Yv t544.length Yw)) (fun _ h_=>h_.1))))) k_ hk_),(Kd.freshB (g:=Zg) (o:=.cells #[.int .i64 a0_0,.int .i64 a0_1,.slice (some Zl) l0_2.length c0_2] 29 (0,0)) bF k_ hk_),(Kd.freshB (g:=Zd) (o:=.cells #[.int .i64 0,.int .i64 0,.slice none 0 0] 29 (0,0)) bF k_ hk_),(Kd.freshB (g:=Zc) (o:=.cells #[.int .i64 t542,.int .i64 t543,.slice Yv t544.length Yw] 29 (0,0)) bP k_ hk_)⟩)) (below_size bB));replace Zi:=aQ (Kd.N_elder' (nN ((Kd.N_mono (Kd.N_far (p:=⟨Zc,2,none⟩) (Kd.N_far (p:=⟨Zc,1,none⟩) (Kd.N_far (p:=⟨Zc,0,none⟩) (Kd.N_mono Zi.out (fun k_ hk=>(⟨hk,hk.2⟩:_∧k_ ≠ Zc))) (fun _ hk=>hk.2) (.int .i64 t542)) (fun _ hk=>hk.2) (.int .i64 t543)) (fun _ hk=>hk.2) (.slice Yv t544.length Yw)) (fun _ h_=>h_.1)))) (Kd.N_base ho0) hb);replace Za:=aQ (blk_below (g:=Zg) (o:=.cells #[.int .i64 a0_0,.int .i64 a0_1,.slice (some Zl) l0_2.length c0_2] 29 (0,0)) bF hb);replace Ze:=aQ (blk_below (g:=Zd) (o:=.cells #[.int .i64 0,.int .i64 0,.slice none 0 0] 29 (0,0)) bF hb);replace Zm:=aQ (blk_below (g:=Zc) (o:=.cells #[.int .i64 t542,.int .i64 t543,.slice Yv t544.length Yw] 29 (0,0)) bP hb);replace HB:=aQ (below_step bB hb);(try clear hb);(try clear ho0)) | ((with_reducible refine gate_dst (N:=6) rfl ?_);refine box1 (N:=6) (cs:=#[.int .i64 0,.int .i64 0,.slice none 0 0]) (t:=29) ?_;intro Zb hg w90 hbox hb;replace Zi:=aQ (Kd.N_below (Kd.N_elderB (nN Zi.out) Zb (Nat.le_of_eq hg.symm)) hb);replace Zn:=aQ (Kd.N_below (Kd.N_elderB (nN Zn.out) Zb (Nat.le_of_eq hg.symm)) hb);have Zp:=aQ (hbox);have YA:=aQ (gB:w.heap.size ≤ Zb);have YV:=YA;replace HB:=aQ (below_step bB hb);have ZB:=aQ ((by rw [hg];exact Nat.ne_of_lt (blk_lt (nB Za.out)):Zg ≠ Zb));have ZZ:=aQ ZB.out.symm;replace Za:=aQ (blk_below (nB Za.out) hb);have ZC:=aQ ((by rw [hg];exact Nat.ne_of_lt (blk_lt (nB Ze.out)):Zd ≠ Zb));have Ya:=aQ ZC.out.symm;replace Ze:=aQ (blk_below (nB Ze.out) hb);have ZD:=aQ ((by rw [hg];exact Nat.ne_of_lt (blk_lt (nB Zm.out)):Zc ≠ Zb));have Yb:=aQ ZD.out.symm;replace Zm:=aQ (blk_below (nB Zm.out) hb);clear hb hbox hg;have Rp:=ZZ.out;have Rq:=ZB.out;have Rr:=Ya.out;have Rs:=ZC.out;have Rt:=Yb.out;have Ru:=ZD.out;obtain ⟨TI,TJ,TK,TL,TM,TN⟩:=cz3 Zp.out;obtain ⟨Yx,Yy,WN⟩:=Kd.N_slice Zn.out;subst WN))
    have n0_:Aside0 (Kd.N k29 29 (((w90.setCell ⟨Zb,0,none⟩ (.int .i64 t550)).setCell ⟨Zb,1,none⟩ (.int .i64 t551)).setCell ⟨Zb,2,none⟩ (.slice Yx t552.length Yy)) w.heap.size (fun k_=>(w.heap.size ≤ k_)∧some k_ ≠ (.slice Yx t552.length Yy:Value).ownBlock∧k_ ≠ Zg∧k_ ≠ Zd∧k_ ≠ Zc∧k_ ≠ Zb) (.slice Yv t544.length Yw) t544):=⟨Kd.N_mono (nFN (g:=Zb) Zi.out (fun k_ hk=>hk.2)) (fun _ hk=>⟨hk.1.1.1.1,⟨hk.1.2,⟨hk.1.1.1.2.1,⟨hk.1.1.1.2.2,⟨hk.1.1.2,hk.2⟩⟩⟩⟩⟩)⟩
    have n1_:Aside0 (Kd.N k29 29 (((w90.setCell ⟨Zb,0,none⟩ (.int .i64 t550)).setCell ⟨Zb,1,none⟩ (.int .i64 t551)).setCell ⟨Zb,2,none⟩ (.slice Yx t552.length Yy)) w.heap.size (fun k_=>(w.heap.size ≤ k_)∧some k_ ≠ (.slice Yv t544.length Yw:Value).ownBlock∧k_ ≠ Zg∧k_ ≠ Zd∧k_ ≠ Zc∧k_ ≠ Zb) (.slice Yx t552.length Yy) t552):=⟨Kd.N_mono (nFN (g:=Zb) Zn.out (fun k_ hk=>hk.2)) (fun _ hk=>⟨hk.1.1,⟨hk.1.2.1,⟨hk.1.2.2.1,⟨hk.1.2.2.2.1,⟨hk.1.2.2.2.2,hk.2⟩⟩⟩⟩⟩)⟩
    have n2_:Aside0 ((((w90.setCell ⟨Zb,0,none⟩ (.int .i64 t550)).setCell ⟨Zb,1,none⟩ (.int .i64 t551)).setCell ⟨Zb,2,none⟩ (.slice Yx t552.length Yy)).heap[Zg]? = some (.cells #[.int .i64 a0_0,.int .i64 a0_1,.slice (some Zl) l0_2.length c0_2] 29 (0,0))):=⟨bF⟩
    have n3_:Aside0 ((((w90.setCell ⟨Zb,0,none⟩ (.int .i64 t550)).setCell ⟨Zb,1,none⟩ (.int .i64 t551)).setCell ⟨Zb,2,none⟩ (.slice Yx t552.length Yy)).heap[Zd]? = some (.cells #[.int .i64 0,.int .i64 0,.slice none 0 0] 29 (0,0))):=⟨bF⟩
    have n4_:Aside0 ((((w90.setCell ⟨Zb,0,none⟩ (.int .i64 t550)).setCell ⟨Zb,1,none⟩ (.int .i64 t551)).setCell ⟨Zb,2,none⟩ (.slice Yx t552.length Yy)).heap[Zc]? = some (.cells #[.int .i64 t542,.int .i64 t543,.slice Yv t544.length Yw] 29 (0,0))):=⟨bF⟩
    have n5_:Aside0 ((((w90.setCell ⟨Zb,0,none⟩ (.int .i64 t550)).setCell ⟨Zb,1,none⟩ (.int .i64 t551)).setCell ⟨Zb,2,none⟩ (.slice Yx t552.length Yy)).heap[Zb]? = some (.cells #[.int .i64 t550,.int .i64 t551,.slice Yx t552.length Yy] 29 (0,0))):=⟨bP⟩
    have n6_:Aside0 (Below w.heap.size w (((w90.setCell ⟨Zb,0,none⟩ (.int .i64 t550)).setCell ⟨Zb,1,none⟩ (.int .i64 t551)).setCell ⟨Zb,2,none⟩ (.slice Yx t552.length Yy))):=⟨bB⟩
    (try clear Zi)
    (try clear Zn)
    (try clear Za)
    (try clear Ze)
    (try clear Zm)
    (try clear Zp)
    (try clear HB)
    generalize (((w90.setCell ⟨Zb,0,none⟩ (.int .i64 t550)).setCell ⟨Zb,1,none⟩ (.int .i64 t551)).setCell ⟨Zb,2,none⟩ (.slice Yx t552.length Yy)) = w96 at n0_ n1_ n2_ n3_ n4_ n5_ n6_ ⊢
    have Zi:=n0_
    have Zn:=n1_
    have Za:=n2_
    have Ze:=n3_
    have Zm:=n4_
    have Zp:=n5_
    have HB:=n6_
    clear n0_ n1_ n2_ n3_ n4_ n5_ n6_
    replace Zi:=aQ (Kd.N_drew Zi.out)
    replace Zn:=aQ (Kd.N_drew Zn.out)
    replace Za:=aQ (blk_drew Za.out)
    replace Ze:=aQ (blk_drew Ze.out)
    replace Zm:=aQ (blk_drew Zm.out)
    replace Zp:=aQ (blk_drew Zp.out)
    replace HB:=aQ (below_drew1 HB.out)
    have p557:0 ≤ (0:Int):=(by omega)
    have q557:0 < (l0_2.length:Int):=of_decide_eq_true (by first | (with_reducible assumption) | assumption)
    obtain ⟨Xc,A557_2,c557_2,e557,ZF,ZG,ZH,YK,YL⟩:=at_T29 ZV.out 0 p557 q557
    have ZI:=ZH
    (try rw [show ((0:Int)).toNat = 0 from rfl] at ZI)
    (try rw [show 0 * 3 = 0 from rfl] at ZI)
    (try rw [Addr.add_zero'] at ZI)
    have ZJ:=ZG
    (try rw [show ((0:Int)).toNat = 0 from rfl] at ZJ)
    (try rw [show 0 * 3 = 0 from rfl] at ZJ)
    (try rw [Addr.add_zero'] at ZJ)
    have ZK:=ZF
    (try rw [show ((0:Int)).toNat = 0 from rfl] at ZK)
    (try rw [show 0 * 3 = 0 from rfl] at ZK)
    (try rw [Addr.add_zero'] at ZK)
    obtain rfl:Zl = Xc:=(by injection e557)
    have qi557:(0 < l0_2.length) = True:=eq_true (by omega)
    (try rw [show ((0:Int)).toNat = 0 from rfl,show 0 * 3 = 0 from rfl] at ZF ZG ZH)
    (try rw [Addr.add_zero'] at ZF)
    (try rw [Addr.add_zero'] at ZG)
    (try rw [Addr.add_zero'] at ZH)
    replace ZF:=(HB.out.cell (World.block_lt_of_cell? w _ ZF)).trans ZF
    replace ZG:=(HB.out.cell (World.block_lt_of_cell? w _ ZG)).trans ZG
    replace ZH:=(HB.out.cell (World.block_lt_of_cell? w _ ZH)).trans ZH
    have YM:=aQ YL
    have YR:=aQ YK
    clear YL YK
    replace p557:=eq_true p557
    replace q557:=eq_true q557
    have p558:0 ≤ (1:Int):=(by omega)
    have q558:1 < (l0_2.length:Int):=of_decide_eq_true (by first | (with_reducible assumption) | assumption)
    obtain ⟨Xd,A558_2,c558_2,e558,ZL,ZM,ZN,YN,YO⟩:=at_T29 ZV.out 1 p558 q558
    have ZO:=ZN
    (try rw [show ((1:Int)).toNat = 1 from rfl] at ZO)
    (try rw [show 1 * 3 = 3 from rfl] at ZO)
    (try simp only [Nat.reduceMul,Nat.reduceEqDiff,Go.Addr.add,↓reduceIte] at ZO)
    have ZP:=ZM
    (try rw [show ((1:Int)).toNat = 1 from rfl] at ZP)
    (try rw [show 1 * 3 = 3 from rfl] at ZP)
    (try simp only [Nat.reduceMul,Nat.reduceEqDiff,Go.Addr.add,↓reduceIte] at ZP)
    have ZQ:=ZL
    (try rw [show ((1:Int)).toNat = 1 from rfl] at ZQ)
    (try rw [show 1 * 3 = 3 from rfl] at ZQ)
    (try simp only [Nat.reduceMul,Nat.reduceEqDiff,Go.Addr.add,↓reduceIte] at ZQ)
    obtain rfl:Zl = Xd:=(by injection e558)
    (try simp only [show (1:Int).toNat = 1 from rfl,Nat.reduceMul,Nat.reduceEqDiff,Go.Addr.add,↓reduceIte] at ZL)
    (try simp only [show (1:Int).toNat = 1 from rfl,Nat.reduceMul,Nat.reduceEqDiff,Go.Addr.add,↓reduceIte] at ZM)
    (try simp only [show (1:Int).toNat = 1 from rfl,Nat.reduceMul,Nat.reduceEqDiff,Go.Addr.add,↓reduceIte] at ZN)
    have qi558:(1 < l0_2.length) = True:=eq_true (by omega)
    (try rw [show ((1:Int)).toNat = 1 from rfl,show 1 * 3 = 3 from rfl] at ZL ZM ZN)
    replace ZL:=(HB.out.cell (World.block_lt_of_cell? w _ ZL)).trans ZL
    replace ZM:=(HB.out.cell (World.block_lt_of_cell? w _ ZM)).trans ZM
    replace ZN:=(HB.out.cell (World.block_lt_of_cell? w _ ZN)).trans ZN
    have YP:=aQ YO
    have YS:=aQ YN
    clear YO YN
    replace p558:=eq_true p558
    replace q558:=eq_true q558
    refine start_ (n:=22) (S:=fun w'=>w'.cell? ⟨Zg,0,none⟩ = some (.int .i64 a0_0)∧w'.cell? ⟨Zg,1,none⟩ = some (.int .i64 a0_1)∧w'.cell? ⟨Zg,2,none⟩ = some (.slice (some Zl) l0_2.length c0_2)∧w'.cell? Zl = some (.int .i64 ((rd_T29 l0_2 0).f0))∧w'.cell? ⟨Zl.block,Zl.off + 1,none⟩ = some (.int .i64 ((rd_T29 l0_2 0).f1))∧w'.cell? ⟨Zl.block,Zl.off + 2,none⟩ = some (.slice A557_2 ((rd_T29 l0_2 0).f2).length c557_2)∧w'.cell? ⟨Zl.block,Zl.off + 3,none⟩ = some (.int .i64 ((rd_T29 l0_2 1).f0))∧w'.cell? ⟨Zl.block,Zl.off + 3 + 1,none⟩ = some (.int .i64 ((rd_T29 l0_2 1).f1))∧w'.cell? ⟨Zl.block,Zl.off + 3 + 2,none⟩ = some (.slice A558_2 ((rd_T29 l0_2 1).f2).length c558_2)) (ds:=[]) (bn 22 0) (by kernel_rfl) rfl rfl ⟨(blk_cell Za.out 0).trans rfl,(blk_cell Za.out 1).trans rfl,(blk_cell Za.out 2).trans rfl,((HB.out.cell (World.block_lt_of_cell? w _ ZK)).trans ZK),((HB.out.cell (World.block_lt_of_cell? w _ ZJ)).trans ZJ),((HB.out.cell (World.block_lt_of_cell? w _ ZI)).trans ZI),((HB.out.cell (World.block_lt_of_cell? w _ ZQ)).trans ZQ),((HB.out.cell (World.block_lt_of_cell? w _ ZP)).trans ZP),((HB.out.cell (World.block_lt_of_cell? w _ ZO)).trans ZO)⟩ (fun hHeld=>?_);refine with_tabW spec_l17Pass.tab12 spec_l17Pass.bits12 (fun HT_ HW_=>?_)
    generalize w96.drew = w97 at Zi Zn Za Ze Zm Zp HB YM YP ZF ZG ZH ZL ZM ZN hHeld ⊢
    refine pur (i:=0) (N:=some 58) (bn 22 1) ?_
    refine pur (i:=1) (N:=some 59) (bn 22 3) ?_
    refine pur (i:=2) (N:=some 60) (bn 22 7) ?_
    refine pur (i:=3) (N:=some 61) (bn 22 15) ?_
    refine pur (i:=4) (N:=some 62) (bn 22 31) ?_
    refine pur (i:=5) (N:=some 63) (bn 22 63) ?_
    refine pur (i:=6) (N:=some 64) (bn 22 127) ?_
    refine pur (i:=7) (N:=some 65) (bn 22 255) ?_
    refine tak (i:=8) (N:=some 66) (bn 22 511) ?_
    refine pur (i:=9) (N:=some 67) (bn 22 1023) ?_
    refine pur (i:=10) (N:=some 68) (bn 22 2047) ?_
    refine pur (i:=11) (N:=some 69) (bn 22 4095) ?_
    refine pur (i:=15) (N:=some 73) (bn 22 36863) ?_
    refine tak (i:=12) (N:=some 70) (bn 22 40959) ?_
    refine pur (i:=13) (N:=some 71) (bn 22 49151) ?_
    refine tak (i:=14) (N:=some 72) (bn 22 65535) ?_
    refine tak (i:=16) (N:=some 74) (bn 22 131071) ?_
    refine pur (i:=17) (N:=some 75) (bn 22 262143) ?_
    refine tak (i:=18) (N:=some 76) (bn 22 524287) ?_
    refine one_ (i:=19) (N:=some 77) (bn 22 1048575) rfl rfl (one_of HT_.out (by kernel_rfl)) (by decide) (fun K hK=>?_)
    refine goes1 Try.func65 #[.agg #[.int .i64 ((rd_T29 l0_2 0).f0),.int .i64 ((rd_T29 l0_2 0).f1),.slice A557_2 ((rd_T29 l0_2 0).f2).length c557_2],.agg #[.int .i64 ((rd_T29 l0_2 1).f0),.int .i64 ((rd_T29 l0_2 1).f1),.slice A558_2 ((rd_T29 l0_2 1).f2).length c558_2]] ?_
    with_reducible refine (spec_l17Meet.calls k ((rd_T29 l0_2 0).f0) ((rd_T29 l0_2 0).f1) _ _ ((rd_T29 l0_2 0).f2) ((rd_T29 l0_2 1).f0) ((rd_T29 l0_2 1).f1) _ _ ((rd_T29 l0_2 1).f2) false _ ?Zu ?Zv ?Xe ?Xf A53.out).mono ?_
    (case Zu=>repeat (first | exact (Kd.C_below YM.out HB.out) | (with_reducible refine Kd.C_alloc ?_ _) | (with_reducible refine Kd.C_drewN ?_ _) | (with_reducible refine Kd.C_drew ?_)))
    (case Zv=>exact YR.out)
    (case Xe=>repeat (first | exact (Kd.C_below YP.out HB.out) | (with_reducible refine Kd.C_alloc ?_ _) | (with_reducible refine Kd.C_drewN ?_ _) | (with_reducible refine Kd.C_drew ?_)))
    (case Xf=>exact YS.out)
    rintro e w98 ⟨rfl,hb⟩
    refine ⟨_,rfl,?_⟩
    replace Zi:=aQ (Kd.N_below (nN Zi.out) hb)
    replace Zn:=aQ (Kd.N_below (nN Zn.out) hb)
    replace Za:=aQ (blk_below (nB Za.out) hb)
    replace Ze:=aQ (blk_below (nB Ze.out) hb)
    replace Zm:=aQ (blk_below (nB Zm.out) hb)
    replace Zp:=aQ (blk_below (nB Zp.out) hb)
    replace HB:=aQ (below_step bB hb)
    (try clear hb)
    refine hK.out _ _ ⟨(blk_cell Za.out 0).trans rfl,(blk_cell Za.out 1).trans rfl,(blk_cell Za.out 2).trans rfl,((HB.out.cell (World.block_lt_of_cell? w _ ZK)).trans ZK),((HB.out.cell (World.block_lt_of_cell? w _ ZJ)).trans ZJ),((HB.out.cell (World.block_lt_of_cell? w _ ZI)).trans ZI),((HB.out.cell (World.block_lt_of_cell? w _ ZQ)).trans ZQ),((HB.out.cell (World.block_lt_of_cell? w _ ZP)).trans ZP),((HB.out.cell (World.block_lt_of_cell? w _ ZO)).trans ZO)⟩ (fun hHeld=>?_)
    clear hK K
    refine nrm (N:=some 77) ?_
    refine pur (i:=20) (N:=some 78) (bn 22 2097151) ?_
    refine pur (i:=21) (N:=some 79) (bn 22 4194303) ?_
    refine done_ (done_of HT_.out (by kernel_rfl)) ?_
    obtain ⟨TO,TP,TQ,TR,TS,TT⟩:=cz3 Za.out
    obtain ⟨WO,WP,WQ,WR,WS,WT⟩:=cz3 Zm.out
    obtain ⟨WU,WV,WW,WX,WY,WZ⟩:=cz3 Zp.out
    try go_wp2_with (first | ((with_reducible refine gate_callee (f:=66) rfl ?_);refine goesL_ (some 85) rfl rfl Try.func66 (by kernel_rfl) rfl #[.int .i64 a0_0,.agg #[.int .i64 t542,.int .i64 t543,.slice Yv t544.length Yw],.agg #[.int .i64 t550,.int .i64 t551,.slice Yx t552.length Yy]] rfl mP ?_;(with_reducible refine (spec_l17Two.calls a0_0 t542 t543 (fun k_=>((w.heap.size ≤ k_)∧(some k_ ≠ (.slice Yx t552.length Yy:Value).ownBlock∧(k_ ≠ Zg∧(k_ ≠ Zd∧(k_ ≠ Zc∧k_ ≠ Zb)))))) _ _ t544 t550 t551 (fun k_=>((w.heap.size ≤ k_)∧(some k_ ≠ (.slice Yv t544.length Yw:Value).ownBlock∧(k_ ≠ Zg∧(k_ ≠ Zd∧(k_ ≠ Zc∧k_ ≠ Zb)))))) _ _ t552 t560 t561 t562 _ ?Zu ?Zv A77.out).mono ?_);(case Zu=>exact Kd.N_V (Zi.out));(case Zv=>exact Kd.N_V (Zn.out));rintro e w102 ⟨v563,rfl,ho0,hb⟩;refine ⟨_,rfl,?_⟩;replace Zi:=aQ (Kd.N_elder' (nN Zi.out) (Kd.N_base ho0) hb);replace Zn:=aQ (Kd.N_elder' (nN Zn.out) (Kd.N_base ho0) hb);have Xl:=aQ (Kd.N_lower (Kd.N_mono (ok':=fun k_=>(w.heap.size ≤ k_)∧k_ ≠ Zg∧k_ ≠ Zd∧k_ ≠ Zc∧k_ ≠ Zb) ho0 (fun k_ hk_=>⟨Or.elim hk_ (fun hs_=>Or.elim hs_ (fun hs_=>hs_.1) (fun hs_=>hs_.1)) (fun hn_=>(Nat.le_trans (below_size bB) hn_)),Or.elim hk_ (fun hs_=>Or.elim hs_ (fun hs_=>hs_.2.2.1) (fun hs_=>hs_.2.2.1)) (fun hn_=>(Kd.freshB (nB Za.out) k_ hn_)),Or.elim hk_ (fun hs_=>Or.elim hs_ (fun hs_=>hs_.2.2.2.1) (fun hs_=>hs_.2.2.2.1)) (fun hn_=>(Kd.freshB (nB Ze.out) k_ hn_)),Or.elim hk_ (fun hs_=>Or.elim hs_ (fun hs_=>hs_.2.2.2.2.1) (fun hs_=>hs_.2.2.2.2.1)) (fun hn_=>(Kd.freshB (nB Zm.out) k_ hn_)),Or.elim hk_ (fun hs_=>Or.elim hs_ (fun hs_=>hs_.2.2.2.2.2) (fun hs_=>hs_.2.2.2.2.2)) (fun hn_=>(Kd.freshB (nB Zp.out) k_ hn_))⟩)) (below_size bB));replace Za:=aQ (blk_below (nB Za.out) hb);replace Ze:=aQ (blk_below (nB Ze.out) hb);replace Zm:=aQ (blk_below (nB Zm.out) hb);replace Zp:=aQ (blk_below (nB Zp.out) hb);replace HB:=aQ (below_step bB hb);(try clear hb);(try clear ho0);obtain ⟨Va,Vb,Vc,Vd,Ve,Vf⟩:=cz3 Ze.out;obtain ⟨XA,XB,XC⟩:=Kd.N_slice Xl.out;subst XC))
    refine bodyPost_ret (results_ct rfl _ _ Zd 29 #[.int .i64 t560,.int .i64 t561,.slice XA t562.length XB] (0,0) _ rfl bP Try.underlying29 rfl (by kernel_rfl)) rfl ?_
    exact ⟨_,rfl,by (with_reducible repeat (first | apply Kd.N_alloc | apply Kd.N_drewN | apply Kd.N_drew));exact Kd.N_mono (nFN (g:=Zd) Xl.out (fun k_ hk=>hk.2.2.1)) (fun _ hk=>hk.1),bB⟩
  ·replace c51:=Bool.eq_false_iff.mpr c51
   subst c51
   have H1:(some (0,0,([]:List (S29)),false)) = some (r1,r2,r3,r4):=by rw [if_neg (show ¬ (false = true) by decide)] at H;exact H
   clear H
   have H:=H1
   clear H1
   simp only [Option.some.injEq,Prod.mk.injEq] at H
   obtain ⟨rfl,rfl,rfl,rfl⟩:=H
   go_enter Try.func50,Try.ntmps50
   try go_wp2_with (first | ((with_reducible refine gate_dst (N:=1) rfl ?_);refine box1 (N:=1) (cs:=#[.int .i64 a0_0,.int .i64 a0_1,.slice A0_2 l0_2.length c0_2]) (t:=29) ?_;intro Zg hg w132 hbox hb;have Za:=aQ (hbox);have ZW:=aQ (gB:w.heap.size ≤ Zg);have YF:=ZW;replace HB:=aQ (below_step bB hb);clear hb hbox hg) | ((with_reducible refine gate_dst (N:=2) rfl ?_);refine box1 (N:=2) (cs:=#[.int .i64 0,.int .i64 0,.slice none 0 0]) (t:=29) ?_;intro Zd hg w133 hbox hb;have Ze:=aQ (hbox);have Zo:=aQ (gB:w.heap.size ≤ Zd);have YG:=Zo;replace HB:=aQ (below_step bB hb);have Zh:=aQ ((by rw [hg];exact Nat.ne_of_lt (blk_lt (nB Za.out)):Zg ≠ Zd));have Zq:=aQ Zh.out.symm;replace Za:=aQ (blk_below (nB Za.out) hb);clear hb hbox hg;have Ss:=Zh.out;have St:=Zq.out;obtain ⟨Vg,Vh,Vi,Vj,Vk,Vl⟩:=cz3 Za.out;have p541:0 ≤ (0:Int):=(by omega);have q541:0 < (l0_2.length:Int):=of_decide_eq_true (by first | (with_reducible assumption) | assumption);obtain ⟨Zl,A541_2,c541_2,e541,Zr,Zs,Zt,ZR,ZS⟩:=at_T29 ZV.out 0 p541 q541;cases e541;have qi541:(0 < l0_2.length) = True:=eq_true (by omega);(try rw [show ((0:Int)).toNat = 0 from rfl,show 0 * 3 = 0 from rfl] at Zr Zs Zt);(try rw [Addr.add_zero'] at Zr);(try rw [Addr.add_zero'] at Zs);(try rw [Addr.add_zero'] at Zt);replace Zr:=(HB.out.cell (World.block_lt_of_cell? w _ Zr)).trans Zr;replace Zs:=(HB.out.cell (World.block_lt_of_cell? w _ Zs)).trans Zs;replace Zt:=(HB.out.cell (World.block_lt_of_cell? w _ Zt)).trans Zt;have Yc:=aQ ZS;have Yd:=aQ ZR;clear ZS ZR;replace p541:=eq_true p541;replace q541:=eq_true q541) | ((with_reducible refine gate_callee (f:=50) rfl ?_);refine goesL_ (some 47) rfl rfl Try.func50 (by kernel_rfl) rfl #[.agg #[.int .i64 ((rd_T29 l0_2 0).f0),.int .i64 ((rd_T29 l0_2 0).f1),.slice A541_2 ((rd_T29 l0_2 0).f2).length c541_2]] rfl mP ?_;(with_reducible refine (ih k (by omega) ((rd_T29 l0_2 0).f0) ((rd_T29 l0_2 0).f1) _ _ ((rd_T29 l0_2 0).f2) t542 t543 t544 true _ ?Zu ?Zv A47.out).mono ?_);(case Zu=>repeat (first | exact (Kd.C_below Yc.out HB.out) | (with_reducible refine Kd.C_alloc ?_ _) | (with_reducible refine Kd.C_drewN ?_ _) | (with_reducible refine Kd.C_drew ?_)));(case Zv=>exact Yd.out);rintro e w136 ⟨v545,rfl,ho0,hb⟩;refine ⟨_,rfl,?_⟩;have Zi:=aQ (Kd.N_lower (Kd.N_mono (ok':=fun k_=>(w.heap.size ≤ k_)∧k_ ≠ Zg∧k_ ≠ Zd) ho0 (fun k_ hk_=>⟨(Nat.le_trans (below_size bB) hk_),(Kd.freshB (nB Za.out) k_ hk_),(Kd.freshB (nB Ze.out) k_ hk_)⟩)) (below_size bB));replace Za:=aQ (blk_below (nB Za.out) hb);replace Ze:=aQ (blk_below (nB Ze.out) hb);replace HB:=aQ (below_step bB hb);(try clear hb);(try clear ho0)) | ((with_reducible refine gate_dst (N:=4) rfl ?_);refine box1 (N:=4) (cs:=#[.int .i64 0,.int .i64 0,.slice none 0 0]) (t:=29) ?_;intro Zc hg w137 hbox hb;replace Zi:=aQ (Kd.N_below (Kd.N_elderB (nN Zi.out) Zc (Nat.le_of_eq hg.symm)) hb);have Zm:=aQ (hbox);have ZE:=aQ (gB:w.heap.size ≤ Zc);have YU:=ZE;replace HB:=aQ (below_step bB hb);have Zz:=aQ ((by rw [hg];exact Nat.ne_of_lt (blk_lt (nB Za.out)):Zg ≠ Zc));have ZX:=aQ Zz.out.symm;replace Za:=aQ (blk_below (nB Za.out) hb);have ZA:=aQ ((by rw [hg];exact Nat.ne_of_lt (blk_lt (nB Ze.out)):Zd ≠ Zc));have ZY:=aQ ZA.out.symm;replace Ze:=aQ (blk_below (nB Ze.out) hb);clear hb hbox hg;have Su:=ZX.out;have Sv:=Zz.out;have Sw:=ZY.out;have Sx:=ZA.out;obtain ⟨Vm,Vn,Vo,Vp,Vq,Vr⟩:=cz3 Zm.out;obtain ⟨Yk,Yl,XD⟩:=Kd.N_slice Zi.out;subst XD;obtain ⟨Vs,Vt,Vu,Vv,Vw,Vx⟩:=cz3 Za.out;have p549:0 ≤ (1:Int):=(by omega);have q549:1 < (l0_2.length:Int):=of_decide_eq_true (by first | (with_reducible assumption) | assumption);obtain ⟨Yz,A549_2,c549_2,e549,Zf,Zj,Zk,ZT,ZU⟩:=at_T29 ZV.out 1 p549 q549;obtain rfl:Zl = Yz:=(by injection e549);(try simp only [show (1:Int).toNat = 1 from rfl,Nat.reduceMul,Nat.reduceEqDiff,Go.Addr.add,↓reduceIte] at Zf);(try simp only [show (1:Int).toNat = 1 from rfl,Nat.reduceMul,Nat.reduceEqDiff,Go.Addr.add,↓reduceIte] at Zj);(try simp only [show (1:Int).toNat = 1 from rfl,Nat.reduceMul,Nat.reduceEqDiff,Go.Addr.add,↓reduceIte] at Zk);have qi549:(1 < l0_2.length) = True:=eq_true (by omega);(try rw [show ((1:Int)).toNat = 1 from rfl,show 1 * 3 = 3 from rfl] at Zf Zj Zk);have hn549_0:Zl.block ≠ Zc:=Nat.ne_of_lt (Nat.lt_of_lt_of_le (by have:=World.block_lt_of_cell? _ _ Zf;first | rwa [add_block] at this | exact this) ZE.out);have hn549_1:Zl.block ≠ Zc:=Nat.ne_of_lt (Nat.lt_of_lt_of_le (by have:=World.block_lt_of_cell? _ _ Zf;first | rwa [add_block] at this | exact this) ZE.out);have hn549_2:Zl.block ≠ Zc:=Nat.ne_of_lt (Nat.lt_of_lt_of_le (by have:=World.block_lt_of_cell? _ _ Zf;first | rwa [add_block] at this | exact this) ZE.out);replace Zf:=(HB.out.cell (World.block_lt_of_cell? w _ Zf)).trans Zf;replace Zj:=(HB.out.cell (World.block_lt_of_cell? w _ Zj)).trans Zj;replace Zk:=(HB.out.cell (World.block_lt_of_cell? w _ Zk)).trans Zk;have Yg:=aQ ZU;have Yh:=aQ ZT;clear ZU ZT;replace Zf:=(cell_far (p:=⟨Zc,0,none⟩) (by first | (rw [add_block];exact hn549_0) | (show (Addr.add _ _).block ≠ _;rw [add_block];exact hn549_0) | exact hn549_0) (.int .i64 t542)).trans Zf;replace Zj:=(cell_far (p:=⟨Zc,0,none⟩) (by first | (rw [add_block];exact hn549_0) | (show (Addr.add _ _).block ≠ _;rw [add_block];exact hn549_0) | exact hn549_0) (.int .i64 t542)).trans Zj;replace Zk:=(cell_far (p:=⟨Zc,0,none⟩) (by first | (rw [add_block];exact hn549_0) | (show (Addr.add _ _).block ≠ _;rw [add_block];exact hn549_0) | exact hn549_0) (.int .i64 t542)).trans Zk;replace Zf:=(cell_far (p:=⟨Zc,1,none⟩) (by first | (rw [add_block];exact hn549_1) | (show (Addr.add _ _).block ≠ _;rw [add_block];exact hn549_1) | exact hn549_1) (.int .i64 t543)).trans Zf;replace Zj:=(cell_far (p:=⟨Zc,1,none⟩) (by first | (rw [add_block];exact hn549_1) | (show (Addr.add _ _).block ≠ _;rw [add_block];exact hn549_1) | exact hn549_1) (.int .i64 t543)).trans Zj;replace Zk:=(cell_far (p:=⟨Zc,1,none⟩) (by first | (rw [add_block];exact hn549_1) | (show (Addr.add _ _).block ≠ _;rw [add_block];exact hn549_1) | exact hn549_1) (.int .i64 t543)).trans Zk;replace Zf:=(cell_far (p:=⟨Zc,2,none⟩) (by first | (rw [add_block];exact hn549_2) | (show (Addr.add _ _).block ≠ _;rw [add_block];exact hn549_2) | exact hn549_2) (.slice Yk t544.length Yl)).trans Zf;replace Zj:=(cell_far (p:=⟨Zc,2,none⟩) (by first | (rw [add_block];exact hn549_2) | (show (Addr.add _ _).block ≠ _;rw [add_block];exact hn549_2) | exact hn549_2) (.slice Yk t544.length Yl)).trans Zj;replace Zk:=(cell_far (p:=⟨Zc,2,none⟩) (by first | (rw [add_block];exact hn549_2) | (show (Addr.add _ _).block ≠ _;rw [add_block];exact hn549_2) | exact hn549_2) (.slice Yk t544.length Yl)).trans Zk;clear hn549_0;clear hn549_1;clear hn549_2;replace p549:=eq_true p549;replace q549:=eq_true q549) | ((with_reducible refine gate_callee (f:=50) rfl ?_);refine goesL_ (some 55) rfl rfl Try.func50 (by kernel_rfl) rfl #[.agg #[.int .i64 ((rd_T29 l0_2 1).f0),.int .i64 ((rd_T29 l0_2 1).f1),.slice A549_2 ((rd_T29 l0_2 1).f2).length c549_2]] rfl mP ?_;(with_reducible refine (ih k (by omega) ((rd_T29 l0_2 1).f0) ((rd_T29 l0_2 1).f1) _ _ ((rd_T29 l0_2 1).f2) t550 t551 t552 false _ ?Zu ?Zv A49.out).mono ?_);(case Zu=>exact Kd.C_below Yg.out bB);(case Zv=>exact Yh.out);rintro e w143 ⟨v553,rfl,ho0,hb⟩;refine ⟨_,rfl,?_⟩;have Zn:=aQ (Kd.N_lower (Kd.N_mono (ok':=fun k_=>(w.heap.size ≤ k_)∧some k_ ≠ (.slice Yk t544.length Yl:Value).ownBlock∧k_ ≠ Zg∧k_ ≠ Zd∧k_ ≠ Zc) ho0 (fun k_ hk_=>⟨(Nat.le_trans (below_size bB) hk_),(Kd.fresh' (Kd.N_lt (nN ((Kd.N_mono (Kd.N_far (p:=⟨Zc,2,none⟩) (Kd.N_far (p:=⟨Zc,1,none⟩) (Kd.N_far (p:=⟨Zc,0,none⟩) (Kd.N_mono Zi.out (fun k_ hk=>(⟨hk,hk.2⟩:_∧k_ ≠ Zc))) (fun _ hk=>hk.2) (.int .i64 t542)) (fun _ hk=>hk.2) (.int .i64 t543)) (fun _ hk=>hk.2) (.slice Yk t544.length Yl)) (fun _ h_=>h_.1))))) k_ hk_),(Kd.freshB (g:=Zg) (o:=.cells #[.int .i64 a0_0,.int .i64 a0_1,.slice (some Zl) l0_2.length c0_2] 29 (0,0)) bF k_ hk_),(Kd.freshB (g:=Zd) (o:=.cells #[.int .i64 0,.int .i64 0,.slice none 0 0] 29 (0,0)) bF k_ hk_),(Kd.freshB (g:=Zc) (o:=.cells #[.int .i64 t542,.int .i64 t543,.slice Yk t544.length Yl] 29 (0,0)) bP k_ hk_)⟩)) (below_size bB));replace Zi:=aQ (Kd.N_elder' (nN ((Kd.N_mono (Kd.N_far (p:=⟨Zc,2,none⟩) (Kd.N_far (p:=⟨Zc,1,none⟩) (Kd.N_far (p:=⟨Zc,0,none⟩) (Kd.N_mono Zi.out (fun k_ hk=>(⟨hk,hk.2⟩:_∧k_ ≠ Zc))) (fun _ hk=>hk.2) (.int .i64 t542)) (fun _ hk=>hk.2) (.int .i64 t543)) (fun _ hk=>hk.2) (.slice Yk t544.length Yl)) (fun _ h_=>h_.1)))) (Kd.N_base ho0) hb);replace Za:=aQ (blk_below (g:=Zg) (o:=.cells #[.int .i64 a0_0,.int .i64 a0_1,.slice (some Zl) l0_2.length c0_2] 29 (0,0)) bF hb);replace Ze:=aQ (blk_below (g:=Zd) (o:=.cells #[.int .i64 0,.int .i64 0,.slice none 0 0] 29 (0,0)) bF hb);replace Zm:=aQ (blk_below (g:=Zc) (o:=.cells #[.int .i64 t542,.int .i64 t543,.slice Yk t544.length Yl] 29 (0,0)) bP hb);replace HB:=aQ (below_step bB hb);(try clear hb);(try clear ho0)) | ((with_reducible refine gate_dst (N:=6) rfl ?_);refine box1 (N:=6) (cs:=#[.int .i64 0,.int .i64 0,.slice none 0 0]) (t:=29) ?_;intro Zb hg w144 hbox hb;replace Zi:=aQ (Kd.N_below (Kd.N_elderB (nN Zi.out) Zb (Nat.le_of_eq hg.symm)) hb);replace Zn:=aQ (Kd.N_below (Kd.N_elderB (nN Zn.out) Zb (Nat.le_of_eq hg.symm)) hb);have Zp:=aQ (hbox);have YA:=aQ (gB:w.heap.size ≤ Zb);have YV:=YA;replace HB:=aQ (below_step bB hb);have ZB:=aQ ((by rw [hg];exact Nat.ne_of_lt (blk_lt (nB Za.out)):Zg ≠ Zb));have ZZ:=aQ ZB.out.symm;replace Za:=aQ (blk_below (nB Za.out) hb);have ZC:=aQ ((by rw [hg];exact Nat.ne_of_lt (blk_lt (nB Ze.out)):Zd ≠ Zb));have Ya:=aQ ZC.out.symm;replace Ze:=aQ (blk_below (nB Ze.out) hb);have ZD:=aQ ((by rw [hg];exact Nat.ne_of_lt (blk_lt (nB Zm.out)):Zc ≠ Zb));have Yb:=aQ ZD.out.symm;replace Zm:=aQ (blk_below (nB Zm.out) hb);clear hb hbox hg;have Sy:=ZZ.out;have Sz:=ZB.out;have SA:=Ya.out;have SB:=ZC.out;have SC:=Yb.out;have SD:=ZD.out;obtain ⟨Vy,Vz,VA,VB,VC,VD⟩:=cz3 Zp.out;obtain ⟨Ym,Yn,XE⟩:=Kd.N_slice Zn.out;subst XE))
   have n0_:Aside0 (Kd.N k29 29 (((w144.setCell ⟨Zb,0,none⟩ (.int .i64 t550)).setCell ⟨Zb,1,none⟩ (.int .i64 t551)).setCell ⟨Zb,2,none⟩ (.slice Ym t552.length Yn)) w.heap.size (fun k_=>(w.heap.size ≤ k_)∧some k_ ≠ (.slice Ym t552.length Yn:Value).ownBlock∧k_ ≠ Zg∧k_ ≠ Zd∧k_ ≠ Zc∧k_ ≠ Zb) (.slice Yk t544.length Yl) t544):=⟨Kd.N_mono (nFN (g:=Zb) Zi.out (fun k_ hk=>hk.2)) (fun _ hk=>⟨hk.1.1.1.1,⟨hk.1.2,⟨hk.1.1.1.2.1,⟨hk.1.1.1.2.2,⟨hk.1.1.2,hk.2⟩⟩⟩⟩⟩)⟩
   have n1_:Aside0 (Kd.N k29 29 (((w144.setCell ⟨Zb,0,none⟩ (.int .i64 t550)).setCell ⟨Zb,1,none⟩ (.int .i64 t551)).setCell ⟨Zb,2,none⟩ (.slice Ym t552.length Yn)) w.heap.size (fun k_=>(w.heap.size ≤ k_)∧some k_ ≠ (.slice Yk t544.length Yl:Value).ownBlock∧k_ ≠ Zg∧k_ ≠ Zd∧k_ ≠ Zc∧k_ ≠ Zb) (.slice Ym t552.length Yn) t552):=⟨Kd.N_mono (nFN (g:=Zb) Zn.out (fun k_ hk=>hk.2)) (fun _ hk=>⟨hk.1.1,⟨hk.1.2.1,⟨hk.1.2.2.1,⟨hk.1.2.2.2.1,⟨hk.1.2.2.2.2,hk.2⟩⟩⟩⟩⟩)⟩
   have n2_:Aside0 ((((w144.setCell ⟨Zb,0,none⟩ (.int .i64 t550)).setCell ⟨Zb,1,none⟩ (.int .i64 t551)).setCell ⟨Zb,2,none⟩ (.slice Ym t552.length Yn)).heap[Zg]? = some (.cells #[.int .i64 a0_0,.int .i64 a0_1,.slice (some Zl) l0_2.length c0_2] 29 (0,0))):=⟨bF⟩
   have n3_:Aside0 ((((w144.setCell ⟨Zb,0,none⟩ (.int .i64 t550)).setCell ⟨Zb,1,none⟩ (.int .i64 t551)).setCell ⟨Zb,2,none⟩ (.slice Ym t552.length Yn)).heap[Zd]? = some (.cells #[.int .i64 0,.int .i64 0,.slice none 0 0] 29 (0,0))):=⟨bF⟩
   have n4_:Aside0 ((((w144.setCell ⟨Zb,0,none⟩ (.int .i64 t550)).setCell ⟨Zb,1,none⟩ (.int .i64 t551)).setCell ⟨Zb,2,none⟩ (.slice Ym t552.length Yn)).heap[Zc]? = some (.cells #[.int .i64 t542,.int .i64 t543,.slice Yk t544.length Yl] 29 (0,0))):=⟨bF⟩
   have n5_:Aside0 ((((w144.setCell ⟨Zb,0,none⟩ (.int .i64 t550)).setCell ⟨Zb,1,none⟩ (.int .i64 t551)).setCell ⟨Zb,2,none⟩ (.slice Ym t552.length Yn)).heap[Zb]? = some (.cells #[.int .i64 t550,.int .i64 t551,.slice Ym t552.length Yn] 29 (0,0))):=⟨bP⟩
   have n6_:Aside0 (Below w.heap.size w (((w144.setCell ⟨Zb,0,none⟩ (.int .i64 t550)).setCell ⟨Zb,1,none⟩ (.int .i64 t551)).setCell ⟨Zb,2,none⟩ (.slice Ym t552.length Yn))):=⟨bB⟩
   (try clear Zi)
   (try clear Zn)
   (try clear Za)
   (try clear Ze)
   (try clear Zm)
   (try clear Zp)
   (try clear HB)
   generalize (((w144.setCell ⟨Zb,0,none⟩ (.int .i64 t550)).setCell ⟨Zb,1,none⟩ (.int .i64 t551)).setCell ⟨Zb,2,none⟩ (.slice Ym t552.length Yn)) = w150 at n0_ n1_ n2_ n3_ n4_ n5_ n6_ ⊢
   have Zi:=n0_
   have Zn:=n1_
   have Za:=n2_
   have Ze:=n3_
   have Zm:=n4_
   have Zp:=n5_
   have HB:=n6_
   clear n0_ n1_ n2_ n3_ n4_ n5_ n6_
   replace Zi:=aQ (Kd.N_drew Zi.out)
   replace Zn:=aQ (Kd.N_drew Zn.out)
   replace Za:=aQ (blk_drew Za.out)
   replace Ze:=aQ (blk_drew Ze.out)
   replace Zm:=aQ (blk_drew Zm.out)
   replace Zp:=aQ (blk_drew Zp.out)
   replace HB:=aQ (below_drew1 HB.out)
   refine start_ (n:=22) (S:=fun w'=>True) (ds:=[]) (bn 22 0) (by kernel_rfl) rfl rfl trivial (fun hHeld=>?_);refine with_tabW spec_l17Pass.tab12 spec_l17Pass.bits12 (fun HT_ HW_=>?_)
   generalize w150.drew = w151 at Zi Zn Za Ze Zm Zp HB hHeld ⊢
   refine pur (i:=0) (N:=some 58) (bn 22 1) ?_
   refine pur (i:=1) (N:=some 59) (bn 22 3) ?_
   refine pur (i:=2) (N:=some 60) (bn 22 7) ?_
   refine pur (i:=3) (N:=some 61) (bn 22 15) ?_
   refine pur (i:=4) (N:=some 62) (bn 22 31) ?_
   refine pur (i:=5) (N:=some 63) (bn 22 63) ?_
   refine pur (i:=6) (N:=some 64) (bn 22 127) ?_
   refine pur (i:=7) (N:=some 65) (v:=undef) (bn 22 255) ?_
   refine pur (i:=8) (N:=some 66) (v:=undef) (bn 22 511) ?_
   refine pur (i:=9) (N:=some 67) (v:=undef) (bn 22 1023) ?_
   refine pur (i:=10) (N:=some 68) (v:=undef) (bn 22 2047) ?_
   refine pur (i:=11) (N:=some 69) (v:=undef) (bn 22 4095) ?_
   refine pur (i:=12) (N:=some 70) (v:=undef) (bn 22 8191) ?_
   refine pur (i:=13) (N:=some 71) (v:=undef) (bn 22 16383) ?_
   refine pur (i:=14) (N:=some 72) (v:=undef) (bn 22 32767) ?_
   refine pur (i:=15) (N:=some 73) (v:=undef) (bn 22 65535) ?_
   refine pur (i:=16) (N:=some 74) (v:=undef) (bn 22 131071) ?_
   refine pur (i:=17) (N:=some 75) (v:=undef) (bn 22 262143) ?_
   refine pur (i:=18) (N:=some 76) (v:=undef) (bn 22 524287) ?_
   refine pur (i:=19) (N:=some 77) (v:=undef) (bn 22 1048575) ?_
   refine pur (i:=20) (N:=some 78) (v:=undef) (bn 22 2097151) ?_
   refine pur (i:=21) (N:=some 79) (bn 22 4194303) ?_
   refine done_ (done_of HT_.out (by kernel_rfl)) ?_
   obtain ⟨VE,VF,VG,VH,VI,VJ⟩:=cz3 Ze.out
   try go_wp2
   refine bodyPost_ret (results_ct rfl _ _ Zd 29 #[.int .i64 0,.int .i64 0,.slice none 0 0] (0,0) _ rfl bP Try.underlying29 rfl (by kernel_rfl)) rfl ?_
   exact ⟨_,rfl,by first | exact Kd.R_nil _ _ _ _ _ | exact Kd.N_nil _ _ _ _ _ | exact Kd.V_nil _ _ _ _ _ | exact Kd.Q_nil _ _ _ _ _ | exact Kd.S_nil _ _ _ _ _,bB⟩
 ·replace c50:=Bool.eq_false_iff.mpr c50
  subst c50
  have H1:(some (0,0,([]:List (S29)),false)) = some (r1,r2,r3,r4):=by rw [if_neg (show ¬ (false = true) by decide)] at H;exact H
  clear H
  have H:=H1
  clear H1
  simp only [Option.some.injEq,Prod.mk.injEq] at H
  obtain ⟨rfl,rfl,rfl,rfl⟩:=H
  go_enter Try.func50,Try.ntmps50
  try go_wp2_with (first | ((with_reducible refine gate_dst (N:=1) rfl ?_);refine box1 (N:=1) (cs:=#[.int .i64 a0_0,.int .i64 a0_1,.slice A0_2 l0_2.length c0_2]) (t:=29) ?_;intro Zg hg w153 hbox hb;have Za:=aQ (hbox);have ZW:=aQ (gB:w.heap.size ≤ Zg);have YF:=ZW;replace HB:=aQ (below_step bB hb);clear hb hbox hg) | ((with_reducible refine gate_dst (N:=2) rfl ?_);refine box1 (N:=2) (cs:=#[.int .i64 0,.int .i64 0,.slice none 0 0]) (t:=29) ?_;intro Zd hg w154 hbox hb;have Ze:=aQ (hbox);have Zo:=aQ (gB:w.heap.size ≤ Zd);have YG:=Zo;replace HB:=aQ (below_step bB hb);have Zh:=aQ ((by rw [hg];exact Nat.ne_of_lt (blk_lt (nB Za.out)):Zg ≠ Zd));have Zq:=aQ Zh.out.symm;replace Za:=aQ (blk_below (nB Za.out) hb);clear hb hbox hg;have SE:=Zh.out;have SF:=Zq.out;obtain ⟨VK,VL,VM,VN,VO,VP⟩:=cz3 Za.out;have p541:0 ≤ (0:Int):=(by omega);have q541:0 < (l0_2.length:Int):=of_decide_eq_true (by first | (with_reducible assumption) | assumption);obtain ⟨Zl,A541_2,c541_2,e541,Zr,Zs,Zt,ZR,ZS⟩:=at_T29 ZV.out 0 p541 q541;cases e541;have qi541:(0 < l0_2.length) = True:=eq_true (by omega);(try rw [show ((0:Int)).toNat = 0 from rfl,show 0 * 3 = 0 from rfl] at Zr Zs Zt);(try rw [Addr.add_zero'] at Zr);(try rw [Addr.add_zero'] at Zs);(try rw [Addr.add_zero'] at Zt);replace Zr:=(HB.out.cell (World.block_lt_of_cell? w _ Zr)).trans Zr;replace Zs:=(HB.out.cell (World.block_lt_of_cell? w _ Zs)).trans Zs;replace Zt:=(HB.out.cell (World.block_lt_of_cell? w _ Zt)).trans Zt;have Yc:=aQ ZS;have Yd:=aQ ZR;clear ZS ZR;replace p541:=eq_true p541;replace q541:=eq_true q541) | ((with_reducible refine gate_callee (f:=50) rfl ?_);refine goesL_ (some 47) rfl rfl Try.func50 (by kernel_rfl) rfl #[.agg #[.int .i64 ((rd_T29 l0_2 0).f0),.int .i64 ((rd_T29 l0_2 0).f1),.slice A541_2 ((rd_T29 l0_2 0).f2).length c541_2]] rfl mP ?_;(with_reducible refine (ih k (by omega) ((rd_T29 l0_2 0).f0) ((rd_T29 l0_2 0).f1) _ _ ((rd_T29 l0_2 0).f2) t542 t543 t544 false _ ?Zu ?Zv A47.out).mono ?_);(case Zu=>repeat (first | exact (Kd.C_below Yc.out HB.out) | (with_reducible refine Kd.C_alloc ?_ _) | (with_reducible refine Kd.C_drewN ?_ _) | (with_reducible refine Kd.C_drew ?_)));(case Zv=>exact Yd.out);rintro e w157 ⟨v545,rfl,ho0,hb⟩;refine ⟨_,rfl,?_⟩;have Zi:=aQ (Kd.N_lower (Kd.N_mono (ok':=fun k_=>(w.heap.size ≤ k_)∧k_ ≠ Zg∧k_ ≠ Zd) ho0 (fun k_ hk_=>⟨(Nat.le_trans (below_size bB) hk_),(Kd.freshB (nB Za.out) k_ hk_),(Kd.freshB (nB Ze.out) k_ hk_)⟩)) (below_size bB));replace Za:=aQ (blk_below (nB Za.out) hb);replace Ze:=aQ (blk_below (nB Ze.out) hb);replace HB:=aQ (below_step bB hb);(try clear hb);(try clear ho0)) | ((with_reducible refine gate_dst (N:=4) rfl ?_);refine box1 (N:=4) (cs:=#[.int .i64 0,.int .i64 0,.slice none 0 0]) (t:=29) ?_;intro Zc hg w158 hbox hb;replace Zi:=aQ (Kd.N_below (Kd.N_elderB (nN Zi.out) Zc (Nat.le_of_eq hg.symm)) hb);have Zm:=aQ (hbox);have ZE:=aQ (gB:w.heap.size ≤ Zc);have YU:=ZE;replace HB:=aQ (below_step bB hb);have Zz:=aQ ((by rw [hg];exact Nat.ne_of_lt (blk_lt (nB Za.out)):Zg ≠ Zc));have ZX:=aQ Zz.out.symm;replace Za:=aQ (blk_below (nB Za.out) hb);have ZA:=aQ ((by rw [hg];exact Nat.ne_of_lt (blk_lt (nB Ze.out)):Zd ≠ Zc));have ZY:=aQ ZA.out.symm;replace Ze:=aQ (blk_below (nB Ze.out) hb);clear hb hbox hg;have SG:=ZX.out;have SH:=Zz.out;have SI:=ZY.out;have SJ:=ZA.out;obtain ⟨VQ,VR,VS,VT,VU,VV⟩:=cz3 Zm.out;obtain ⟨Yo,Yp,XF⟩:=Kd.N_slice Zi.out;subst XF;obtain ⟨VW,VX,VY,VZ,Ua,Ub⟩:=cz3 Za.out;have p549:0 ≤ (1:Int):=(by omega);have q549:1 < (l0_2.length:Int):=of_decide_eq_true (by first | (with_reducible assumption) | assumption);obtain ⟨Yz,A549_2,c549_2,e549,Zf,Zj,Zk,ZT,ZU⟩:=at_T29 ZV.out 1 p549 q549;obtain rfl:Zl = Yz:=(by injection e549);(try simp only [show (1:Int).toNat = 1 from rfl,Nat.reduceMul,Nat.reduceEqDiff,Go.Addr.add,↓reduceIte] at Zf);(try simp only [show (1:Int).toNat = 1 from rfl,Nat.reduceMul,Nat.reduceEqDiff,Go.Addr.add,↓reduceIte] at Zj);(try simp only [show (1:Int).toNat = 1 from rfl,Nat.reduceMul,Nat.reduceEqDiff,Go.Addr.add,↓reduceIte] at Zk);have qi549:(1 < l0_2.length) = True:=eq_true (by omega);(try rw [show ((1:Int)).toNat = 1 from rfl,show 1 * 3 = 3 from rfl] at Zf Zj Zk);have hn549_0:Zl.block ≠ Zc:=Nat.ne_of_lt (Nat.lt_of_lt_of_le (by have:=World.block_lt_of_cell? _ _ Zf;first | rwa [add_block] at this | exact this) ZE.out);have hn549_1:Zl.block ≠ Zc:=Nat.ne_of_lt (Nat.lt_of_lt_of_le (by have:=World.block_lt_of_cell? _ _ Zf;first | rwa [add_block] at this | exact this) ZE.out);have hn549_2:Zl.block ≠ Zc:=Nat.ne_of_lt (Nat.lt_of_lt_of_le (by have:=World.block_lt_of_cell? _ _ Zf;first | rwa [add_block] at this | exact this) ZE.out);replace Zf:=(HB.out.cell (World.block_lt_of_cell? w _ Zf)).trans Zf;replace Zj:=(HB.out.cell (World.block_lt_of_cell? w _ Zj)).trans Zj;replace Zk:=(HB.out.cell (World.block_lt_of_cell? w _ Zk)).trans Zk;have Yg:=aQ ZU;have Yh:=aQ ZT;clear ZU ZT;replace Zf:=(cell_far (p:=⟨Zc,0,none⟩) (by first | (rw [add_block];exact hn549_0) | (show (Addr.add _ _).block ≠ _;rw [add_block];exact hn549_0) | exact hn549_0) (.int .i64 t542)).trans Zf;replace Zj:=(cell_far (p:=⟨Zc,0,none⟩) (by first | (rw [add_block];exact hn549_0) | (show (Addr.add _ _).block ≠ _;rw [add_block];exact hn549_0) | exact hn549_0) (.int .i64 t542)).trans Zj;replace Zk:=(cell_far (p:=⟨Zc,0,none⟩) (by first | (rw [add_block];exact hn549_0) | (show (Addr.add _ _).block ≠ _;rw [add_block];exact hn549_0) | exact hn549_0) (.int .i64 t542)).trans Zk;replace Zf:=(cell_far (p:=⟨Zc,1,none⟩) (by first | (rw [add_block];exact hn549_1) | (show (Addr.add _ _).block ≠ _;rw [add_block];exact hn549_1) | exact hn549_1) (.int .i64 t543)).trans Zf;replace Zj:=(cell_far (p:=⟨Zc,1,none⟩) (by first | (rw [add_block];exact hn549_1) | (show (Addr.add _ _).block ≠ _;rw [add_block];exact hn549_1) | exact hn549_1) (.int .i64 t543)).trans Zj;replace Zk:=(cell_far (p:=⟨Zc,1,none⟩) (by first | (rw [add_block];exact hn549_1) | (show (Addr.add _ _).block ≠ _;rw [add_block];exact hn549_1) | exact hn549_1) (.int .i64 t543)).trans Zk;replace Zf:=(cell_far (p:=⟨Zc,2,none⟩) (by first | (rw [add_block];exact hn549_2) | (show (Addr.add _ _).block ≠ _;rw [add_block];exact hn549_2) | exact hn549_2) (.slice Yo t544.length Yp)).trans Zf;replace Zj:=(cell_far (p:=⟨Zc,2,none⟩) (by first | (rw [add_block];exact hn549_2) | (show (Addr.add _ _).block ≠ _;rw [add_block];exact hn549_2) | exact hn549_2) (.slice Yo t544.length Yp)).trans Zj;replace Zk:=(cell_far (p:=⟨Zc,2,none⟩) (by first | (rw [add_block];exact hn549_2) | (show (Addr.add _ _).block ≠ _;rw [add_block];exact hn549_2) | exact hn549_2) (.slice Yo t544.length Yp)).trans Zk;clear hn549_0;clear hn549_1;clear hn549_2;replace p549:=eq_true p549;replace q549:=eq_true q549) | ((with_reducible refine gate_callee (f:=50) rfl ?_);refine goesL_ (some 55) rfl rfl Try.func50 (by kernel_rfl) rfl #[.agg #[.int .i64 ((rd_T29 l0_2 1).f0),.int .i64 ((rd_T29 l0_2 1).f1),.slice A549_2 ((rd_T29 l0_2 1).f2).length c549_2]] rfl mP ?_;(with_reducible refine (ih k (by omega) ((rd_T29 l0_2 1).f0) ((rd_T29 l0_2 1).f1) _ _ ((rd_T29 l0_2 1).f2) t550 t551 t552 t555 _ ?Zu ?Zv A49.out).mono ?_);(case Zu=>exact Kd.C_below Yg.out bB);(case Zv=>exact Yh.out);rintro e w164 ⟨v553,rfl,ho0,hb⟩;refine ⟨_,rfl,?_⟩;have Zn:=aQ (Kd.N_lower (Kd.N_mono (ok':=fun k_=>(w.heap.size ≤ k_)∧some k_ ≠ (.slice Yo t544.length Yp:Value).ownBlock∧k_ ≠ Zg∧k_ ≠ Zd∧k_ ≠ Zc) ho0 (fun k_ hk_=>⟨(Nat.le_trans (below_size bB) hk_),(Kd.fresh' (Kd.N_lt (nN ((Kd.N_mono (Kd.N_far (p:=⟨Zc,2,none⟩) (Kd.N_far (p:=⟨Zc,1,none⟩) (Kd.N_far (p:=⟨Zc,0,none⟩) (Kd.N_mono Zi.out (fun k_ hk=>(⟨hk,hk.2⟩:_∧k_ ≠ Zc))) (fun _ hk=>hk.2) (.int .i64 t542)) (fun _ hk=>hk.2) (.int .i64 t543)) (fun _ hk=>hk.2) (.slice Yo t544.length Yp)) (fun _ h_=>h_.1))))) k_ hk_),(Kd.freshB (g:=Zg) (o:=.cells #[.int .i64 a0_0,.int .i64 a0_1,.slice (some Zl) l0_2.length c0_2] 29 (0,0)) bF k_ hk_),(Kd.freshB (g:=Zd) (o:=.cells #[.int .i64 0,.int .i64 0,.slice none 0 0] 29 (0,0)) bF k_ hk_),(Kd.freshB (g:=Zc) (o:=.cells #[.int .i64 t542,.int .i64 t543,.slice Yo t544.length Yp] 29 (0,0)) bP k_ hk_)⟩)) (below_size bB));replace Zi:=aQ (Kd.N_elder' (nN ((Kd.N_mono (Kd.N_far (p:=⟨Zc,2,none⟩) (Kd.N_far (p:=⟨Zc,1,none⟩) (Kd.N_far (p:=⟨Zc,0,none⟩) (Kd.N_mono Zi.out (fun k_ hk=>(⟨hk,hk.2⟩:_∧k_ ≠ Zc))) (fun _ hk=>hk.2) (.int .i64 t542)) (fun _ hk=>hk.2) (.int .i64 t543)) (fun _ hk=>hk.2) (.slice Yo t544.length Yp)) (fun _ h_=>h_.1)))) (Kd.N_base ho0) hb);replace Za:=aQ (blk_below (g:=Zg) (o:=.cells #[.int .i64 a0_0,.int .i64 a0_1,.slice (some Zl) l0_2.length c0_2] 29 (0,0)) bF hb);replace Ze:=aQ (blk_below (g:=Zd) (o:=.cells #[.int .i64 0,.int .i64 0,.slice none 0 0] 29 (0,0)) bF hb);replace Zm:=aQ (blk_below (g:=Zc) (o:=.cells #[.int .i64 t542,.int .i64 t543,.slice Yo t544.length Yp] 29 (0,0)) bP hb);replace HB:=aQ (below_step bB hb);(try clear hb);(try clear ho0)) | ((with_reducible refine gate_dst (N:=6) rfl ?_);refine box1 (N:=6) (cs:=#[.int .i64 0,.int .i64 0,.slice none 0 0]) (t:=29) ?_;intro Zb hg w165 hbox hb;replace Zi:=aQ (Kd.N_below (Kd.N_elderB (nN Zi.out) Zb (Nat.le_of_eq hg.symm)) hb);replace Zn:=aQ (Kd.N_below (Kd.N_elderB (nN Zn.out) Zb (Nat.le_of_eq hg.symm)) hb);have Zp:=aQ (hbox);have YA:=aQ (gB:w.heap.size ≤ Zb);have YV:=YA;replace HB:=aQ (below_step bB hb);have ZB:=aQ ((by rw [hg];exact Nat.ne_of_lt (blk_lt (nB Za.out)):Zg ≠ Zb));have ZZ:=aQ ZB.out.symm;replace Za:=aQ (blk_below (nB Za.out) hb);have ZC:=aQ ((by rw [hg];exact Nat.ne_of_lt (blk_lt (nB Ze.out)):Zd ≠ Zb));have Ya:=aQ ZC.out.symm;replace Ze:=aQ (blk_below (nB Ze.out) hb);have ZD:=aQ ((by rw [hg];exact Nat.ne_of_lt (blk_lt (nB Zm.out)):Zc ≠ Zb));have Yb:=aQ ZD.out.symm;replace Zm:=aQ (blk_below (nB Zm.out) hb);clear hb hbox hg;have SK:=ZZ.out;have SL:=ZB.out;have SM:=Ya.out;have SN:=ZC.out;have SO:=Yb.out;have SP:=ZD.out;obtain ⟨Uc,Ud,Ue,Uf,Ug,Uh⟩:=cz3 Zp.out;obtain ⟨Yq,Yr,XG⟩:=Kd.N_slice Zn.out;subst XG))
  have n0_:Aside0 (Kd.N k29 29 (((w165.setCell ⟨Zb,0,none⟩ (.int .i64 t550)).setCell ⟨Zb,1,none⟩ (.int .i64 t551)).setCell ⟨Zb,2,none⟩ (.slice Yq t552.length Yr)) w.heap.size (fun k_=>(w.heap.size ≤ k_)∧some k_ ≠ (.slice Yq t552.length Yr:Value).ownBlock∧k_ ≠ Zg∧k_ ≠ Zd∧k_ ≠ Zc∧k_ ≠ Zb) (.slice Yo t544.length Yp) t544):=⟨Kd.N_mono (nFN (g:=Zb) Zi.out (fun k_ hk=>hk.2)) (fun _ hk=>⟨hk.1.1.1.1,⟨hk.1.2,⟨hk.1.1.1.2.1,⟨hk.1.1.1.2.2,⟨hk.1.1.2,hk.2⟩⟩⟩⟩⟩)⟩
  have n1_:Aside0 (Kd.N k29 29 (((w165.setCell ⟨Zb,0,none⟩ (.int .i64 t550)).setCell ⟨Zb,1,none⟩ (.int .i64 t551)).setCell ⟨Zb,2,none⟩ (.slice Yq t552.length Yr)) w.heap.size (fun k_=>(w.heap.size ≤ k_)∧some k_ ≠ (.slice Yo t544.length Yp:Value).ownBlock∧k_ ≠ Zg∧k_ ≠ Zd∧k_ ≠ Zc∧k_ ≠ Zb) (.slice Yq t552.length Yr) t552):=⟨Kd.N_mono (nFN (g:=Zb) Zn.out (fun k_ hk=>hk.2)) (fun _ hk=>⟨hk.1.1,⟨hk.1.2.1,⟨hk.1.2.2.1,⟨hk.1.2.2.2.1,⟨hk.1.2.2.2.2,hk.2⟩⟩⟩⟩⟩)⟩
  have n2_:Aside0 ((((w165.setCell ⟨Zb,0,none⟩ (.int .i64 t550)).setCell ⟨Zb,1,none⟩ (.int .i64 t551)).setCell ⟨Zb,2,none⟩ (.slice Yq t552.length Yr)).heap[Zg]? = some (.cells #[.int .i64 a0_0,.int .i64 a0_1,.slice (some Zl) l0_2.length c0_2] 29 (0,0))):=⟨bF⟩
  have n3_:Aside0 ((((w165.setCell ⟨Zb,0,none⟩ (.int .i64 t550)).setCell ⟨Zb,1,none⟩ (.int .i64 t551)).setCell ⟨Zb,2,none⟩ (.slice Yq t552.length Yr)).heap[Zd]? = some (.cells #[.int .i64 0,.int .i64 0,.slice none 0 0] 29 (0,0))):=⟨bF⟩
  have n4_:Aside0 ((((w165.setCell ⟨Zb,0,none⟩ (.int .i64 t550)).setCell ⟨Zb,1,none⟩ (.int .i64 t551)).setCell ⟨Zb,2,none⟩ (.slice Yq t552.length Yr)).heap[Zc]? = some (.cells #[.int .i64 t542,.int .i64 t543,.slice Yo t544.length Yp] 29 (0,0))):=⟨bF⟩
  have n5_:Aside0 ((((w165.setCell ⟨Zb,0,none⟩ (.int .i64 t550)).setCell ⟨Zb,1,none⟩ (.int .i64 t551)).setCell ⟨Zb,2,none⟩ (.slice Yq t552.length Yr)).heap[Zb]? = some (.cells #[.int .i64 t550,.int .i64 t551,.slice Yq t552.length Yr] 29 (0,0))):=⟨bP⟩
  have n6_:Aside0 (Below w.heap.size w (((w165.setCell ⟨Zb,0,none⟩ (.int .i64 t550)).setCell ⟨Zb,1,none⟩ (.int .i64 t551)).setCell ⟨Zb,2,none⟩ (.slice Yq t552.length Yr))):=⟨bB⟩
  (try clear Zi)
  (try clear Zn)
  (try clear Za)
  (try clear Ze)
  (try clear Zm)
  (try clear Zp)
  (try clear HB)
  generalize (((w165.setCell ⟨Zb,0,none⟩ (.int .i64 t550)).setCell ⟨Zb,1,none⟩ (.int .i64 t551)).setCell ⟨Zb,2,none⟩ (.slice Yq t552.length Yr)) = w171 at n0_ n1_ n2_ n3_ n4_ n5_ n6_ ⊢
  have Zi:=n0_
  have Zn:=n1_
  have Za:=n2_
  have Ze:=n3_
  have Zm:=n4_
  have Zp:=n5_
  have HB:=n6_
  clear n0_ n1_ n2_ n3_ n4_ n5_ n6_
  replace Zi:=aQ (Kd.N_drew Zi.out)
  replace Zn:=aQ (Kd.N_drew Zn.out)
  replace Za:=aQ (blk_drew Za.out)
  replace Ze:=aQ (blk_drew Ze.out)
  replace Zm:=aQ (blk_drew Zm.out)
  replace Zp:=aQ (blk_drew Zp.out)
  replace HB:=aQ (below_drew1 HB.out)
  refine start_ (n:=22) (S:=fun w'=>True) (ds:=[]) (bn 22 0) (by kernel_rfl) rfl rfl trivial (fun hHeld=>?_);refine with_tabW spec_l17Pass.tab12 spec_l17Pass.bits12 (fun HT_ HW_=>?_)
  generalize w171.drew = w172 at Zi Zn Za Ze Zm Zp HB hHeld ⊢
  refine pur (i:=0) (N:=some 58) (bn 22 1) ?_
  refine pur (i:=1) (N:=some 59) (bn 22 3) ?_
  refine pur (i:=2) (N:=some 60) (bn 22 7) ?_
  refine pur (i:=3) (N:=some 61) (v:=undef) (bn 22 15) ?_
  refine pur (i:=4) (N:=some 62) (v:=undef) (bn 22 31) ?_
  refine pur (i:=5) (N:=some 63) (bn 22 63) ?_
  refine pur (i:=6) (N:=some 64) (bn 22 127) ?_
  refine pur (i:=7) (N:=some 65) (v:=undef) (bn 22 255) ?_
  refine pur (i:=8) (N:=some 66) (v:=undef) (bn 22 511) ?_
  refine pur (i:=9) (N:=some 67) (v:=undef) (bn 22 1023) ?_
  refine pur (i:=10) (N:=some 68) (v:=undef) (bn 22 2047) ?_
  refine pur (i:=11) (N:=some 69) (v:=undef) (bn 22 4095) ?_
  refine pur (i:=12) (N:=some 70) (v:=undef) (bn 22 8191) ?_
  refine pur (i:=13) (N:=some 71) (v:=undef) (bn 22 16383) ?_
  refine pur (i:=14) (N:=some 72) (v:=undef) (bn 22 32767) ?_
  refine pur (i:=15) (N:=some 73) (v:=undef) (bn 22 65535) ?_
  refine pur (i:=16) (N:=some 74) (v:=undef) (bn 22 131071) ?_
  refine pur (i:=17) (N:=some 75) (v:=undef) (bn 22 262143) ?_
  refine pur (i:=18) (N:=some 76) (v:=undef) (bn 22 524287) ?_
  refine pur (i:=19) (N:=some 77) (v:=undef) (bn 22 1048575) ?_
  refine pur (i:=20) (N:=some 78) (v:=undef) (bn 22 2097151) ?_
  refine pur (i:=21) (N:=some 79) (bn 22 4194303) ?_
  refine done_ (done_of HT_.out (by kernel_rfl)) ?_
  obtain ⟨Ui,Uj,Uk,Ul,Um,Un⟩:=cz3 Ze.out
  try go_wp2
  refine bodyPost_ret (results_ct rfl _ _ Zd 29 #[.int .i64 0,.int .i64 0,.slice none 0 0] (0,0) _ rfl bP Try.underlying29 rfl (by kernel_rfl)) rfl ?_
  exact ⟨_,rfl,by first | exact Kd.R_nil _ _ _ _ _ | exact Kd.N_nil _ _ _ _ _ | exact Kd.V_nil _ _ _ _ _ | exact Kd.Q_nil _ _ _ _ _ | exact Kd.S_nil _ _ _ _ _,bB⟩
mutual
def spec_ClockLater.j0:Nat → Int → Bool → Int → Int → List (S29) → Option (Int × Int × (List (S29)) × Bool)
 | 0,_,_,_,_,_=>none
 | k + 1,x1,x17,x728000,x728001,x728002=>if x17 = true then (some (0,0,([]:List (S29)),false)) else ((spec_l17Copy.f k x728000 x728001 x728002).bind fun bt731=>(spec_ClockLater.l0 k x1 0 bt731.1 bt731.2.1 bt731.2.2))
def spec_ClockLater.l0:Nat → Int → Int → Int → Int → List (S29) → Option (Int × Int × (List (S29)) × Bool)
 | 0,_,_,_,_,_=>none
 | k + 1,x1,x7,x737000,x737001,x737002=>if x7 < x1 then ((spec_l17Pass.f k x737000 x737001 x737002).bind fun bt737=>(if bt737.2.2.2 = true then (spec_ClockLater.l0 k x1 (wrap64 (x7 + 1)) bt737.1 bt737.2.1 bt737.2.2.1) else (some (0,0,([]:List (S29)),false)))) else (some (x737000,x737001,x737002,true))
end
def spec_ClockLater.f (k:Nat) (a0_0:Int) (a0_1:Int) (l0_2:List (S29)) (a1:Int):Option (Int × Int × (List (S29)) × Bool):=(spec_ClockOk.f k a0_0 a0_1 l0_2).bind fun t729=>(if t729 = true then ((spec_l6In.f a1 0 100).bind fun t730=>(spec_ClockLater.j0 k a1 (!t730) a0_0 a0_1 l0_2)) else (spec_ClockLater.j0 k a1 true a0_0 a0_1 l0_2))
theorem spec_ClockLater.mono_l:∀ k,(∀ y0 y1 y2 y3 y4,LeO (spec_ClockLater.j0 k y0 y1 y2 y3 y4) (spec_ClockLater.j0 (k + 1) y0 y1 y2 y3 y4))∧(∀ y0 y1 y2 y3 y4,LeO (spec_ClockLater.l0 k y0 y1 y2 y3 y4) (spec_ClockLater.l0 (k + 1) y0 y1 y2 y3 y4))
 | 0=>⟨fun _ _ _ _ _ r h=>by simp [spec_ClockLater.j0] at h,fun _ _ _ _ _ r h=>by simp [spec_ClockLater.l0] at h⟩
 | k + 1=>by
  obtain ⟨ih0,ih1⟩:=spec_ClockLater.mono_l k
  refine ⟨?_,?_⟩
  ·intro y0 y1 y2 y3 y4
   unfold spec_ClockLater.j0
   repeat' first
   | (with_reducible exact ih0 _ _ _ _ _)
   | (with_reducible exact ih1 _ _ _ _ _)
   | (with_reducible exact spec_ClockOk.mono _ _ _ _)
   | (with_reducible exact spec_l17Copy.mono _ _ _ _)
   | (with_reducible exact spec_l17Pass.mono _ _ _ _)
   | (with_reducible exact LeO.refl _)
   | (with_reducible exact LeO.none _)
   | (with_reducible refine LeO.ite ?_ ?_)
   | (with_reducible refine LeO.bind ?_ (fun _=>?_))
   | exact ih0 _ _ _ _ _
   | exact ih1 _ _ _ _ _
   | exact spec_ClockOk.mono _ _ _ _
   | exact spec_l17Copy.mono _ _ _ _
   | exact spec_l17Pass.mono _ _ _ _
   | exact LeO.none _
   | refine LeO.ite ?_ ?_
   | refine LeO.bind ?_ (fun _=>?_)
  ·intro y0 y1 y2 y3 y4
   unfold spec_ClockLater.l0
   repeat' first
   | (with_reducible exact ih0 _ _ _ _ _)
   | (with_reducible exact ih1 _ _ _ _ _)
   | (with_reducible exact spec_ClockOk.mono _ _ _ _)
   | (with_reducible exact spec_l17Copy.mono _ _ _ _)
   | (with_reducible exact spec_l17Pass.mono _ _ _ _)
   | (with_reducible exact LeO.refl _)
   | (with_reducible exact LeO.none _)
   | (with_reducible refine LeO.ite ?_ ?_)
   | (with_reducible refine LeO.bind ?_ (fun _=>?_))
   | exact ih0 _ _ _ _ _
   | exact ih1 _ _ _ _ _
   | exact spec_ClockOk.mono _ _ _ _
   | exact spec_l17Copy.mono _ _ _ _
   | exact spec_l17Pass.mono _ _ _ _
   | exact LeO.none _
   | refine LeO.ite ?_ ?_
   | refine LeO.bind ?_ (fun _=>?_)
theorem spec_ClockLater.mono:∀ a0 a1 a2 a3 k,LeO (spec_ClockLater.f k a0 a1 a2 a3) (spec_ClockLater.f (k + 1) a0 a1 a2 a3):=by
 intro a0 a1 a2 a3 k
 obtain ⟨ih0,ih1⟩:=spec_ClockLater.mono_l k
 unfold spec_ClockLater.f
 repeat' first
   | (with_reducible exact ih0 _ _ _ _ _)
   | (with_reducible exact ih1 _ _ _ _ _)
   | (with_reducible exact spec_ClockOk.mono _ _ _ _)
   | (with_reducible exact spec_l17Copy.mono _ _ _ _)
   | (with_reducible exact spec_l17Pass.mono _ _ _ _)
   | (with_reducible exact LeO.refl _)
   | (with_reducible exact LeO.none _)
   | (with_reducible refine LeO.ite ?_ ?_)
   | (with_reducible refine LeO.bind ?_ (fun _=>?_))
   | exact ih0 _ _ _ _ _
   | exact ih1 _ _ _ _ _
   | exact spec_ClockOk.mono _ _ _ _
   | exact spec_l17Copy.mono _ _ _ _
   | exact spec_l17Pass.mono _ _ _ _
   | exact LeO.none _
   | refine LeO.ite ?_ ?_
   | refine LeO.bind ?_ (fun _=>?_)
set_option maxHeartbeats 8000000 in
set_option maxRecDepth 100000 in
theorem spec_ClockLater.calls (k:Nat) (a0_0:Int) (a0_1:Int) (A0_2:Option Addr) (c0_2:Nat) (l0_2:List (S29)) (a1:Int) (r1:Int) (r2:Int) (r3:List (S29)) (r4:Bool) (w:World) (hr0_2:Kd.C k29 w A0_2 l0_2.length l0_2) (hc0_2:l0_2.length ≤ c0_2) (h:spec_ClockLater.f k a0_0 a0_1 l0_2 a1 = some (r1,r2,r3,r4)) :
  Calls Try.prog 36 #[.agg #[.int .i64 a0_0,.int .i64 a0_1,.slice A0_2 l0_2.length c0_2],.int .i64 a1] w fun e w'=>∃ v2_:Value,e = .returned (.tuple #[.agg #[.int .i64 r1,.int .i64 r2,v2_],.bool r4])∧Kd.N k29 29 w' w.heap.size (fun k_=>(w.heap.size ≤ k_)) v2_ r3∧Below w.heap.size w w':=by
 have hu29:=Try.underlying29
 have ZA:=aQ hr0_2
 have ZB:=aQ hc0_2
 clear hr0_2 hc0_2
 have HB:=aQ (Below.refl w.heap.size w)
 have H:=h
 clear h
 have ZS:=aQ H
 clear H
 go_enter Try.func36,Try.ntmps36
 go_upto_region 1 with (first | ((with_reducible refine gate_dst (N:=2) rfl ?_);refine box1 (N:=2) (cs:=#[.int .i64 a0_0,.int .i64 a0_1,.slice A0_2 l0_2.length c0_2]) (t:=29) ?_;intro Zl hg w4 hbox hb;have Zb:=aQ (hbox);have ZV:=aQ (gB:w.heap.size ≤ Zl);have Xx:=ZV;replace HB:=aQ (below_step bB hb);clear hb hbox hg) | ((with_reducible refine gate_dst (N:=4) rfl ?_);refine box1 (N:=4) (cs:=#[.int .i64 0,.int .i64 0,.slice none 0 0]) (t:=29) ?_;intro Zh hg w5 hbox hb;have Zc:=aQ (hbox);have ZW:=aQ (gB:w.heap.size ≤ Zh);have Xy:=ZW;replace HB:=aQ (below_step bB hb);have Zj:=aQ ((by rw [hg];exact Nat.ne_of_lt (blk_lt (nB Zb.out)):Zl ≠ Zh));have Zk:=aQ Zj.out.symm;replace Zb:=aQ (blk_below (nB Zb.out) hb);clear hb hbox hg))
 (try simp only [Act.put,List.setIfInBounds_toArray,List.set_cons_zero,List.set_cons_succ])
 go_cut [17] (fun v17 wc=>∃ (kq:Nat) (x17_2:Bool),v17 = .bool x17_2∧Aside0 (spec_ClockLater.j0 kq a1 x17_2 a0_0 a0_1 l0_2 = some (r1,r2,r3,r4))∧Aside0 (kq ≤ k)∧Aside0 (wc.heap[Zl]? = some (.cells #[.int .i64 a0_0,.int .i64 a0_1,(.slice A0_2 l0_2.length c0_2)] 29 (0,0)))∧Aside0 (wc.heap[Zh]? = some (.cells #[.int .i64 0,.int .i64 0,(.slice none 0 0)] 29 (0,0)))∧Aside0 (Below w.heap.size w wc))
 case first =>
  have H:=ZS.out
  clear ZS
  obtain ⟨t729,A6,H⟩:=bQ H
  (try dsimp only at H)
  by_cases c7:t729 = true
  ·subst c7
   have H1:((spec_l6In.f a1 0 100).bind fun t730=>(spec_ClockLater.j0 k a1 (!t730) a0_0 a0_1 l0_2)) = some (r1,r2,r3,r4):=by rw [if_pos rfl] at H;exact H
   clear H
   have H:=H1
   clear H1
   obtain ⟨t730,A8,H⟩:=bQ H
   (try dsimp only at H)
   have H':=aQ H
   clear H
   have Wm:=Zj.out
   have Wn:=Zk.out
   obtain ⟨Yj,Yk,Yl,Ym,Yn,Yo⟩:=cz3 Zb.out
   go_wp2_with (first | ((with_reducible refine gate_callee (f:=14) rfl ?_);refine goesL_ (some 11) rfl rfl Try.func14 (by kernel_rfl) rfl #[.agg #[.int .i64 a0_0,.int .i64 a0_1,.slice A0_2 l0_2.length c0_2]] rfl mP ?_;(with_reducible refine (spec_ClockOk.calls k a0_0 a0_1 _ _ l0_2 true _ ?Zp ?Zq A6.out).mono ?_);(case Zp=>repeat (first | exact (Kd.C_below ZA.out HB.out) | (with_reducible refine Kd.C_alloc ?_ _) | (with_reducible refine Kd.C_drewN ?_ _) | (with_reducible refine Kd.C_drew ?_)));(case Zq=>exact ZB.out);rintro e w11 ⟨rfl,hb⟩;refine ⟨_,rfl,?_⟩;replace Zb:=aQ (blk_below (nB Zb.out) hb);replace Zc:=aQ (blk_below (nB Zc.out) hb);replace HB:=aQ (below_step bB hb);(try clear hb)) | (go_at_call 39;(with_reducible refine (spec_l6In.calls a1 0 100 t730 _ A8.out).mono ?_);rintro e w' ⟨rfl,⟨nd,rfl⟩⟩))
   go_meet
   case rel=>exact ⟨_,(!t730),rfl,H',⟨by first | omega | exact Nat.le_refl _⟩,⟨nB Zb.out⟩,⟨nB Zc.out⟩,⟨bB⟩⟩
  ·replace c7:=Bool.eq_false_iff.mpr c7
   subst c7
   have H1:(spec_ClockLater.j0 k a1 true a0_0 a0_1 l0_2) = some (r1,r2,r3,r4):=by rw [if_neg (show ¬ (false = true) by decide)] at H;exact H
   clear H
   have H:=H1
   clear H1
   have H':=aQ H
   clear H
   have Xz:=Zj.out
   have XA:=Zk.out
   obtain ⟨Yp,Yq,Yr,Ys,Yt,Yu⟩:=cz3 Zb.out
   go_wp2_with (first | ((with_reducible refine gate_callee (f:=14) rfl ?_);refine goesL_ (some 11) rfl rfl Try.func14 (by kernel_rfl) rfl #[.agg #[.int .i64 a0_0,.int .i64 a0_1,.slice A0_2 l0_2.length c0_2]] rfl mP ?_;(with_reducible refine (spec_ClockOk.calls k a0_0 a0_1 _ _ l0_2 false _ ?Zp ?Zq A6.out).mono ?_);(case Zp=>repeat (first | exact (Kd.C_below ZA.out HB.out) | (with_reducible refine Kd.C_alloc ?_ _) | (with_reducible refine Kd.C_drewN ?_ _) | (with_reducible refine Kd.C_drew ?_)));(case Zq=>exact ZB.out);rintro e w14 ⟨rfl,hb⟩;refine ⟨_,rfl,?_⟩;replace Zb:=aQ (blk_below (nB Zb.out) hb);replace Zc:=aQ (blk_below (nB Zc.out) hb);replace HB:=aQ (below_step bB hb);(try clear hb)))
   go_meet
   case rel=>exact ⟨_,(true),rfl,H',⟨by first | omega | exact Nat.le_refl _⟩,⟨nB Zb.out⟩,⟨nB Zc.out⟩,⟨bB⟩⟩
 case rest =>
  clear ZS
  obtain ⟨kq,x17_2,rfl,HA,HJ2,Zb,Zc,HB⟩:=hcut
  cases kq with
  | zero=>exact absurd HA.out (by simp [spec_ClockLater.j0])
  | succ kj2 =>
   have H:=HA.out
   clear HA
   simp only [spec_ClockLater.j0] at H
   by_cases c15:x17_2 = true
   ·subst c15
    have H1:(some (0,0,([]:List (S29)),false)) = some (r1,r2,r3,r4):=by rw [if_pos rfl] at H;exact H
    clear H
    have H:=H1
    clear H1
    simp only [Option.some.injEq,Prod.mk.injEq] at H
    obtain ⟨rfl,rfl,rfl,rfl⟩:=H
    have XB:=Zk.out
    have XC:=Zj.out
    obtain ⟨Yv,Yw,Yx,Yy,Yz,YA⟩:=cz3 Zc.out
    go_wp2
    refine bodyPost_ret (results_ct rfl _ _ Zh 29 #[.int .i64 0,.int .i64 0,.slice none 0 0] (0,0) _ rfl bP Try.underlying29 rfl (by kernel_rfl)) rfl ?_
    exact ⟨_,rfl,by first | exact Kd.R_nil _ _ _ _ _ | exact Kd.N_nil _ _ _ _ _ | exact Kd.V_nil _ _ _ _ _ | exact Kd.Q_nil _ _ _ _ _ | exact Kd.S_nil _ _ _ _ _,bB⟩
   ·replace c15:=Bool.eq_false_iff.mpr c15
    subst c15
    have H1:((spec_l17Copy.f kj2 a0_0 a0_1 l0_2).bind fun bt731=>(spec_ClockLater.l0 kj2 a1 0 bt731.1 bt731.2.1 bt731.2.2)) = some (r1,r2,r3,r4):=by rw [if_neg (show ¬ (false = true) by decide)] at H;exact H
    clear H
    have H:=H1
    clear H1
    obtain ⟨⟨t731,t732,t733⟩,A18,H⟩:=bQ H
    dsimp only at H
    have H':=aQ H
    clear H
    have XD:=Zj.out
    have XE:=Zk.out
    obtain ⟨ZG,ZH,ZI,ZJ,ZK,ZL⟩:=cz3 Zb.out
    go_wp2_with (first | ((with_reducible refine gate_callee (f:=52) rfl ?_);refine goesL_ (some 20) rfl rfl Try.func52 (by kernel_rfl) rfl #[.agg #[.int .i64 a0_0,.int .i64 a0_1,.slice A0_2 l0_2.length c0_2]] rfl mP ?_;(with_reducible refine (spec_l17Copy.calls kj2 a0_0 a0_1 _ _ l0_2 t731 t732 t733 _ ?Zp ?Zq A18.out).mono ?_);(case Zp=>repeat (first | exact (Kd.C_below ZA.out HB.out) | (with_reducible refine Kd.C_alloc ?_ _) | (with_reducible refine Kd.C_drewN ?_ _) | (with_reducible refine Kd.C_drew ?_)));(case Zq=>exact ZB.out);rintro e w21 ⟨v734,rfl,ho0,hb⟩;refine ⟨_,rfl,?_⟩;have Zx:=aQ (Kd.N_lower (Kd.N_mono (ok':=fun k_=>(w.heap.size ≤ k_)∧k_ ≠ Zl∧k_ ≠ Zh) ho0 (fun k_ hk_=>⟨(Nat.le_trans (below_size bB) hk_),(Kd.freshB (nB Zb.out) k_ hk_),(Kd.freshB (nB Zc.out) k_ hk_)⟩)) (below_size bB));replace Zb:=aQ (blk_below (nB Zb.out) hb);replace Zc:=aQ (blk_below (nB Zc.out) hb);replace HB:=aQ (below_step bB hb);(try clear hb);(try clear ho0)) | ((with_reducible refine gate_dst (N:=6) rfl ?_);refine box1 (N:=6) (cs:=#[.int .i64 0,.int .i64 0,.slice none 0 0]) (t:=29) ?_;intro Zi hg w22 hbox hb;replace Zx:=aQ (Kd.N_below (Kd.N_elderB (nN Zx.out) Zi (Nat.le_of_eq hg.symm)) hb);have Zd:=aQ (hbox);have ZX:=aQ (gB:w.heap.size ≤ Zi);have XF:=ZX;replace HB:=aQ (below_step bB hb);have Zm:=aQ ((by rw [hg];exact Nat.ne_of_lt (blk_lt (nB Zb.out)):Zl ≠ Zi));have Zr:=aQ Zm.out.symm;replace Zb:=aQ (blk_below (nB Zb.out) hb);have Zn:=aQ ((by rw [hg];exact Nat.ne_of_lt (blk_lt (nB Zc.out)):Zh ≠ Zi));have Zs:=aQ Zn.out.symm;replace Zc:=aQ (blk_below (nB Zc.out) hb);clear hb hbox hg;have XG:=Zr.out;have XH:=Zm.out;have XI:=Zs.out;have XJ:=Zn.out;obtain ⟨ZM,ZN,ZO,ZP,ZQ,ZR⟩:=cz3 Zd.out;obtain ⟨ZZ,Ya,Yb⟩:=Kd.N_slice Zx.out;subst Yb))
    go_loopg [7] kj2 (fun kq v7 w'=>∃ (x7_2:Int) (x729000_2:Int) (x729001_2:Int) (x737000_2:Int) (x737001_2:Int) (x737002_2:List (S29)) (u737002:Value),v7 = .int .i64 x7_2∧Aside0 (spec_ClockLater.l0 kq a1 x7_2 x737000_2 x737001_2 x737002_2 = some (r1,r2,r3,r4))∧Aside0 (kq ≤ kj2)∧Aside0 (Kd.N k29 29 w' w.heap.size (fun k_=>(w.heap.size ≤ k_)∧k_ ≠ Zl∧k_ ≠ Zh∧k_ ≠ Zi) u737002 x737002_2)∧Aside0 (w'.heap[Zl]? = some (.cells #[.int .i64 a0_0,.int .i64 a0_1,(.slice A0_2 l0_2.length c0_2)] 29 (0,0)))∧Aside0 (w'.heap[Zh]? = some (.cells #[.int .i64 x729000_2,.int .i64 x729001_2,(.slice none 0 0)] 29 (0,0)))∧Aside0 (w'.heap[Zi]? = some (.cells #[.int .i64 x737000_2,.int .i64 x737001_2,u737002] 29 (0,0)))∧Aside0 (Below w.heap.size w w'))
    case atStart=>exact ⟨(0),(0),(0),(t731),(t732),(t733),(.slice ZZ t733.length Ya),rfl,H',⟨Nat.le_refl _⟩,⟨Kd.N_mono (nFN (g:=Zi) Zx.out (fun k_ hk=>hk.2)) (fun _ hk=>⟨hk.1.1,⟨hk.1.2.1,⟨hk.1.2.2,hk.2⟩⟩⟩)⟩,⟨bF⟩,⟨bF⟩,⟨bP⟩,⟨bB⟩⟩
    case round =>
     clear H'
     try clear ZG
     try clear ZH
     try clear ZI
     try clear ZM
     try clear ZN
     try clear ZO
     try clear ZJ
     try clear ZK
     try clear ZL
     try clear ZP
     try clear ZQ
     try clear ZR
     repeat (first | clear Za | clear Zb | clear Zc | clear Zd | clear HB)
     obtain ⟨x7_2,x729000_2,x729001_2,x737000_2,x737001_2,x737002_2,u737002,rfl,HA,HK2,Za,Zb,Zc,Zd,HB⟩:=hrel
     cases gk with
     | zero=>exact absurd HA.out (by simp [spec_ClockLater.l0])
     | succ k2 =>
      have H:=HA.out
      clear HA
      simp only [spec_ClockLater.l0] at H
      by_cases c27:x7_2 < a1;rotate_left
      ·rw [if_neg c27] at H
       have c27b0:decide (x7_2 < a1) = false:=decide_eq_false c27
       clear c27
       simp only [Option.some.injEq,Prod.mk.injEq] at H
       obtain ⟨rfl,rfl,rfl,rfl⟩:=H
       have XK:=Zr.out
       have XL:=Zm.out
       have XM:=Zs.out
       have XN:=Zn.out
       obtain ⟨YB,YC,YD,YE,YF,YG⟩:=cz3 Zd.out
       have XO:=Zk.out
       have XP:=Zj.out
       obtain ⟨YH,YI,YJ,YK,YL,YM⟩:=cz3 Zc.out
       obtain ⟨Yc,Yd,Ye⟩:=Kd.N_slice Za.out
       subst Ye
       go_wp2
       refine bodyPost_ret (results_ct rfl _ _ Zh 29 #[.int .i64 x737000_2,.int .i64 x737001_2,.slice Yc x737002_2.length Yd] (0,0) _ rfl bP Try.underlying29 rfl (by kernel_rfl)) rfl ?_
       exact ⟨_,rfl,by (with_reducible repeat (first | apply Kd.N_alloc | apply Kd.N_drewN | apply Kd.N_drew));exact Kd.N_mono (nFN (g:=Zh) Za.out (fun k_ hk=>hk.2.2.1)) (fun _ hk=>hk.1),bB⟩
      rw [if_pos c27] at H
      have c27b0:decide (x7_2 < a1) = true:=decide_eq_true c27
      clear c27
      obtain ⟨⟨t737,t738,t739,t742⟩,A28,H⟩:=bQ H
      dsimp only at H
      by_cases c29:t742 = true
      ·subst c29
       have H1:(spec_ClockLater.l0 k2 a1 (wrap64 (x7_2 + 1)) t737 t738 t739) = some (r1,r2,r3,r4):=by rw [if_pos rfl] at H;exact H
       clear H
       have H:=H1
       clear H1
       have H':=aQ H
       clear H
       have XQ:=Zr.out
       have XR:=Zm.out
       have XS:=Zs.out
       have XT:=Zn.out
       obtain ⟨YN,YO,YP,YQ,YR,YS⟩:=cz3 Zd.out
       obtain ⟨Zy,Zz,Yf⟩:=Kd.N_slice Za.out
       subst Yf
       go_wp2_with (first | ((with_reducible refine gate_callee (f:=50) rfl ?_);refine goesL_ (some 28) rfl rfl Try.func50 (by kernel_rfl) rfl #[.agg #[.int .i64 x737000_2,.int .i64 x737001_2,.slice Zy x737002_2.length Zz]] rfl mP ?_;(with_reducible refine (spec_l17Pass.calls k2 x737000_2 x737001_2 _ _ x737002_2 t737 t738 t739 true _ ?Zp ?Zq A28.out).mono ?_);(case Zp=>repeat (first | exact (Kd.N_reads' Za.out).2.2 | (with_reducible refine Kd.C_alloc ?_ _) | (with_reducible refine Kd.C_drewN ?_ _) | (with_reducible refine Kd.C_drew ?_)));(case Zq=>exact (Kd.N_reads' Za.out).2.1);rintro e w34 ⟨v740,rfl,ho0,hb⟩;refine ⟨_,rfl,?_⟩;have Zt:=aQ (Kd.N_lower (Kd.N_mono (ok':=fun k_=>(w.heap.size ≤ k_)∧some k_ ≠ (.slice Zy x737002_2.length Zz:Value).ownBlock∧k_ ≠ Zl∧k_ ≠ Zh∧k_ ≠ Zi) ho0 (fun k_ hk_=>⟨(Nat.le_trans (below_size bB) hk_),(Kd.fresh' (Kd.N_lt (nN Za.out)) k_ hk_),(Kd.freshB (nB Zb.out) k_ hk_),(Kd.freshB (nB Zc.out) k_ hk_),(Kd.freshB (nB Zd.out) k_ hk_)⟩)) (below_size bB));replace Za:=aQ (Kd.N_elder' (nN Za.out) (Kd.N_base ho0) hb);replace Zb:=aQ (blk_below (nB Zb.out) hb);replace Zc:=aQ (blk_below (nB Zc.out) hb);replace Zd:=aQ (blk_below (nB Zd.out) hb);replace HB:=aQ (below_step bB hb);(try clear hb);(try clear ho0)) | ((with_reducible refine gate_dst (N:=8) rfl ?_);refine box1 (N:=8) (cs:=#[.int .i64 0,.int .i64 0,.slice none 0 0]) (t:=29) ?_;intro Ze hg w35 hbox hb;replace Za:=aQ (Kd.N_below (Kd.N_elderB (nN Za.out) Ze (Nat.le_of_eq hg.symm)) hb);replace Zt:=aQ (Kd.N_below (Kd.N_elderB (nN Zt.out) Ze (Nat.le_of_eq hg.symm)) hb);have ZC:=aQ (hbox);have ZD:=aQ (gB:w.heap.size ≤ Ze);have ZY:=ZD;replace HB:=aQ (below_step bB hb);have Zo:=aQ ((by rw [hg];exact Nat.ne_of_lt (blk_lt (nB Zb.out)):Zl ≠ Ze));have Zu:=aQ Zo.out.symm;replace Zb:=aQ (blk_below (nB Zb.out) hb);have Zf:=aQ ((by rw [hg];exact Nat.ne_of_lt (blk_lt (nB Zc.out)):Zh ≠ Ze));have Zv:=aQ Zf.out.symm;replace Zc:=aQ (blk_below (nB Zc.out) hb);have Zg:=aQ ((by rw [hg];exact Nat.ne_of_lt (blk_lt (nB Zd.out)):Zi ≠ Ze));have Zw:=aQ Zg.out.symm;replace Zd:=aQ (blk_below (nB Zd.out) hb);clear hb hbox hg;have XU:=Zu.out;have XV:=Zo.out;have XW:=Zv.out;have XX:=Zf.out;have XY:=Zw.out;have XZ:=Zg.out;obtain ⟨YT,YU,YV,YW,YX,YY⟩:=cz3 ZC.out;obtain ⟨ZE,ZF,Yg⟩:=Kd.N_slice Zt.out;subst Yg;obtain ⟨YZ,Xa,Xb,Xc,Xd,Xe⟩:=cz3 Zd.out))
       go_roundg k2
       case measure=>have:=HJ2.out;have:=HK2.out;omega
       case rel=>exact ⟨(wrap64 (x7_2 + 1)),(x729000_2),(x729001_2),(t737),(t738),(t739),(.slice ZE t739.length ZF),rfl,H',⟨by have:=HJ2.out;have:=HK2.out;omega⟩,⟨nN (Kd.N_mono (Kd.N_far (p:=⟨Zi,2,none⟩) (Kd.N_far (p:=⟨Zi,1,none⟩) (Kd.N_far (p:=⟨Zi,0,none⟩) (Kd.N_far (p:=⟨Ze,2,none⟩) (Kd.N_far (p:=⟨Ze,1,none⟩) (Kd.N_far (p:=⟨Ze,0,none⟩) (Kd.N_mono (Kd.N_mono Zt.out (fun k_ hk=>(⟨hk,hk.2⟩:_∧k_ ≠ Ze))) (fun k_ hk=>(⟨hk,hk.1.1.2.2.2.2⟩:_∧k_ ≠ Zi))) (fun _ hk=>hk.1.2) (.int .i64 t737)) (fun _ hk=>hk.1.2) (.int .i64 t738)) (fun _ hk=>hk.1.2) (.slice ZE t739.length ZF)) (fun _ hk=>hk.2) (.int .i64 t737)) (fun _ hk=>hk.2) (.int .i64 t738)) (fun _ hk=>hk.2) (.slice ZE t739.length ZF)) (fun _ hk=>⟨hk.1.1.1.1,⟨hk.1.1.1.2.2.1,⟨hk.1.1.1.2.2.2.1,hk.1.1.1.2.2.2.2⟩⟩⟩))⟩,⟨bF⟩,⟨bF⟩,⟨by (with_reducible repeat (first | refine blk_drewN ?_ _ | refine blk_drew ?_ | refine blk_alloc ?_ _));refine blk_put (cs:=#[.int .i64 t737,.int .i64 t738,.slice Zy x737002_2.length Zz]) ?_ 2 _ rfl;(with_reducible repeat (first | refine blk_drewN ?_ _ | refine blk_drew ?_ | refine blk_alloc ?_ _));refine blk_put (cs:=#[.int .i64 t737,.int .i64 x737001_2,.slice Zy x737002_2.length Zz]) ?_ 1 _ rfl;(with_reducible repeat (first | refine blk_drewN ?_ _ | refine blk_drew ?_ | refine blk_alloc ?_ _));refine blk_put (cs:=#[.int .i64 x737000_2,.int .i64 x737001_2,.slice Zy x737002_2.length Zz]) ?_ 0 _ rfl;(with_reducible repeat (first | refine blk_drewN ?_ _ | refine blk_drew ?_ | refine blk_alloc ?_ _));refine blk_far ?_ Zg.out _;(with_reducible repeat (first | refine blk_drewN ?_ _ | refine blk_drew ?_ | refine blk_alloc ?_ _));refine blk_far ?_ Zg.out _;(with_reducible repeat (first | refine blk_drewN ?_ _ | refine blk_drew ?_ | refine blk_alloc ?_ _));refine blk_far ?_ Zg.out _;(with_reducible repeat (first | refine blk_drewN ?_ _ | refine blk_drew ?_ | refine blk_alloc ?_ _));exact Zd.out⟩,⟨bB⟩⟩
      ·replace c29:=Bool.eq_false_iff.mpr c29
       subst c29
       have H1:(some (0,0,([]:List (S29)),false)) = some (r1,r2,r3,r4):=by rw [if_neg (show ¬ (false = true) by decide)] at H;exact H
       clear H
       have H:=H1
       clear H1
       simp only [Option.some.injEq,Prod.mk.injEq] at H
       obtain ⟨rfl,rfl,rfl,rfl⟩:=H
       have Wa:=Zr.out
       have Wb:=Zm.out
       have Wc:=Zs.out
       have Wd:=Zn.out
       obtain ⟨Xf,Xg,Xh,Xi,Xj,Xk⟩:=cz3 Zd.out
       obtain ⟨ZT,ZU,Yh⟩:=Kd.N_slice Za.out
       subst Yh
       go_wp2_with (first | ((with_reducible refine gate_callee (f:=50) rfl ?_);refine goesL_ (some 28) rfl rfl Try.func50 (by kernel_rfl) rfl #[.agg #[.int .i64 x737000_2,.int .i64 x737001_2,.slice ZT x737002_2.length ZU]] rfl mP ?_;(with_reducible refine (spec_l17Pass.calls k2 x737000_2 x737001_2 _ _ x737002_2 t737 t738 t739 false _ ?Zp ?Zq A28.out).mono ?_);(case Zp=>repeat (first | exact (Kd.N_reads' Za.out).2.2 | (with_reducible refine Kd.C_alloc ?_ _) | (with_reducible refine Kd.C_drewN ?_ _) | (with_reducible refine Kd.C_drew ?_)));(case Zq=>exact (Kd.N_reads' Za.out).2.1);rintro e w46 ⟨v740,rfl,ho0,hb⟩;refine ⟨_,rfl,?_⟩;have Zt:=aQ (Kd.N_lower (Kd.N_mono (ok':=fun k_=>(w.heap.size ≤ k_)∧some k_ ≠ (.slice ZT x737002_2.length ZU:Value).ownBlock∧k_ ≠ Zl∧k_ ≠ Zh∧k_ ≠ Zi) ho0 (fun k_ hk_=>⟨(Nat.le_trans (below_size bB) hk_),(Kd.fresh' (Kd.N_lt (nN Za.out)) k_ hk_),(Kd.freshB (nB Zb.out) k_ hk_),(Kd.freshB (nB Zc.out) k_ hk_),(Kd.freshB (nB Zd.out) k_ hk_)⟩)) (below_size bB));replace Za:=aQ (Kd.N_elder' (nN Za.out) (Kd.N_base ho0) hb);replace Zb:=aQ (blk_below (nB Zb.out) hb);replace Zc:=aQ (blk_below (nB Zc.out) hb);replace Zd:=aQ (blk_below (nB Zd.out) hb);replace HB:=aQ (below_step bB hb);(try clear hb);(try clear ho0)) | ((with_reducible refine gate_dst (N:=8) rfl ?_);refine box1 (N:=8) (cs:=#[.int .i64 0,.int .i64 0,.slice none 0 0]) (t:=29) ?_;intro Ze hg w47 hbox hb;replace Za:=aQ (Kd.N_below (Kd.N_elderB (nN Za.out) Ze (Nat.le_of_eq hg.symm)) hb);replace Zt:=aQ (Kd.N_below (Kd.N_elderB (nN Zt.out) Ze (Nat.le_of_eq hg.symm)) hb);have ZC:=aQ (hbox);have ZD:=aQ (gB:w.heap.size ≤ Ze);have ZY:=ZD;replace HB:=aQ (below_step bB hb);have Zo:=aQ ((by rw [hg];exact Nat.ne_of_lt (blk_lt (nB Zb.out)):Zl ≠ Ze));have Zu:=aQ Zo.out.symm;replace Zb:=aQ (blk_below (nB Zb.out) hb);have Zf:=aQ ((by rw [hg];exact Nat.ne_of_lt (blk_lt (nB Zc.out)):Zh ≠ Ze));have Zv:=aQ Zf.out.symm;replace Zc:=aQ (blk_below (nB Zc.out) hb);have Zg:=aQ ((by rw [hg];exact Nat.ne_of_lt (blk_lt (nB Zd.out)):Zi ≠ Ze));have Zw:=aQ Zg.out.symm;replace Zd:=aQ (blk_below (nB Zd.out) hb);clear hb hbox hg;have We:=Zu.out;have Wf:=Zo.out;have Wg:=Zv.out;have Wh:=Zf.out;have Wi:=Zw.out;have Wj:=Zg.out;obtain ⟨Xl,Xm,Xn,Xo,Xp,Xq⟩:=cz3 ZC.out;obtain ⟨Wo,Wp,Yi⟩:=Kd.N_slice Zt.out;subst Yi;have Wk:=Zk.out;have Wl:=Zj.out;obtain ⟨Xr,Xs,Xt,Xu,Xv,Xw⟩:=cz3 Zc.out))
       refine bodyPost_ret (results_ct rfl _ _ Zh 29 #[.int .i64 0,.int .i64 0,.slice none 0 0] (0,0) _ rfl (by (with_reducible repeat (first | refine blk_drewN ?_ _ | refine blk_drew ?_ | refine blk_alloc ?_ _));refine blk_put (cs:=#[.int .i64 0,.int .i64 0,.slice none 0 0]) ?_ 2 _ rfl;(with_reducible repeat (first | refine blk_drewN ?_ _ | refine blk_drew ?_ | refine blk_alloc ?_ _));refine blk_put (cs:=#[.int .i64 0,.int .i64 x729001_2,.slice none 0 0]) ?_ 1 _ rfl;(with_reducible repeat (first | refine blk_drewN ?_ _ | refine blk_drew ?_ | refine blk_alloc ?_ _));refine blk_put (cs:=#[.int .i64 x729000_2,.int .i64 x729001_2,.slice none 0 0]) ?_ 0 _ rfl;(with_reducible repeat (first | refine blk_drewN ?_ _ | refine blk_drew ?_ | refine blk_alloc ?_ _));refine blk_far ?_ Zf.out _;(with_reducible repeat (first | refine blk_drewN ?_ _ | refine blk_drew ?_ | refine blk_alloc ?_ _));refine blk_far ?_ Zf.out _;(with_reducible repeat (first | refine blk_drewN ?_ _ | refine blk_drew ?_ | refine blk_alloc ?_ _));refine blk_far ?_ Zf.out _;(with_reducible repeat (first | refine blk_drewN ?_ _ | refine blk_drew ?_ | refine blk_alloc ?_ _));exact Zc.out) Try.underlying29 rfl (by kernel_rfl)) rfl ?_
       exact ⟨_,rfl,by first | exact Kd.R_nil _ _ _ _ _ | exact Kd.N_nil _ _ _ _ _ | exact Kd.V_nil _ _ _ _ _ | exact Kd.Q_nil _ _ _ _ _ | exact Kd.S_nil _ _ _ _ _,bB⟩
mutual
def laws_heldClockS.l0:Nat → List (S29) → Int → Int → Option (Int)
 | 0,_,_,_=>none
 | k + 1,x0,x1,x5=>if x5 < (x0.length:Int) then (if 0 ≤ x5 then (if ((rd_T29 x0 x5).f0) = x1 then (if ((rd_T29 x0 x5).f1) = (wrap64 (x1 + 1)) then ((laws_heldClockS.f k ((rd_T29 x0 x5).f2) (wrap64 ((wrap64 (x1 + 1)) + 1))).bind fun t682=>(if t682 < 0 then (some (-1)) else (laws_heldClockS.l0 k x0 t682 (wrap64 (x5 + 1))))) else (some (-1))) else (some (-1))) else (none)) else (some x1)
def laws_heldClockS.f:Nat → List (S29) → Int → Option (Int)
 | 0,_,_=>none
 | k + 1,l0,a1=>laws_heldClockS.l0 k l0 a1 0
end
theorem laws_heldClockS.mono_l:∀ k,(∀ y0 y1,LeO (laws_heldClockS.f k y0 y1) (laws_heldClockS.f (k + 1) y0 y1))∧(∀ y0 y1 y2,LeO (laws_heldClockS.l0 k y0 y1 y2) (laws_heldClockS.l0 (k + 1) y0 y1 y2))
 | 0=>⟨fun _ _ r h=>by simp [laws_heldClockS.f] at h,fun _ _ _ r h=>by simp [laws_heldClockS.l0] at h⟩
 | k + 1=>by
  obtain ⟨ih0,ih1⟩:=laws_heldClockS.mono_l k
  refine ⟨?_,?_⟩
  ·intro y0 y1
   unfold laws_heldClockS.f
   repeat' first
   | (with_reducible exact ih0 _ _)
   | (with_reducible exact ih1 _ _ _)
   | (with_reducible exact LeO.refl _)
   | (with_reducible exact LeO.none _)
   | (with_reducible refine LeO.ite ?_ ?_)
   | (with_reducible refine LeO.bind ?_ (fun _=>?_))
   | exact ih0 _ _
   | exact ih1 _ _ _
   | exact LeO.none _
   | refine LeO.ite ?_ ?_
   | refine LeO.bind ?_ (fun _=>?_)
  ·intro y0 y1 y2
   unfold laws_heldClockS.l0
   repeat' first
   | (with_reducible exact ih0 _ _)
   | (with_reducible exact ih1 _ _ _)
   | (with_reducible exact LeO.refl _)
   | (with_reducible exact LeO.none _)
   | (with_reducible refine LeO.ite ?_ ?_)
   | (with_reducible refine LeO.bind ?_ (fun _=>?_))
   | exact ih0 _ _
   | exact ih1 _ _ _
   | exact LeO.none _
   | refine LeO.ite ?_ ?_
   | refine LeO.bind ?_ (fun _=>?_)
theorem laws_heldClockS.mono:∀ a0 a1 k,LeO (laws_heldClockS.f k a0 a1) (laws_heldClockS.f (k + 1) a0 a1):=by
 intro a0 a1 k
 obtain ⟨ih0,ih1⟩:=laws_heldClockS.mono_l k
 exact ih0 a0 a1
set_option maxHeartbeats 8000000 in
set_option maxRecDepth 100000 in
theorem laws_heldClockS.calls (k:Nat):∀ (A0:Option Addr) (c0:Nat) (l0:List (S29)) (a1:Int) (r:Int) (w:World) (hr0:Kd.C k29 w A0 l0.length l0) (hc0:l0.length ≤ c0) (h:laws_heldClockS.f k l0 a1 = some r),
  Calls Try.prog 55 #[.slice A0 l0.length c0,.int .i64 a1] w fun e w'=>e = .returned (.int .i64 r)∧Drawn0 w w':=by
 induction k using Nat.strongRecOn with
 | _ k ih =>
 intro A0 c0 l0 a1 r w hr0 hc0 h
 cases k with
 | zero=>exact absurd h (by simp [laws_heldClockS.f])
 | succ k =>
 simp only [laws_heldClockS.f] at h
 have Zj:=Aside0.mk hr0
 have ZB:=Aside0.mk hc0
 clear hr0 hc0
 have H:(laws_heldClockS.l0 k l0 a1 0) = some r:=h
 clear h
 have H':=Aside0.mk H
 clear H
 go_enter Try.func55,Try.ntmps55
 go_wp2
 go_loopg [1,5] k (fun kq v1 v5 w'=>∃ (x1_1:Int) (x5_1:Int),v1 = .int .i64 x1_1∧v5 = .int .i64 x5_1∧Aside0 (laws_heldClockS.l0 kq l0 x1_1 x5_1 = some r)∧Aside0 (kq ≤ k)∧Drawn0 w w')
 case atStart=>exact ⟨(a1),(0),(by first | rfl | (simp;done) | (simp [*];done)),(by first | rfl | (simp;done) | (simp [*];done)),H',⟨Nat.le_refl _⟩,by repeat (first | exact Drawn0.refl _ | apply Drawn0.step)⟩
 case round =>
  clear H'
  try clear p2
  obtain ⟨x1_1,x5_1,rfl,rfl,HA,HK1,⟨m1,rfl⟩⟩:=hrel
  cases gk with
  | zero=>exact absurd HA.out (by simp [laws_heldClockS.l0])
  | succ k1 =>
   have H:=HA.out
   clear HA
   simp only [laws_heldClockS.l0] at H
   by_cases c3:x5_1 < (l0.length:Int)
   ·rw [if_pos c3] at H
    have c3b0:decide (x5_1 < (l0.length:Int)) = true:=decide_eq_true c3
    clear c3
    by_cases c4:0 ≤ x5_1
    ·rw [if_pos c4] at H
     have c4b0:decide (0 ≤ x5_1) = true:=decide_eq_true c4
     clear c4
     by_cases c5:((rd_T29 l0 x5_1).f0) = x1_1
     ·rw [if_pos c5] at H
      have c5b0:(((rd_T29 l0 x5_1).f0) == x1_1) = true:=beq_iff_eq.mpr c5
      have c5b1:(((rd_T29 l0 x5_1).f0) != x1_1) = false:=bne_eq_false_iff_eq.mpr c5
      clear c5
      by_cases c6:((rd_T29 l0 x5_1).f1) = (wrap64 (x1_1 + 1))
      ·rw [if_pos c6] at H
       have c6b0:(((rd_T29 l0 x5_1).f1) == (wrap64 (x1_1 + 1))) = true:=beq_iff_eq.mpr c6
       have c6b1:(((rd_T29 l0 x5_1).f1) != (wrap64 (x1_1 + 1))) = false:=bne_eq_false_iff_eq.mpr c6
       clear c6
       replace H:=Option.bind_eq_some_iff.mp H
       obtain ⟨t682,A70,H⟩:=H
       replace H:(if t682 < 0 then (some (-1)) else (laws_heldClockS.l0 k1 l0 t682 (wrap64 (x5_1 + 1)))) = some r:=H
       have A7:=Aside0.mk A70
       clear A70
       by_cases c8:t682 < 0
       ·rw [if_pos c8] at H
        have c8b0:decide (t682 < 0) = true:=decide_eq_true c8
        clear c8
        obtain rfl:=Option.some.inj H
        have p679:0 ≤ (x5_1:Int):=of_decide_eq_true (by first | (with_reducible assumption) | assumption)
        have q679:x5_1 < (l0.length:Int):=of_decide_eq_true (by first | (with_reducible assumption) | assumption)
        obtain ⟨Zf,A679_2,c679_2,e679,Zl,Zm,Zc,Za,Zb⟩:=at_T29 Zj.out x5_1 p679 q679
        cases e679
        have Zn:=Aside0.mk Zb
        have Zo:=Aside0.mk Za
        clear Zb Za
        replace p679:=eq_true p679
        replace q679:=eq_true q679
        have p680:0 ≤ (x5_1:Int):=of_decide_eq_true (by first | (with_reducible assumption) | assumption)
        have q680:x5_1 < (l0.length:Int):=of_decide_eq_true (by first | (with_reducible assumption) | assumption)
        obtain ⟨Zk,A680_2,c680_2,e680,Zs,Zt,Zg,Zd,Ze⟩:=at_T29 Zj.out x5_1 p680 q680
        obtain rfl:Zf = Zk:=(by injection e680)
        have Zu:=Aside0.mk Ze
        have Zv:=Aside0.mk Zd
        clear Ze Zd
        replace p680:=eq_true p680
        replace q680:=eq_true q680
        have ea_:=Option.some.inj (Zc.symm.trans Zg)
        injection ea_ with ea_ en_ ec_
        subst ea_
        subst ec_
        clear en_
        have p681:0 ≤ (x5_1:Int):=of_decide_eq_true (by first | (with_reducible assumption) | assumption)
        have q681:x5_1 < (l0.length:Int):=of_decide_eq_true (by first | (with_reducible assumption) | assumption)
        obtain ⟨Zw,A681_2,c681_2,e681,Zz,ZA,Zp,Zh,Zi⟩:=at_T29 Zj.out x5_1 p681 q681
        obtain rfl:Zf = Zw:=(by injection e681)
        have Zq:=Aside0.mk Zi
        have Zr:=Aside0.mk Zh
        clear Zi Zh
        replace p681:=eq_true p681
        replace q681:=eq_true q681
        have ea_:=Option.some.inj (Zc.symm.trans Zp)
        injection ea_ with ea_ en_ ec_
        subst ea_
        subst ec_
        clear en_
        go_wp2_with (first | ((with_reducible refine gate_callee (f:=55) rfl ?_);refine goesL_ (some 36) rfl rfl Try.func55 (by kernel_rfl) rfl #[.slice A679_2 ((rd_T29 l0 x5_1).f2).length c679_2,.int .i64 (wrap64 ((wrap64 (x1_1 + 1)) + 1))] rfl (by (try simp only [List.map_toArray,List.map_cons,List.map_nil]);first | done | rfl | (simp only [List.length_drop,List.length_take];rfl)) ?_;(with_reducible refine (ih k1 (by have:=HK1.out;omega) _ _ ((rd_T29 l0 x5_1).f2) (wrap64 ((wrap64 (x1_1 + 1)) + 1)) t682 _ ?Zx ?Zy A7.out).mono ?_);(case Zx=>repeat (first | exact Zq.out | (with_reducible refine Kd.C_alloc ?_ _) | (with_reducible refine Kd.C_drewN ?_ _) | (with_reducible refine Kd.C_drew ?_)));(case Zy=>exact Zr.out);rintro e w' ⟨rfl,⟨nd,rfl⟩⟩;refine ⟨_,rfl,?_⟩))
        go_ret
        exact ⟨by first | rfl | (simp;done) | (simp [*];done),by repeat (first | exact Drawn0.refl _ | apply Drawn0.step)⟩
       ·rw [if_neg c8] at H
        have c8b0:decide (t682 < 0) = false:=decide_eq_false c8
        clear c8
        have H':=Aside0.mk H
        clear H
        have p679:0 ≤ (x5_1:Int):=of_decide_eq_true (by first | (with_reducible assumption) | assumption)
        have q679:x5_1 < (l0.length:Int):=of_decide_eq_true (by first | (with_reducible assumption) | assumption)
        obtain ⟨Zf,A679_2,c679_2,e679,Zl,Zm,Zc,Za,Zb⟩:=at_T29 Zj.out x5_1 p679 q679
        cases e679
        have Zn:=Aside0.mk Zb
        have Zo:=Aside0.mk Za
        clear Zb Za
        replace p679:=eq_true p679
        replace q679:=eq_true q679
        have p680:0 ≤ (x5_1:Int):=of_decide_eq_true (by first | (with_reducible assumption) | assumption)
        have q680:x5_1 < (l0.length:Int):=of_decide_eq_true (by first | (with_reducible assumption) | assumption)
        obtain ⟨Zk,A680_2,c680_2,e680,Zs,Zt,Zg,Zd,Ze⟩:=at_T29 Zj.out x5_1 p680 q680
        obtain rfl:Zf = Zk:=(by injection e680)
        have Zu:=Aside0.mk Ze
        have Zv:=Aside0.mk Zd
        clear Ze Zd
        replace p680:=eq_true p680
        replace q680:=eq_true q680
        have ea_:=Option.some.inj (Zc.symm.trans Zg)
        injection ea_ with ea_ en_ ec_
        subst ea_
        subst ec_
        clear en_
        have p681:0 ≤ (x5_1:Int):=of_decide_eq_true (by first | (with_reducible assumption) | assumption)
        have q681:x5_1 < (l0.length:Int):=of_decide_eq_true (by first | (with_reducible assumption) | assumption)
        obtain ⟨Zw,A681_2,c681_2,e681,Zz,ZA,Zp,Zh,Zi⟩:=at_T29 Zj.out x5_1 p681 q681
        obtain rfl:Zf = Zw:=(by injection e681)
        have Zq:=Aside0.mk Zi
        have Zr:=Aside0.mk Zh
        clear Zi Zh
        replace p681:=eq_true p681
        replace q681:=eq_true q681
        have ea_:=Option.some.inj (Zc.symm.trans Zp)
        injection ea_ with ea_ en_ ec_
        subst ea_
        subst ec_
        clear en_
        go_wp2_with (first | ((with_reducible refine gate_callee (f:=55) rfl ?_);refine goesL_ (some 36) rfl rfl Try.func55 (by kernel_rfl) rfl #[.slice A679_2 ((rd_T29 l0 x5_1).f2).length c679_2,.int .i64 (wrap64 ((wrap64 (x1_1 + 1)) + 1))] rfl (by (try simp only [List.map_toArray,List.map_cons,List.map_nil]);first | done | rfl | (simp only [List.length_drop,List.length_take];rfl)) ?_;(with_reducible refine (ih k1 (by have:=HK1.out;omega) _ _ ((rd_T29 l0 x5_1).f2) (wrap64 ((wrap64 (x1_1 + 1)) + 1)) t682 _ ?Zx ?Zy A7.out).mono ?_);(case Zx=>repeat (first | exact Zq.out | (with_reducible refine Kd.C_alloc ?_ _) | (with_reducible refine Kd.C_drewN ?_ _) | (with_reducible refine Kd.C_drew ?_)));(case Zy=>exact Zr.out);rintro e w' ⟨rfl,⟨nd,rfl⟩⟩;refine ⟨_,rfl,?_⟩))
        go_roundg k1
        case measure=>have:=HK1.out;omega
        case rel=>exact ⟨(t682),(wrap64 (x5_1 + 1)),(by first | rfl | (simp;done) | (simp [*];done)),(by first | rfl | (simp;done) | (simp [*];done)),H',⟨by have:=HK1.out;omega⟩,by repeat (first | exact Drawn0.refl _ | apply Drawn0.step)⟩
      ·rw [if_neg c6] at H
       have c6b0:(((rd_T29 l0 x5_1).f1) == (wrap64 (x1_1 + 1))) = false:=beq_eq_false_iff_ne.mpr c6
       have c6b1:(((rd_T29 l0 x5_1).f1) != (wrap64 (x1_1 + 1))) = true:=bne_iff_ne.mpr c6
       obtain rfl:=Option.some.inj H
       have p679:0 ≤ (x5_1:Int):=of_decide_eq_true (by first | (with_reducible assumption) | assumption)
       have q679:x5_1 < (l0.length:Int):=of_decide_eq_true (by first | (with_reducible assumption) | assumption)
       obtain ⟨Zf,A679_2,c679_2,e679,Zl,Zm,Zc,Za,Zb⟩:=at_T29 Zj.out x5_1 p679 q679
       cases e679
       have Zn:=Aside0.mk Zb
       have Zo:=Aside0.mk Za
       clear Zb Za
       replace p679:=eq_true p679
       replace q679:=eq_true q679
       have p680:0 ≤ (x5_1:Int):=of_decide_eq_true (by first | (with_reducible assumption) | assumption)
       have q680:x5_1 < (l0.length:Int):=of_decide_eq_true (by first | (with_reducible assumption) | assumption)
       obtain ⟨Zk,A680_2,c680_2,e680,Zs,Zt,Zg,Zd,Ze⟩:=at_T29 Zj.out x5_1 p680 q680
       obtain rfl:Zf = Zk:=(by injection e680)
       have Zu:=Aside0.mk Ze
       have Zv:=Aside0.mk Zd
       clear Ze Zd
       replace p680:=eq_true p680
       replace q680:=eq_true q680
       have ea_:=Option.some.inj (Zc.symm.trans Zg)
       injection ea_ with ea_ en_ ec_
       subst ea_
       subst ec_
       clear en_
       go_wp2
       go_ret
       exact ⟨by first | rfl | (simp;done) | (simp [*];done),by repeat (first | exact Drawn0.refl _ | apply Drawn0.step)⟩
     ·rw [if_neg c5] at H
      have c5b0:(((rd_T29 l0 x5_1).f0) == x1_1) = false:=beq_eq_false_iff_ne.mpr c5
      have c5b1:(((rd_T29 l0 x5_1).f0) != x1_1) = true:=bne_iff_ne.mpr c5
      obtain rfl:=Option.some.inj H
      have p679:0 ≤ (x5_1:Int):=of_decide_eq_true (by first | (with_reducible assumption) | assumption)
      have q679:x5_1 < (l0.length:Int):=of_decide_eq_true (by first | (with_reducible assumption) | assumption)
      obtain ⟨Zf,A679_2,c679_2,e679,Zl,Zm,Zc,Za,Zb⟩:=at_T29 Zj.out x5_1 p679 q679
      cases e679
      have Zn:=Aside0.mk Zb
      have Zo:=Aside0.mk Za
      clear Zb Za
      replace p679:=eq_true p679
      replace q679:=eq_true q679
      go_wp2
      go_ret
      exact ⟨by first | rfl | (simp;done) | (simp [*];done),by repeat (first | exact Drawn0.refl _ | apply Drawn0.step)⟩
    ·rw [if_neg c4] at H
     exact absurd H (by simp)
   ·rw [if_neg c3] at H
    have c3b0:decide (x5_1 < (l0.length:Int)) = false:=decide_eq_false c3
    clear c3
    obtain rfl:=Option.some.inj H
    go_wp2
    go_ret
    exact ⟨by first | rfl | (simp;done) | (simp [*];done),by repeat (first | exact Drawn0.refl _ | apply Drawn0.step)⟩
def laws_heldClock.f (k:Nat) (a0_0:Int) (a0_1:Int) (l0_2:List (S29)) (a1:Int):Option (Int):=(laws_heldClockS.f k l0_2 a1).bind fun t855=>(if t855 < 0 then (some (-1)) else (some t855))
theorem laws_heldClock.mono:∀ a0 a1 a2 a3 k,LeO (laws_heldClock.f k a0 a1 a2 a3) (laws_heldClock.f (k + 1) a0 a1 a2 a3):=by
 intro a0 a1 a2 a3 k
 unfold laws_heldClock.f
 repeat' first
   | (with_reducible exact laws_heldClockS.mono _ _ _)
   | (with_reducible exact LeO.refl _)
   | (with_reducible exact LeO.none _)
   | (with_reducible refine LeO.ite ?_ ?_)
   | (with_reducible refine LeO.bind ?_ (fun _=>?_))
   | exact laws_heldClockS.mono _ _ _
   | exact LeO.none _
   | refine LeO.ite ?_ ?_
   | refine LeO.bind ?_ (fun _=>?_)
set_option maxHeartbeats 8000000 in
set_option maxRecDepth 100000 in
theorem laws_heldClock.calls (k:Nat) (a0_0:Int) (a0_1:Int) (A0_2:Option Addr) (c0_2:Nat) (l0_2:List (S29)) (a1:Int) (r:Int) (w:World) (hr0_2:Kd.C k29 w A0_2 l0_2.length l0_2) (hc0_2:l0_2.length ≤ c0_2) (h:laws_heldClock.f k a0_0 a0_1 l0_2 a1 = some r) :
  Calls Try.prog 35 #[.agg #[.int .i64 a0_0,.int .i64 a0_1,.slice A0_2 l0_2.length c0_2],.int .i64 a1] w fun e w'=>e = .returned (.int .i64 r)∧Below w.heap.size w w':=by
 have hu29:=Try.underlying29
 have Zf:=Aside0.mk hr0_2
 have Zg:=Aside0.mk hc0_2
 clear hr0_2 hc0_2
 have HB:=Aside0.mk (Below.refl w.heap.size w)
 have H:((laws_heldClockS.f k l0_2 a1).bind fun t855=>(if t855 < 0 then (some (-1)) else (some t855))) = some r:=h
 clear h
 replace H:=Option.bind_eq_some_iff.mp H
 obtain ⟨t855,A30,H⟩:=H
 replace H:(if t855 < 0 then (some (-1)) else (some t855)) = some r:=H
 have A3:=Aside0.mk A30
 clear A30
 by_cases c4:t855 < 0
 ·rw [if_pos c4] at H
  have c4b0:decide (t855 < 0) = true:=decide_eq_true c4
  clear c4
  obtain rfl:=Option.some.inj H
  go_enter Try.func35,Try.ntmps35
  go_wp2_with (first | ((with_reducible refine gate_dst (N:=2) rfl ?_);refine box_event ?hg (N:=2) ?hd (cs:=#[.int .i64 a0_0,.int .i64 a0_1,.slice A0_2 l0_2.length c0_2]) (t:=29) ?hr ?_;(case hd=>rfl);(case hg=>rfl);(case hr=>first | (go_simp;done) | (go_simp;rfl));intro Zb hg w5 hbox hb;have n0_:=Aside0.mk (below_step (by repeat (first | (with_reducible first | exact HB.out | apply below_alloc | apply pw_below_drewN | apply below_drew1) | exact HB.out)) hb);have n1_:=Aside0.mk (hbox);have n2_:=Aside0.mk ((by rw [hg];exact (below_size (by repeat (first | (with_reducible first | exact HB.out | apply below_alloc | apply pw_below_drewN | apply below_drew1) | exact HB.out))):w.heap.size ≤ Zb));have n3_:=Aside0.mk ((by rw [hg];exact (below_size (by repeat (first | (with_reducible first | exact HB.out | apply below_alloc | apply pw_below_drewN | apply below_drew1) | exact HB.out))):w.heap.size ≤ Zb));clear HB;have HB:=n0_;have Za:=n1_;have Zh:=n2_;have Zc:=n3_;clear n0_ n1_ n2_ n3_;clear hb hbox hg;have Zi:w5.cell? ⟨Zb,0,none⟩ = some (.int .i64 a0_0):=(blk_cell Za.out 0).trans rfl;have Zj:w5.cell? ⟨Zb,1,none⟩ = some (.int .i64 a0_1):=(blk_cell Za.out 1).trans rfl;have Zk:w5.cell? ⟨Zb,2,none⟩ = some (.slice A0_2 l0_2.length c0_2):=(blk_cell Za.out 2).trans rfl;have Zl:=blk_frozen Za.out 0;have Zm:=blk_frozen Za.out 1;have Zn:=blk_frozen Za.out 2) | ((with_reducible refine gate_callee (f:=55) rfl ?_);refine goesL_ (some 8) rfl rfl Try.func55 (by kernel_rfl) rfl #[.slice A0_2 l0_2.length c0_2,.int .i64 a1] rfl (by (try simp only [List.map_toArray,List.map_cons,List.map_nil]);first | done | rfl | (simp only [List.length_drop,List.length_take];rfl)) ?_;(with_reducible refine (laws_heldClockS.calls k _ _ l0_2 a1 t855 _ ?Zd ?Ze A3.out).mono ?_);(case Zd=>repeat (first | exact (Kd.C_below Zf.out HB.out) | (with_reducible refine Kd.C_alloc ?_ _) | (with_reducible refine Kd.C_drewN ?_ _) | (with_reducible refine Kd.C_drew ?_)));(case Ze=>exact Zg.out);rintro e w' ⟨rfl,⟨nd,rfl⟩⟩;refine ⟨_,rfl,?_⟩))
  go_ret
  exact ⟨by first | rfl | (simp [errW_none,errW_some] <;> rfl) | (simp [*,errW_none,errW_some] <;> rfl),by repeat (first | (with_reducible first | exact HB.out | apply below_alloc | apply pw_below_drewN | apply below_drew1 | refine below_set ?_ Zc.out) | exact HB.out)⟩
 ·rw [if_neg c4] at H
  have c4b0:decide (t855 < 0) = false:=decide_eq_false c4
  clear c4
  obtain rfl:=Option.some.inj H
  go_enter Try.func35,Try.ntmps35
  go_wp2_with (first | ((with_reducible refine gate_dst (N:=2) rfl ?_);refine box_event ?hg (N:=2) ?hd (cs:=#[.int .i64 a0_0,.int .i64 a0_1,.slice A0_2 l0_2.length c0_2]) (t:=29) ?hr ?_;(case hd=>rfl);(case hg=>rfl);(case hr=>first | (go_simp;done) | (go_simp;rfl));intro Zb hg w7 hbox hb;have n0_:=Aside0.mk (below_step (by repeat (first | (with_reducible first | exact HB.out | apply below_alloc | apply pw_below_drewN | apply below_drew1) | exact HB.out)) hb);have n1_:=Aside0.mk (hbox);have n2_:=Aside0.mk ((by rw [hg];exact (below_size (by repeat (first | (with_reducible first | exact HB.out | apply below_alloc | apply pw_below_drewN | apply below_drew1) | exact HB.out))):w.heap.size ≤ Zb));have n3_:=Aside0.mk ((by rw [hg];exact (below_size (by repeat (first | (with_reducible first | exact HB.out | apply below_alloc | apply pw_below_drewN | apply below_drew1) | exact HB.out))):w.heap.size ≤ Zb));clear HB;have HB:=n0_;have Za:=n1_;have Zh:=n2_;have Zc:=n3_;clear n0_ n1_ n2_ n3_;clear hb hbox hg;have Zo:w7.cell? ⟨Zb,0,none⟩ = some (.int .i64 a0_0):=(blk_cell Za.out 0).trans rfl;have Zp:w7.cell? ⟨Zb,1,none⟩ = some (.int .i64 a0_1):=(blk_cell Za.out 1).trans rfl;have Zq:w7.cell? ⟨Zb,2,none⟩ = some (.slice A0_2 l0_2.length c0_2):=(blk_cell Za.out 2).trans rfl;have Zr:=blk_frozen Za.out 0;have Zs:=blk_frozen Za.out 1;have Zt:=blk_frozen Za.out 2) | ((with_reducible refine gate_callee (f:=55) rfl ?_);refine goesL_ (some 8) rfl rfl Try.func55 (by kernel_rfl) rfl #[.slice A0_2 l0_2.length c0_2,.int .i64 a1] rfl (by (try simp only [List.map_toArray,List.map_cons,List.map_nil]);first | done | rfl | (simp only [List.length_drop,List.length_take];rfl)) ?_;(with_reducible refine (laws_heldClockS.calls k _ _ l0_2 a1 t855 _ ?Zd ?Ze A3.out).mono ?_);(case Zd=>repeat (first | exact (Kd.C_below Zf.out HB.out) | (with_reducible refine Kd.C_alloc ?_ _) | (with_reducible refine Kd.C_drewN ?_ _) | (with_reducible refine Kd.C_drew ?_)));(case Ze=>exact Zg.out);rintro e w' ⟨rfl,⟨nd,rfl⟩⟩;refine ⟨_,rfl,?_⟩))
  go_ret
  exact ⟨by first | rfl | (simp [errW_none,errW_some] <;> rfl) | (simp [*,errW_none,errW_some] <;> rfl),by repeat (first | (with_reducible first | exact HB.out | apply below_alloc | apply pw_below_drewN | apply below_drew1 | refine below_set ?_ Zc.out) | exact HB.out)⟩
end Go.Proofs.Ytnkgcjdlfenepaa.P
