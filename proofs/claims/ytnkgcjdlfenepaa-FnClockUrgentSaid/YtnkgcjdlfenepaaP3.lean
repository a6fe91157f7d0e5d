/- What the Go functions that the laws reach compute, and that their calls come to just that: told by a program of this session (aprint.py). No condition. -/
import Derived.Test.YtnkgcjdlfenepaaP0
import Derived.Test.YtnkgcjdlfenepaaP1
import Derived.Test.YtnkgcjdlfenepaaP2
import Derived.Test.YtnkgcjdlfenepaaCut
namespace Go.Proofs.Ytnkgcjdlfenepaa.P
open Go.RowKit Go.Proofs.YtnkgcjdlfenepaaW.PrintWords Go.Proofs.YtnkgcjdlfenepaaW.PrintLast Go.Proofs.YtnkgcjdlfenepaaW.PrintMore
attribute [local go_sem] max2_int min2_int max_two min_two max_three min_three max_four min_four
set_option linter.unusedVariables false
set_option linter.unusedSimpArgs false
def spec_l17Pass.f:Nat → Int → Int → List (S29) → Option (Int × Int × (List (S29)) × Bool)
 | 0,_,_,_=>none
 | k + 1,a0_0,a0_1,l0_2=>if a0_0 = 0 then (some (0,0,([]:List (S29)),true)) else (if a0_0 = 1 then ((spec_l17Copy.f k a0_0 a0_1 l0_2).bind fun bt521=>(some (bt521.1,bt521.2.1,bt521.2.2,(a0_1 != 0)))) else (if a0_0 = 2 then (if a0_1 = 1 then (if 0 < (l0_2.length:Int) then ((spec_l17Copy.f k ((rd_T29 l0_2 0).f0) ((rd_T29 l0_2 0).f1) ((rd_T29 l0_2 0).f2)).bind fun bt527=>(some (bt527.1,bt527.2.1,bt527.2.2,true))) else (none)) else (if 0 < (l0_2.length:Int) then ((spec_l17Copy.f k ((rd_T29 l0_2 0).f0) ((rd_T29 l0_2 0).f1) ((rd_T29 l0_2 0).f2)).bind fun bt533=>(some (a0_0,wrap64 (a0_1 - 1),(([(⟨bt533.1,bt533.2.1,bt533.2.2⟩:S29)]:List (S29))),true))) else (none))) else (if 0 < (l0_2.length:Int) then ((spec_l17Pass.f k ((rd_T29 l0_2 0).f0) ((rd_T29 l0_2 0).f1) ((rd_T29 l0_2 0).f2)).bind fun bt542=>(if 1 < (l0_2.length:Int) then ((spec_l17Pass.f k ((rd_T29 l0_2 1).f0) ((rd_T29 l0_2 1).f1) ((rd_T29 l0_2 1).f2)).bind fun bt550=>(if bt542.2.2.2 = true then (if bt550.2.2.2 = true then (if a0_0 = 4 then ((spec_l17Meet.f k ((rd_T29 l0_2 0).f0) ((rd_T29 l0_2 0).f1) ((rd_T29 l0_2 0).f2) ((rd_T29 l0_2 1).f0) ((rd_T29 l0_2 1).f1) ((rd_T29 l0_2 1).f2)).bind fun t559=>(if t559 = true then (some (0,0,([]:List (S29)),false)) else ((spec_l17Two.f a0_0 bt542.1 bt542.2.1 bt542.2.2.1 bt550.1 bt550.2.1 bt550.2.2.1).bind fun bt560=>(some (bt560.1,bt560.2.1,bt560.2.2,true))))) else ((spec_l17Two.f a0_0 bt542.1 bt542.2.1 bt542.2.2.1 bt550.1 bt550.2.1 bt550.2.2.1).bind fun bt565=>(some (bt565.1,bt565.2.1,bt565.2.2,true)))) else (some (0,0,([]:List (S29)),false))) else (some (0,0,([]:List (S29)),false)))) else (none))) else (none))))
theorem spec_l17Pass.mono_l:∀ k,(∀ y0 y1 y2,LeO (spec_l17Pass.f k y0 y1 y2) (spec_l17Pass.f (k + 1) y0 y1 y2))
 | 0=>fun _ _ _ r h=>by simp [spec_l17Pass.f] at h
 | k + 1=>by
  have ih0:=spec_l17Pass.mono_l k
  ·intro y0 y1 y2
   unfold spec_l17Pass.f
   repeat' first
   | (with_reducible exact ih0 _ _ _)
   | (with_reducible exact spec_l17Copy.mono _ _ _ _)
   | (with_reducible exact spec_l17Meet.mono _ _ _ _ _ _ _)
   | (with_reducible exact LeO.refl _)
   | (with_reducible exact LeO.none _)
   | (with_reducible refine LeO.ite ?_ ?_)
   | (with_reducible refine LeO.bind ?_ (fun _=>?_))
   | exact ih0 _ _ _
   | exact spec_l17Copy.mono _ _ _ _
   | exact spec_l17Meet.mono _ _ _ _ _ _ _
   | exact LeO.none _
   | refine LeO.ite ?_ ?_
   | refine LeO.bind ?_ (fun _=>?_)
theorem spec_l17Pass.mono:∀ a0 a1 a2 k,LeO (spec_l17Pass.f k a0 a1 a2) (spec_l17Pass.f (k + 1) a0 a1 a2):=by
 intro a0 a1 a2 k
 have ih0:=spec_l17Pass.mono_l k
 exact ih0 a0 a1 a2
def spec_l17Pass.T9:Bool × List (List Nat × List Nat):=(true,[([],[]),([0],[0]),([],[]),([2],[2]),([3],[3]),([],[]),([5],[5]),([6],[6]),([7],[7]),([8],[8]),([9],[9]),([1,4,10],[1,4,10]),([11,9,0,1,2,3,4,5,6,7,8,9,10,11],[11]),([12,0,1,2,3,4,5,6,7,8,9,10,11,12],[])])
def spec_l17Pass.B9:List Nat:=[0,1,0,4,12,0,32,96,224,480,992,2047,4095,8191]
theorem spec_l17Pass.tab9:rtab .any (opsOf Try.f50 9) = spec_l17Pass.T9:=by kernel_rfl
theorem spec_l17Pass.bits9:waitsOk spec_l17Pass.T9.2 spec_l17Pass.B9 = true:=by kernel_rfl
def spec_l17Pass.T12:Bool × List (List Nat × List Nat):=(true,[([],[]),([0],[0]),([1],[1]),([2],[2]),([3,2],[2,3]),([2,4],[2,4]),([5,2],[5]),([6],[6]),([7,6],[6,7]),([8,6],[6,8]),([9,6,6],[6,9]),([10],[10]),([11,10],[10,11]),([12,10],[10,12]),([13,10],[10,13]),([10],[10]),([15,10],[10,15]),([16,10],[10,16]),([17,10],[10,17]),([14,18,10,10],[10,14,18]),([10,19,6],[6,10,19]),([6,20],[6,20])])
def spec_l17Pass.B12:List Nat:=[0,1,3,7,15,31,63,127,255,511,1023,2047,4095,8191,16383,2047,34815,100351,231423,524287,1048575,2097151]
theorem spec_l17Pass.tab12:rtab .any (opsOf Try.f50 12) = spec_l17Pass.T12:=by kernel_rfl
theorem spec_l17Pass.bits12:waitsOk spec_l17Pass.T12.2 spec_l17Pass.B12 = true:=by kernel_rfl
set_option maxHeartbeats 8000000 in
set_option maxRecDepth 100000 in
theorem spec_l17Pass.calls (k:Nat):∀ (a0_0:Int) (a0_1:Int) (A0_2:Option Addr) (c0_2:Nat) (l0_2:List (S29)) (r1:Int) (r2:Int) (r3:List (S29)) (r4:Bool) (w:World) (hr0_2:Kd.C k29 w A0_2 l0_2.length l0_2) (hc0_2:l0_2.length ≤ c0_2) (h:spec_l17Pass.f k a0_0 a0_1 l0_2 = some (r1,r2,r3,r4)),
  Calls Try.prog 50 #[.agg #[.int .i64 a0_0,.int .i64 a0_1,.slice A0_2 l0_2.length c0_2]] w fun e w'=>∃ v2_:Value,e = .returned (.tuple #[.agg #[.int .i64 r1,.int .i64 r2,v2_],.bool r4])∧Kd.N k29 29 w' w.heap.size (fun k_=>(w.heap.size ≤ k_)) v2_ r3∧Below w.heap.size w w':=by
 induction k using Nat.strongRecOn with
 | _ k ih =>
 intro a0_0 a0_1 A0_2 c0_2 l0_2 r1 r2 r3 r4 w hr0_2 hc0_2 h
 cases k with
 | zero=>exact absurd h (by simp [spec_l17Pass.f])
 | succ k =>
 simp only [spec_l17Pass.f] at h
 have hu29:=Try.underlying29
 have HR0_2:=aQ hr0_2
 have HC0_2:=aQ hc0_2
 clear hr0_2 hc0_2
 have HB:=aQ (Below.refl w.heap.size w)
 have H:=h
 clear h
 by_cases c2:a0_0 = 0
 ·rw [if_pos c2] at H
  have c2b0:(a0_0 == 0) = true:=beq_iff_eq.mpr c2
  have c2b1:(a0_0 != 0) = false:=bne_eq_false_iff_eq.mpr c2
  clear c2
  simp only [Option.some.injEq,Prod.mk.injEq] at H
  obtain ⟨rfl,rfl,rfl,rfl⟩:=H
  go_enter Try.func50,Try.ntmps50
  go_wp2_with (first | ((with_reducible refine gate_dst (N:=1) rfl ?_);refine box1 (N:=1) (cs:=#[.int .i64 a0_0,.int .i64 a0_1,.slice A0_2 l0_2.length c0_2]) (t:=29) ?_;intro gb519 hg w3 hbox hb;have BK519:=aQ (hbox);have GW519:=aQ (gB:w.heap.size ≤ gb519);have GE519:=GW519;replace HB:=aQ (below_step bB hb);clear hb hbox hg) | ((with_reducible refine gate_dst (N:=2) rfl ?_);refine box1 (N:=2) (cs:=#[.int .i64 0,.int .i64 0,.slice none 0 0]) (t:=29) ?_;intro gb520 hg w4 hbox hb;have BK520:=aQ (hbox);have GW520:=aQ (gB:w.heap.size ≤ gb520);have GE520:=GW520;replace HB:=aQ (below_step bB hb);have NB519_520:=aQ ((by rw [hg];exact Nat.ne_of_lt (blk_lt (nB BK519.out)):gb519 ≠ gb520));have NB520_519:=aQ NB519_520.out.symm;replace BK519:=aQ (blk_below (nB BK519.out) hb);clear hb hbox hg;have hnb5:=NB519_520.out;have hnc5:=NB520_519.out;obtain ⟨hcz6_0,hcz6_1,hcz6_2,hfz6_0,hfz6_1,hfz6_2⟩:=cz3 BK519.out;obtain ⟨hcz7_0,hcz7_1,hcz7_2,hfz7_0,hfz7_1,hfz7_2⟩:=cz3 BK520.out))
  refine bodyPost_ret (results_ct rfl _ _ gb520 29 #[.int .i64 0,.int .i64 0,.slice none 0 0] (0,0) _ rfl bP Try.underlying29 rfl (by kernel_rfl)) rfl ?_
  exact ⟨_,rfl,by first | exact Kd.R_nil _ _ _ _ _ | exact Kd.N_nil _ _ _ _ _ | exact Kd.V_nil _ _ _ _ _ | exact Kd.Q_nil _ _ _ _ _ | exact Kd.S_nil _ _ _ _ _,bB⟩
 rw [if_neg c2] at H
 have c2b0:(a0_0 == 0) = false:=beq_eq_false_iff_ne.mpr c2
 have c2b1:(a0_0 != 0) = true:=bne_iff_ne.mpr c2
 by_cases c8:a0_0 = 1
 ·rw [if_pos c8] at H
  have c8b0:(a0_0 == 1) = true:=beq_iff_eq.mpr c8
  have c8b1:(a0_0 != 1) = false:=bne_eq_false_iff_eq.mpr c8
  clear c8
  obtain ⟨⟨t521,t522,t523⟩,A9,H⟩:=bQ H
  dsimp only at H
  simp only [Option.some.injEq,Prod.mk.injEq] at H
  obtain ⟨rfl,rfl,rfl,rfl⟩:=H
  go_enter Try.func50,Try.ntmps50
  try go_wp2_with (first | ((with_reducible refine gate_dst (N:=1) rfl ?_);refine box1 (N:=1) (cs:=#[.int .i64 a0_0,.int .i64 a0_1,.slice A0_2 l0_2.length c0_2]) (t:=29) ?_;intro gb519 hg w10 hbox hb;have BK519:=aQ (hbox);have GW519:=aQ (gB:w.heap.size ≤ gb519);have GE519:=GW519;replace HB:=aQ (below_step bB hb);clear hb hbox hg) | ((with_reducible refine gate_dst (N:=2) rfl ?_);refine box1 (N:=2) (cs:=#[.int .i64 0,.int .i64 0,.slice none 0 0]) (t:=29) ?_;intro gb520 hg w11 hbox hb;have BK520:=aQ (hbox);have GW520:=aQ (gB:w.heap.size ≤ gb520);have GE520:=GW520;replace HB:=aQ (below_step bB hb);have NB519_520:=aQ ((by rw [hg];exact Nat.ne_of_lt (blk_lt (nB BK519.out)):gb519 ≠ gb520));have NB520_519:=aQ NB519_520.out.symm;replace BK519:=aQ (blk_below (nB BK519.out) hb);clear hb hbox hg;have hnb12:=NB519_520.out;have hnc12:=NB520_519.out;obtain ⟨hcz13_0,hcz13_1,hcz13_2,hfz13_0,hfz13_1,hfz13_2⟩:=cz3 BK519.out))
  replace BK519:=aQ (blk_drew BK519.out)
  replace BK520:=aQ (blk_drew BK520.out)
  replace HB:=aQ (below_drew1 HB.out)
  refine start_ (n:=7) (S:=fun w'=>w'.cell? ⟨gb519,0,none⟩ = some (.int .i64 a0_0)∧w'.cell? ⟨gb519,1,none⟩ = some (.int .i64 a0_1)∧w'.cell? ⟨gb519,2,none⟩ = some (.slice A0_2 l0_2.length c0_2)) (ds:=[]) #[false,false,false,false,false,false,false] (by kernel_rfl) rfl rfl ⟨(blk_cell BK519.out 0).trans rfl,(blk_cell BK519.out 1).trans rfl,(blk_cell BK519.out 2).trans rfl⟩ (fun hHeld=>?_)
  generalize w11.drew = w14 at BK519 BK520 HB hHeld ⊢
  refine pure_ (i:=2) (N:=some 17) (v:=?_) (a':=?_) #[false,false,true,false,false,false,false] rfl rfl (by kernel_rfl) (fun _ _ _ h=>h) (Or.inl ⟨by rfl,?_⟩) ?_ ?_
  rotate_left;·intro w';go_simp;with_reducible rfl
  rotate_left;·simp only [Act.put,List.setIfInBounds_toArray,List.set_cons_zero,List.set_cons_succ,i64_w,i32_w];rfl
  refine take_ (i:=0) (N:=some 15) (v:=?_) (a':=?_) #[true,false,true,false,false,false,false] rfl rfl (by kernel_rfl) (fun _ _ _ h=>h) (Or.inl ⟨by rfl,?_⟩) hHeld ?_ ?_
  rotate_left;·rintro w' ⟨s0,s1,s2⟩;go_simp;with_reducible rfl
  rotate_left;·simp only [Act.put,List.setIfInBounds_toArray,List.set_cons_zero,List.set_cons_succ,i64_w,i32_w];rfl
  refine take_ (i:=3) (N:=some 18) (v:=?_) (a':=?_) #[true,false,true,true,false,false,false] rfl rfl (by kernel_rfl) (fun _ _ _ h=>h) (Or.inl ⟨by rfl,?_⟩) hHeld ?_ ?_
  rotate_left;·rintro w' ⟨s0,s1,s2⟩;go_simp;with_reducible rfl
  rotate_left;·simp only [Act.put,List.setIfInBounds_toArray,List.set_cons_zero,List.set_cons_succ,i64_w,i32_w];rfl
  refine pure_ (i:=4) (N:=some 19) (v:=?_) (a':=?_) #[true,false,true,true,true,false,false] rfl rfl (by kernel_rfl) (fun _ _ _ h=>h) (Or.inl ⟨by rfl,?_⟩) ?_ ?_
  rotate_left;·intro w';go_simp;with_reducible rfl
  rotate_left;·simp only [Act.put,List.setIfInBounds_toArray,List.set_cons_zero,List.set_cons_succ,i64_w,i32_w];rfl
  refine one_ (i:=1) (N:=some 16) #[true,true,true,true,true,false,false] rfl rfl (by kernel_rfl) (by decide) (fun K hK=>?_)
  refine goes1 Try.func52 #[.agg #[.int .i64 a0_0,.int .i64 a0_1,.slice A0_2 l0_2.length c0_2]] ?_
  with_reducible refine (spec_l17Copy.calls k a0_0 a0_1 _ _ l0_2 t521 t522 t523 _ ?side1 ?side2 A9.out).mono ?_
  (case side1=>repeat (first | exact (Kd.C_below HR0_2.out HB.out) | (with_reducible refine Kd.C_alloc ?_ _) | (with_reducible refine Kd.C_drewN ?_ _) | (with_reducible refine Kd.C_drew ?_)))
  (case side2=>exact HC0_2.out)
  rintro e w15 ⟨v524,rfl,ho0,hb⟩
  refine ⟨_,rfl,?_⟩
  have HO525:=aQ (Kd.N_lower (Kd.N_mono (ok':=fun k_=>(w.heap.size ≤ k_)∧k_ ≠ gb519∧k_ ≠ gb520) ho0 (fun k_ hk_=>⟨(Nat.le_trans (below_size bB) hk_),(Kd.freshB (nB BK519.out) k_ hk_),(Kd.freshB (nB BK520.out) k_ hk_)⟩)) (below_size bB))
  replace BK519:=aQ (blk_below (nB BK519.out) hb)
  replace BK520:=aQ (blk_below (nB BK520.out) hb)
  replace HB:=aQ (below_step bB hb)
  (try clear hb)
  (try clear ho0)
  obtain ⟨Ao18,co18,eo18⟩:=Kd.N_slice HO525.out
  (first | subst eo18 | (injection eo18 with f1_ f2_ f3_;have f4_:=f1_.symm;have f5_:=f3_.symm;clear f1_ f2_ f3_;subst f4_;subst f5_))
  refine hK.out _ _ ⟨(blk_cell BK519.out 0).trans rfl,(blk_cell BK519.out 1).trans rfl,(blk_cell BK519.out 2).trans rfl⟩ (fun hHeld=>?_)
  clear hK K
  refine nrm (N:=some 16) ?_
  refine one_ (i:=5) (N:=none) #[true,true,true,true,true,true,false] rfl rfl (by kernel_rfl) (by decide) (fun K hK=>?_)
  have hs16:w15.cell? ⟨gb520,0,none⟩ = some (.int .i64 0):=(blk_cell BK520.out 0).trans rfl
  have hfs16:=blk_frozen BK520.out 0
  have hns16_0:=NB519_520.out
  have hms16_0:=NB520_519.out
  have hs17:w15.cell? ⟨gb520,1,none⟩ = some (.int .i64 0):=(blk_cell BK520.out 1).trans rfl
  have hfs17:=blk_frozen BK520.out 1
  have hns17_0:=NB519_520.out
  have hms17_0:=NB520_519.out
  have hs19:w15.cell? ⟨gb520,2,none⟩ = some (.slice none 0 0):=(blk_cell BK520.out 2).trans rfl
  have hfs19:=blk_frozen BK520.out 2
  have hns19_0:=NB519_520.out
  have hms19_0:=NB520_519.out
  refine skip_ (w1:=?_) (by rfl) rfl ?_ ?_
  rotate_left
  ·go_simp
   rfl
  refine hK.out _ _ ⟨((cell_far (p:=⟨gb520,_,none⟩) NB519_520.out _).trans (((cell_far (p:=⟨gb520,_,none⟩) NB519_520.out _).trans (((cell_far (p:=⟨gb520,_,none⟩) NB519_520.out _).trans (hHeld.1)))))),((cell_far (p:=⟨gb520,_,none⟩) NB519_520.out _).trans (((cell_far (p:=⟨gb520,_,none⟩) NB519_520.out _).trans (((cell_far (p:=⟨gb520,_,none⟩) NB519_520.out _).trans (hHeld.2.1)))))),((cell_far (p:=⟨gb520,_,none⟩) NB519_520.out _).trans (((cell_far (p:=⟨gb520,_,none⟩) NB519_520.out _).trans (((cell_far (p:=⟨gb520,_,none⟩) NB519_520.out _).trans (hHeld.2.2))))))⟩ (fun hHeld=>?_)
  clear hK K
  refine pure_ (i:=6) (N:=some 3) (v:=?_) (a':=?_) #[true,true,true,true,true,true,true] rfl rfl (by kernel_rfl) (fun _ _ _ h=>h) (Or.inl ⟨by rfl,?_⟩) ?_ ?_
  rotate_left;·intro w';go_simp;with_reducible rfl
  rotate_left;·simp only [Act.put,List.setIfInBounds_toArray,List.set_cons_zero,List.set_cons_succ,i64_w,i32_w];rfl
  refine done_ (by kernel_rfl) ?_
  try go_wp2
  refine bodyPost_ret (results_ct rfl _ _ gb520 29 #[.int .i64 t521,.int .i64 t522,.slice Ao18 t523.length co18] (0,0) _ rfl bP Try.underlying29 rfl (by kernel_rfl)) rfl ?_
  exact ⟨_,rfl,by (with_reducible repeat (first | apply Kd.N_alloc | apply Kd.N_drewN | apply Kd.N_drew));exact Kd.N_mono (nFN (g:=gb520) HO525.out (fun k_ hk=>hk.2.2)) (fun _ hk=>hk.1),bB⟩
 rw [if_neg c8] at H
 have c8b0:(a0_0 == 1) = false:=beq_eq_false_iff_ne.mpr c8
 have c8b1:(a0_0 != 1) = true:=bne_iff_ne.mpr c8
 by_cases c20:a0_0 = 2
 ·rw [if_pos c20] at H
  have c20b0:(a0_0 == 2) = true:=beq_iff_eq.mpr c20
  have c20b1:(a0_0 != 2) = false:=bne_eq_false_iff_eq.mpr c20
  clear c20
  by_cases c21:a0_1 = 1
  ·rw [if_pos c21] at H
   have c21b0:(a0_1 == 1) = true:=beq_iff_eq.mpr c21
   have c21b1:(a0_1 != 1) = false:=bne_eq_false_iff_eq.mpr c21
   clear c21
   by_cases c22:0 < (l0_2.length:Int);rotate_left
   ·rw [if_neg c22] at H
    exact absurd H (by simp)
   rw [if_pos c22] at H
   have c22b0:decide (0 < (l0_2.length:Int)) = true:=decide_eq_true c22
   have c22b1:decide (0 < l0_2.length) = true:=decide_eq_true (by omega)
   clear c22
   obtain ⟨⟨t527,t528,t529⟩,A23,H⟩:=bQ H
   dsimp only at H
   simp only [Option.some.injEq,Prod.mk.injEq] at H
   obtain ⟨rfl,rfl,rfl,rfl⟩:=H
   go_enter Try.func50,Try.ntmps50
   go_wp2_with (first | ((with_reducible refine gate_dst (N:=1) rfl ?_);refine box1 (N:=1) (cs:=#[.int .i64 a0_0,.int .i64 a0_1,.slice A0_2 l0_2.length c0_2]) (t:=29) ?_;intro gb519 hg w24 hbox hb;have BK519:=aQ (hbox);have GW519:=aQ (gB:w.heap.size ≤ gb519);have GE519:=GW519;replace HB:=aQ (below_step bB hb);clear hb hbox hg) | ((with_reducible refine gate_dst (N:=2) rfl ?_);refine box1 (N:=2) (cs:=#[.int .i64 0,.int .i64 0,.slice none 0 0]) (t:=29) ?_;intro gb520 hg w25 hbox hb;have BK520:=aQ (hbox);have GW520:=aQ (gB:w.heap.size ≤ gb520);have GE520:=GW520;replace HB:=aQ (below_step bB hb);have NB519_520:=aQ ((by rw [hg];exact Nat.ne_of_lt (blk_lt (nB BK519.out)):gb519 ≠ gb520));have NB520_519:=aQ NB519_520.out.symm;replace BK519:=aQ (blk_below (nB BK519.out) hb);clear hb hbox hg;have hnb26:=NB519_520.out;have hnc26:=NB520_519.out;obtain ⟨hcz27_0,hcz27_1,hcz27_2,hfz27_0,hfz27_1,hfz27_2⟩:=cz3 BK519.out;have p526:0 ≤ (0:Int):=(by omega);have q526:0 < (l0_2.length:Int):=of_decide_eq_true (by first | (with_reducible assumption) | assumption);obtain ⟨ad526,A526_2,c526_2,e526,hx526_0,hx526_1,hx526_2,hl526_2,hi526_2⟩:=at_T29 HR0_2.out 0 p526 q526;cases e526;have qi526:(0 < l0_2.length) = True:=eq_true (by omega);(try rw [show ((0:Int)).toNat = 0 from rfl,show 0 * 3 = 0 from rfl] at hx526_0 hx526_1 hx526_2);(try rw [Addr.add_zero'] at hx526_0);(try rw [Addr.add_zero'] at hx526_1);(try rw [Addr.add_zero'] at hx526_2);replace hx526_0:=(HB.out.cell (World.block_lt_of_cell? w _ hx526_0)).trans hx526_0;replace hx526_1:=(HB.out.cell (World.block_lt_of_cell? w _ hx526_1)).trans hx526_1;replace hx526_2:=(HB.out.cell (World.block_lt_of_cell? w _ hx526_2)).trans hx526_2;have HR526_2:=aQ hi526_2;have HC526_2:=aQ hl526_2;clear hi526_2 hl526_2;replace p526:=eq_true p526;replace q526:=eq_true q526) | ((with_reducible refine gate_callee (f:=52) rfl ?_);refine goesL_ (some 29) rfl rfl Try.func52 (by kernel_rfl) rfl #[.agg #[.int .i64 ((rd_T29 l0_2 0).f0),.int .i64 ((rd_T29 l0_2 0).f1),.slice A526_2 ((rd_T29 l0_2 0).f2).length c526_2]] rfl mP ?_;(with_reducible refine (spec_l17Copy.calls k ((rd_T29 l0_2 0).f0) ((rd_T29 l0_2 0).f1) _ _ ((rd_T29 l0_2 0).f2) t527 t528 t529 _ ?side1 ?side2 A23.out).mono ?_);(case side1=>repeat (first | exact (Kd.C_below HR526_2.out HB.out) | (with_reducible refine Kd.C_alloc ?_ _) | (with_reducible refine Kd.C_drewN ?_ _) | (with_reducible refine Kd.C_drew ?_)));(case side2=>exact HC526_2.out);rintro e w28 ⟨v530,rfl,ho0,hb⟩;refine ⟨_,rfl,?_⟩;have HO531:=aQ (Kd.N_lower (Kd.N_mono (ok':=fun k_=>(w.heap.size ≤ k_)∧k_ ≠ gb519∧k_ ≠ gb520) ho0 (fun k_ hk_=>⟨(Nat.le_trans (below_size bB) hk_),(Kd.freshB (nB BK519.out) k_ hk_),(Kd.freshB (nB BK520.out) k_ hk_)⟩)) (below_size bB));replace BK519:=aQ (blk_below (nB BK519.out) hb);replace BK520:=aQ (blk_below (nB BK520.out) hb);replace HB:=aQ (below_step bB hb);(try clear hb);(try clear ho0);obtain ⟨hcz29_0,hcz29_1,hcz29_2,hfz29_0,hfz29_1,hfz29_2⟩:=cz3 BK520.out;obtain ⟨Ao30,co30,eo30⟩:=Kd.N_slice HO531.out;subst eo30))
   refine bodyPost_ret (results_ct rfl _ _ gb520 29 #[.int .i64 t527,.int .i64 t528,.slice Ao30 t529.length co30] (0,0) _ rfl bP Try.underlying29 rfl (by kernel_rfl)) rfl ?_
   exact ⟨_,rfl,by (with_reducible repeat (first | apply Kd.N_alloc | apply Kd.N_drewN | apply Kd.N_drew));exact Kd.N_mono (nFN (g:=gb520) HO531.out (fun k_ hk=>hk.2.2)) (fun _ hk=>hk.1),bB⟩
  rw [if_neg c21] at H
  have c21b0:(a0_1 == 1) = false:=beq_eq_false_iff_ne.mpr c21
  have c21b1:(a0_1 != 1) = true:=bne_iff_ne.mpr c21
  by_cases c31:0 < (l0_2.length:Int);rotate_left
  ·rw [if_neg c31] at H
   exact absurd H (by simp)
  rw [if_pos c31] at H
  have c31b0:decide (0 < (l0_2.length:Int)) = true:=decide_eq_true c31
  have c31b1:decide (0 < l0_2.length) = true:=decide_eq_true (by omega)
  clear c31
  obtain ⟨⟨t533,t534,t535⟩,A32,H⟩:=bQ H
  dsimp only at H
  obtain ⟨y538,hy538⟩:∃ y_:List (S29),y_ = (([(⟨t533,t534,t535⟩:S29)]:List (S29))):=⟨_,rfl⟩
  replace H:(some (a0_0,wrap64 (a0_1 - 1),y538,true)) = some (r1,r2,r3,r4):=by rw [hy538];exact H
  have Ny538:=aQ hy538
  clear hy538
  simp only [Option.some.injEq,Prod.mk.injEq] at H
  obtain ⟨rfl,rfl,rfl,rfl⟩:=H
  go_enter Try.func50,Try.ntmps50
  try go_wp2_with (first | ((with_reducible refine gate_dst (N:=1) rfl ?_);refine box1 (N:=1) (cs:=#[.int .i64 a0_0,.int .i64 a0_1,.slice A0_2 l0_2.length c0_2]) (t:=29) ?_;intro gb519 hg w33 hbox hb;have BK519:=aQ (hbox);have GW519:=aQ (gB:w.heap.size ≤ gb519);have GE519:=GW519;replace HB:=aQ (below_step bB hb);clear hb hbox hg) | ((with_reducible refine gate_dst (N:=2) rfl ?_);refine box1 (N:=2) (cs:=#[.int .i64 0,.int .i64 0,.slice none 0 0]) (t:=29) ?_;intro gb520 hg w34 hbox hb;have BK520:=aQ (hbox);have GW520:=aQ (gB:w.heap.size ≤ gb520);have GE520:=GW520;replace HB:=aQ (below_step bB hb);have NB519_520:=aQ ((by rw [hg];exact Nat.ne_of_lt (blk_lt (nB BK519.out)):gb519 ≠ gb520));have NB520_519:=aQ NB519_520.out.symm;replace BK519:=aQ (blk_below (nB BK519.out) hb);clear hb hbox hg;have hnb35:=NB519_520.out;have hnc35:=NB520_519.out;obtain ⟨hcz36_0,hcz36_1,hcz36_2,hfz36_0,hfz36_1,hfz36_2⟩:=cz3 BK519.out))
  replace BK519:=aQ (blk_drew BK519.out)
  replace BK520:=aQ (blk_drew BK520.out)
  replace HB:=aQ (below_drew1 HB.out)
  have p532:0 ≤ (0:Int):=(by omega)
  have q532:0 < (l0_2.length:Int):=of_decide_eq_true (by first | (with_reducible assumption) | assumption)
  obtain ⟨ad532,A532_2,c532_2,e532,hx532_0,hx532_1,hx532_2,hl532_2,hi532_2⟩:=at_T29 HR0_2.out 0 p532 q532
  have hw532_2:=hx532_2
  (try rw [show ((0:Int)).toNat = 0 from rfl] at hw532_2)
  (try rw [show 0 * 3 = 0 from rfl] at hw532_2)
  (try rw [Addr.add_zero'] at hw532_2)
  have hw532_1:=hx532_1
  (try rw [show ((0:Int)).toNat = 0 from rfl] at hw532_1)
  (try rw [show 0 * 3 = 0 from rfl] at hw532_1)
  (try rw [Addr.add_zero'] at hw532_1)
  have hw532_0:=hx532_0
  (try rw [show ((0:Int)).toNat = 0 from rfl] at hw532_0)
  (try rw [show 0 * 3 = 0 from rfl] at hw532_0)
  (try rw [Addr.add_zero'] at hw532_0)
  cases e532
  have qi532:(0 < l0_2.length) = True:=eq_true (by omega)
  (try rw [show ((0:Int)).toNat = 0 from rfl,show 0 * 3 = 0 from rfl] at hx532_0 hx532_1 hx532_2)
  (try rw [Addr.add_zero'] at hx532_0)
  (try rw [Addr.add_zero'] at hx532_1)
  (try rw [Addr.add_zero'] at hx532_2)
  replace hx532_0:=(HB.out.cell (World.block_lt_of_cell? w _ hx532_0)).trans hx532_0
  replace hx532_1:=(HB.out.cell (World.block_lt_of_cell? w _ hx532_1)).trans hx532_1
  replace hx532_2:=(HB.out.cell (World.block_lt_of_cell? w _ hx532_2)).trans hx532_2
  have HR532_2:=aQ hi532_2
  have HC532_2:=aQ hl532_2
  clear hi532_2 hl532_2
  replace p532:=eq_true p532
  replace q532:=eq_true q532
  refine start_ (n:=14) (S:=fun w'=>w'.cell? ⟨gb519,0,none⟩ = some (.int .i64 a0_0)∧w'.cell? ⟨gb519,1,none⟩ = some (.int .i64 a0_1)∧w'.cell? ⟨gb519,2,none⟩ = some (.slice (some ad532) l0_2.length c0_2)∧w'.cell? ad532 = some (.int .i64 ((rd_T29 l0_2 0).f0))∧w'.cell? ⟨ad532.block,ad532.off + 1,none⟩ = some (.int .i64 ((rd_T29 l0_2 0).f1))∧w'.cell? ⟨ad532.block,ad532.off + 2,none⟩ = some (.slice A532_2 ((rd_T29 l0_2 0).f2).length c532_2)) (ds:=[]) #[false,false,false,false,false,false,false,false,false,false,false,false,false,false] (by kernel_rfl) rfl rfl ⟨(blk_cell BK519.out 0).trans rfl,(blk_cell BK519.out 1).trans rfl,(blk_cell BK519.out 2).trans rfl,((HB.out.cell (World.block_lt_of_cell? w _ hw532_0)).trans hw532_0),((HB.out.cell (World.block_lt_of_cell? w _ hw532_1)).trans hw532_1),((HB.out.cell (World.block_lt_of_cell? w _ hw532_2)).trans hw532_2)⟩ (fun hHeld=>?_);refine with_tabW spec_l17Pass.tab9 spec_l17Pass.bits9 (fun HT_ HW_=>?_)
  generalize w34.drew = w37 at BK519 BK520 HB HR532_2 hx532_0 hx532_1 hx532_2 hHeld ⊢
  refine pur (i:=0) (N:=some 30) #[true,false,false,false,false,false,false,false,false,false,false,false,false,false] ?_
  refine pur (i:=2) (N:=some 32) #[true,false,true,false,false,false,false,false,false,false,false,false,false,false] ?_
  refine pur (i:=5) (N:=some 35) #[true,false,true,false,false,true,false,false,false,false,false,false,false,false] ?_
  refine tak (i:=1) (N:=some 31) #[true,true,true,false,false,true,false,false,false,false,false,false,false,false] ?_
  refine tak (i:=3) (N:=some 33) #[true,true,true,true,false,true,false,false,false,false,false,false,false,false] ?_
  refine pur (i:=4) (N:=some 34) #[true,true,true,true,true,true,false,false,false,false,false,false,false,false] ?_
  refine tak (i:=6) (N:=some 36) #[true,true,true,true,true,true,true,false,false,false,false,false,false,false] ?_
  refine pur (i:=7) (N:=some 37) #[true,true,true,true,true,true,true,true,false,false,false,false,false,false] ?_
  refine tak (i:=8) (N:=some 38) #[true,true,true,true,true,true,true,true,true,false,false,false,false,false] ?_
  refine one_ (i:=9) (N:=some 39) #[true,true,true,true,true,true,true,true,true,true,false,false,false,false] rfl rfl (one_of HT_.out (by kernel_rfl)) (by decide) (fun K hK=>?_)
  refine goes1 Try.func52 #[.agg #[.int .i64 ((rd_T29 l0_2 0).f0),.int .i64 ((rd_T29 l0_2 0).f1),.slice A532_2 ((rd_T29 l0_2 0).f2).length c532_2]] ?_
  with_reducible refine (spec_l17Copy.calls k ((rd_T29 l0_2 0).f0) ((rd_T29 l0_2 0).f1) _ _ ((rd_T29 l0_2 0).f2) t533 t534 t535 _ ?side1 ?side2 A32.out).mono ?_
  (case side1=>repeat (first | exact (Kd.C_below HR532_2.out HB.out) | (with_reducible refine Kd.C_alloc ?_ _) | (with_reducible refine Kd.C_drewN ?_ _) | (with_reducible refine Kd.C_drew ?_)))
  (case side2=>exact HC532_2.out)
  rintro e w38 ⟨v536,rfl,ho0,hb⟩
  refine ⟨_,rfl,?_⟩
  have HO537:=aQ (Kd.N_lower (Kd.N_mono (ok':=fun k_=>(w.heap.size ≤ k_)∧k_ ≠ gb519∧k_ ≠ gb520) ho0 (fun k_ hk_=>⟨(Nat.le_trans (below_size bB) hk_),(Kd.freshB (nB BK519.out) k_ hk_),(Kd.freshB (nB BK520.out) k_ hk_)⟩)) (below_size bB))
  replace BK519:=aQ (blk_below (nB BK519.out) hb)
  replace BK520:=aQ (blk_below (nB BK520.out) hb)
  replace HB:=aQ (below_step bB hb)
  (try clear hb)
  (try clear ho0)
  obtain ⟨Ao39,co39,eo39⟩:=Kd.N_slice HO537.out
  (first | subst eo39 | (injection eo39 with f1_ f2_ f3_;have f4_:=f1_.symm;have f5_:=f3_.symm;clear f1_ f2_ f3_;subst f4_;subst f5_))
  refine hK.out _ _ ⟨(blk_cell BK519.out 0).trans rfl,(blk_cell BK519.out 1).trans rfl,(blk_cell BK519.out 2).trans rfl,((HB.out.cell (World.block_lt_of_cell? w _ hw532_0)).trans hw532_0),((HB.out.cell (World.block_lt_of_cell? w _ hw532_1)).trans hw532_1),((HB.out.cell (World.block_lt_of_cell? w _ hw532_2)).trans hw532_2)⟩ (fun hHeld=>?_)
  clear hK K
  refine nrm (N:=some 39) ?_
  refine one_ (i:=10) (N:=some 40) #[true,true,true,true,true,true,true,true,true,true,true,false,false,false] rfl rfl (one_of HT_.out (by kernel_rfl)) (by decide) (fun K hK=>?_)
  refine Kd.N_lit_step k29 _ 29 ?hg (N':=40) ?hd (xs:=([(⟨t533,t534,t535⟩:S29)]:List (S29))) (inner:=[.int .i64 t533,.int .i64 t534,.slice Ao39 t535.length co39]) (ok:=(fun k_=>(w.heap.size ≤ k_)∧k_ ≠ gb519∧k_ ≠ gb520)) (okp:=(fun k_=>(w.heap.size ≤ k_)∧k_ ≠ gb519∧k_ ≠ gb520)) ?hr ?hp (fun _ hk=>hk) ((show ∀ k_,w38.heap.size ≤ k_ → (fun k_=>(w.heap.size ≤ k_)∧k_ ≠ gb519∧k_ ≠ gb520) k_ from fun k_ hk=>⟨(Nat.le_trans (below_size bB) hk),Kd.freshB (nB BK519.out) k_ hk,Kd.freshB (nB BK520.out) k_ hk⟩) _ (Nat.le_refl _)) (Below.refl _ _) (Nat.le_refl _) (by simp) ?_;(case hd=>rfl);(case hg=>rfl);(case hr=>first | (go_simp;done) | (go_simp;rfl));(case hp=>exact (Reps.c3 (show Kd.FK k29 _ _ (⟨t533,t534,t535⟩:S29) [.int .i64 t533,.int .i64 t534,.slice Ao39 t535.length co39] from (k29_mkF _ _ (⟨t533,t534,t535⟩:S29) (Kd.N_reads' (Kd.N_mono (ok':=(fun k_=>(w.heap.size ≤ k_)∧k_ ≠ gb519∧k_ ≠ gb520)) (HO537.out) (fun k_ hk=>⟨hk.1,⟨hk.2.1,hk.2.2⟩⟩))).2.1 (Kd.N_F (Kd.N_mono (ok':=(fun k_=>(w.heap.size ≤ k_)∧k_ ≠ gb519∧k_ ≠ gb520)) (HO537.out) (fun k_ hk=>⟨hk.1,⟨hk.2.1,hk.2.2⟩⟩))))) (Reps.none _ _)))
  intro v539 w40 ho41 hb hg_ hnew_
  clear hg_ hnew_
  (first | rw [← Ny538.out] at ho41 | (simp only [Int.reduceToNat] at ho41;rw [← Ny538.out] at ho41))
  have n0_:=aQ (Kd.N_lower ho41 (below_size bB))
  have n1_:=aQ (blk_below (nB BK519.out) hb)
  have n2_:=aQ (blk_below (nB BK520.out) hb)
  have n3_:=aQ (below_step bB hb)
  clear BK519 BK520 HB HO537
  have HO540:=n0_
  have BK519:=n1_
  have BK520:=n2_
  have HB:=n3_
  clear n0_ n1_ n2_ n3_
  clear hb ho41
  obtain ⟨Ao42,co42,eo42⟩:=Kd.N_slice HO540.out
  (first | subst eo42 | (injection eo42 with f1_ f2_ f3_;have f4_:=f1_.symm;have f5_:=f3_.symm;clear f1_ f2_ f3_;subst f4_;subst f5_))
  refine hK.out _ _ ⟨(blk_cell BK519.out 0).trans rfl,(blk_cell BK519.out 1).trans rfl,(blk_cell BK519.out 2).trans rfl,((HB.out.cell (World.block_lt_of_cell? w _ hw532_0)).trans hw532_0),((HB.out.cell (World.block_lt_of_cell? w _ hw532_1)).trans hw532_1),((HB.out.cell (World.block_lt_of_cell? w _ hw532_2)).trans hw532_2)⟩ (fun hHeld=>?_)
  clear hK K
  refine nrm (N:=some 40) ?_
  refine pur (i:=11) (N:=some 41) #[true,true,true,true,true,true,true,true,true,true,true,true,false,false] ?_
  refine one_ (i:=12) (N:=none) #[true,true,true,true,true,true,true,true,true,true,true,true,true,false] rfl rfl (one_of HT_.out (by kernel_rfl)) (by decide) (fun K hK=>?_)
  have hs43:w40.cell? ⟨gb520,0,none⟩ = some (.int .i64 0):=(blk_cell BK520.out 0).trans rfl
  have hfs43:=blk_frozen BK520.out 0
  have hns43_0:=NB519_520.out
  have hms43_0:=NB520_519.out
  have hs44:w40.cell? ⟨gb520,1,none⟩ = some (.int .i64 0):=(blk_cell BK520.out 1).trans rfl
  have hfs44:=blk_frozen BK520.out 1
  have hns44_0:=NB519_520.out
  have hms44_0:=NB520_519.out
  have hs45:w40.cell? ⟨gb520,2,none⟩ = some (.slice none 0 0):=(blk_cell BK520.out 2).trans rfl
  have hfs45:=blk_frozen BK520.out 2
  have hns45_0:=NB519_520.out
  have hms45_0:=NB520_519.out
  refine skip_ (w1:=?_) (by rfl) rfl ?_ ?_
  rotate_left
  ·go_simp
   rfl
  refine hK.out _ _ ⟨((cell_far (p:=⟨gb520,_,none⟩) NB519_520.out _).trans (((cell_far (p:=⟨gb520,_,none⟩) NB519_520.out _).trans (((cell_far (p:=⟨gb520,_,none⟩) NB519_520.out _).trans (hHeld.1)))))),((cell_far (p:=⟨gb520,_,none⟩) NB519_520.out _).trans (((cell_far (p:=⟨gb520,_,none⟩) NB519_520.out _).trans (((cell_far (p:=⟨gb520,_,none⟩) NB519_520.out _).trans (hHeld.2.1)))))),((cell_far (p:=⟨gb520,_,none⟩) NB519_520.out _).trans (((cell_far (p:=⟨gb520,_,none⟩) NB519_520.out _).trans (((cell_far (p:=⟨gb520,_,none⟩) NB519_520.out _).trans (hHeld.2.2.1)))))),((cell_far (p:=⟨gb520,_,none⟩) (by first | exact Nat.ne_of_lt (Nat.lt_of_lt_of_le (by have:=World.block_lt_of_cell? _ _ hw532_0;first | rwa [add_block] at this | exact this) GW520.out) | (rw [add_block];exact Nat.ne_of_lt (Nat.lt_of_lt_of_le (by have:=World.block_lt_of_cell? _ _ hw532_0;first | rwa [add_block] at this | exact this) GW520.out)) | (show (Addr.add _ _).block ≠ _;rw [add_block];exact Nat.ne_of_lt (Nat.lt_of_lt_of_le (by have:=World.block_lt_of_cell? _ _ hw532_0;first | rwa [add_block] at this | exact this) GW520.out)) | (dsimp only;exact Nat.ne_of_lt (Nat.lt_of_lt_of_le (by have:=World.block_lt_of_cell? _ _ hw532_0;first | rwa [add_block] at this | exact this) GW520.out))) _).trans (((cell_far (p:=⟨gb520,_,none⟩) (by first | exact Nat.ne_of_lt (Nat.lt_of_lt_of_le (by have:=World.block_lt_of_cell? _ _ hw532_0;first | rwa [add_block] at this | exact this) GW520.out) | (rw [add_block];exact Nat.ne_of_lt (Nat.lt_of_lt_of_le (by have:=World.block_lt_of_cell? _ _ hw532_0;first | rwa [add_block] at this | exact this) GW520.out)) | (show (Addr.add _ _).block ≠ _;rw [add_block];exact Nat.ne_of_lt (Nat.lt_of_lt_of_le (by have:=World.block_lt_of_cell? _ _ hw532_0;first | rwa [add_block] at this | exact this) GW520.out)) | (dsimp only;exact Nat.ne_of_lt (Nat.lt_of_lt_of_le (by have:=World.block_lt_of_cell? _ _ hw532_0;first | rwa [add_block] at this | exact this) GW520.out))) _).trans (((cell_far (p:=⟨gb520,_,none⟩) (by first | exact Nat.ne_of_lt (Nat.lt_of_lt_of_le (by have:=World.block_lt_of_cell? _ _ hw532_0;first | rwa [add_block] at this | exact this) GW520.out) | (rw [add_block];exact Nat.ne_of_lt (Nat.lt_of_lt_of_le (by have:=World.block_lt_of_cell? _ _ hw532_0;first | rwa [add_block] at this | exact this) GW520.out)) | (show (Addr.add _ _).block ≠ _;rw [add_block];exact Nat.ne_of_lt (Nat.lt_of_lt_of_le (by have:=World.block_lt_of_cell? _ _ hw532_0;first | rwa [add_block] at this | exact this) GW520.out)) | (dsimp only;exact Nat.ne_of_lt (Nat.lt_of_lt_of_le (by have:=World.block_lt_of_cell? _ _ hw532_0;first | rwa [add_block] at this | exact this) GW520.out))) _).trans (hHeld.2.2.2.1)))))),((cell_far (p:=⟨gb520,_,none⟩) (by first | exact Nat.ne_of_lt (Nat.lt_of_lt_of_le (by have:=World.block_lt_of_cell? _ _ hw532_1;first | rwa [add_block] at this | exact this) GW520.out) | (rw [add_block];exact Nat.ne_of_lt (Nat.lt_of_lt_of_le (by have:=World.block_lt_of_cell? _ _ hw532_1;first | rwa [add_block] at this | exact this) GW520.out)) | (show (Addr.add _ _).block ≠ _;rw [add_block];exact Nat.ne_of_lt (Nat.lt_of_lt_of_le (by have:=World.block_lt_of_cell? _ _ hw532_1;first | rwa [add_block] at this | exact this) GW520.out)) | (dsimp only;exact Nat.ne_of_lt (Nat.lt_of_lt_of_le (by have:=World.block_lt_of_cell? _ _ hw532_1;first | rwa [add_block] at this | exact this) GW520.out))) _).trans (((cell_far (p:=⟨gb520,_,none⟩) (by first | exact Nat.ne_of_lt (Nat.lt_of_lt_of_le (by have:=World.block_lt_of_cell? _ _ hw532_1;first | rwa [add_block] at this | exact this) GW520.out) | (rw [add_block];exact Nat.ne_of_lt (Nat.lt_of_lt_of_le (by have:=World.block_lt_of_cell? _ _ hw532_1;first | rwa [add_block] at this | exact this) GW520.out)) | (show (Addr.add _ _).block ≠ _;rw [add_block];exact Nat.ne_of_lt (Nat.lt_of_lt_of_le (by have:=World.block_lt_of_cell? _ _ hw532_1;first | rwa [add_block] at this | exact this) GW520.out)) | (dsimp only;exact Nat.ne_of_lt (Nat.lt_of_lt_of_le (by have:=World.block_lt_of_cell? _ _ hw532_1;first | rwa [add_block] at this | exact this) GW520.out))) _).trans (((cell_far (p:=⟨gb520,_,none⟩) (by first | exact Nat.ne_of_lt (Nat.lt_of_lt_of_le (by have:=World.block_lt_of_cell? _ _ hw532_1;first | rwa [add_block] at this | exact this) GW520.out) | (rw [add_block];exact Nat.ne_of_lt (Nat.lt_of_lt_of_le (by have:=World.block_lt_of_cell? _ _ hw532_1;first | rwa [add_block] at this | exact this) GW520.out)) | (show (Addr.add _ _).block ≠ _;rw [add_block];exact Nat.ne_of_lt (Nat.lt_of_lt_of_le (by have:=World.block_lt_of_cell? _ _ hw532_1;first | rwa [add_block] at this | exact this) GW520.out)) | (dsimp only;exact Nat.ne_of_lt (Nat.lt_of_lt_of_le (by have:=World.block_lt_of_cell? _ _ hw532_1;first | rwa [add_block] at this | exact this) GW520.out))) _).trans (hHeld.2.2.2.2.1)))))),((cell_far (p:=⟨gb520,_,none⟩) (by first | exact Nat.ne_of_lt (Nat.lt_of_lt_of_le (by have:=World.block_lt_of_cell? _ _ hw532_2;first | rwa [add_block] at this | exact this) GW520.out) | (rw [add_block];exact Nat.ne_of_lt (Nat.lt_of_lt_of_le (by have:=World.block_lt_of_cell? _ _ hw532_2;first | rwa [add_block] at this | exact this) GW520.out)) | (show (Addr.add _ _).block ≠ _;rw [add_block];exact Nat.ne_of_lt (Nat.lt_of_lt_of_le (by have:=World.block_lt_of_cell? _ _ hw532_2;first | rwa [add_block] at this | exact this) GW520.out)) | (dsimp only;exact Nat.ne_of_lt (Nat.lt_of_lt_of_le (by have:=World.block_lt_of_cell? _ _ hw532_2;first | rwa [add_block] at this | exact this) GW520.out))) _).trans (((cell_far (p:=⟨gb520,_,none⟩) (by first | exact Nat.ne_of_lt (Nat.lt_of_lt_of_le (by have:=World.block_lt_of_cell? _ _ hw532_2;first | rwa [add_block] at this | exact this) GW520.out) | (rw [add_block];exact Nat.ne_of_lt (Nat.lt_of_lt_of_le (by have:=World.block_lt_of_cell? _ _ hw532_2;first | rwa [add_block] at this | exact this) GW520.out)) | (show (Addr.add _ _).block ≠ _;rw [add_block];exact Nat.ne_of_lt (Nat.lt_of_lt_of_le (by have:=World.block_lt_of_cell? _ _ hw532_2;first | rwa [add_block] at this | exact this) GW520.out)) | (dsimp only;exact Nat.ne_of_lt (Nat.lt_of_lt_of_le (by have:=World.block_lt_of_cell? _ _ hw532_2;first | rwa [add_block] at this | exact this) GW520.out))) _).trans (((cell_far (p:=⟨gb520,_,none⟩) (by first | exact Nat.ne_of_lt (Nat.lt_of_lt_of_le (by have:=World.block_lt_of_cell? _ _ hw532_2;first | rwa [add_block] at this | exact this) GW520.out) | (rw [add_block];exact Nat.ne_of_lt (Nat.lt_of_lt_of_le (by have:=World.block_lt_of_cell? _ _ hw532_2;first | rwa [add_block] at this | exact this) GW520.out)) | (show (Addr.add _ _).block ≠ _;rw [add_block];exact Nat.ne_of_lt (Nat.lt_of_lt_of_le (by have:=World.block_lt_of_cell? _ _ hw532_2;first | rwa [add_block] at this | exact this) GW520.out)) | (dsimp only;exact Nat.ne_of_lt (Nat.lt_of_lt_of_le (by have:=World.block_lt_of_cell? _ _ hw532_2;first | rwa [add_block] at this | exact this) GW520.out))) _).trans (hHeld.2.2.2.2.2))))))⟩ (fun hHeld=>?_)
  clear hK K
  refine pur (i:=13) (N:=some 3) #[true,true,true,true,true,true,true,true,true,true,true,true,true,true] ?_
  refine done_ (done_of HT_.out (by kernel_rfl)) ?_
  try go_wp2
  refine bodyPost_ret (results_ct rfl _ _ gb520 29 #[.int .i64 a0_0,.int .i64 (wrap64 (a0_1 - 1)),.slice Ao42 y538.length co42] (0,0) _ rfl bP Try.underlying29 rfl (by kernel_rfl)) rfl ?_
  exact ⟨_,rfl,by (with_reducible repeat (first | apply Kd.N_alloc | apply Kd.N_drewN | apply Kd.N_drew));exact Kd.N_mono (nFN (g:=gb520) HO540.out (fun k_ hk=>hk.2.2)) (fun _ hk=>hk.1),bB⟩
 rw [if_neg c20] at H
 have c20b0:(a0_0 == 2) = false:=beq_eq_false_iff_ne.mpr c20
 have c20b1:(a0_0 != 2) = true:=bne_iff_ne.mpr c20
 by_cases c46:0 < (l0_2.length:Int);rotate_left
 ·rw [if_neg c46] at H
  exact absurd H (by simp)
 rw [if_pos c46] at H
 have c46b0:decide (0 < (l0_2.length:Int)) = true:=decide_eq_true c46
 have c46b1:decide (0 < l0_2.length) = true:=decide_eq_true (by omega)
 clear c46
 obtain ⟨⟨t542,t543,t544,t547⟩,A47,H⟩:=bQ H
 dsimp only at H
 by_cases c48:1 < (l0_2.length:Int);rotate_left
 ·rw [if_neg c48] at H
  exact absurd H (by simp)
 rw [if_pos c48] at H
 have c48b0:decide (1 < (l0_2.length:Int)) = true:=decide_eq_true c48
 have c48b1:decide (1 < l0_2.length) = true:=decide_eq_true (by omega)
 clear c48
 obtain ⟨⟨t550,t551,t552,t555⟩,A49,H⟩:=bQ H
 dsimp only at H
 by_cases c50:t547 = true
 ·subst c50
  have H1:(if t555 = true then (if a0_0 = 4 then ((spec_l17Meet.f k ((rd_T29 l0_2 0).f0) ((rd_T29 l0_2 0).f1) ((rd_T29 l0_2 0).f2) ((rd_T29 l0_2 1).f0) ((rd_T29 l0_2 1).f1) ((rd_T29 l0_2 1).f2)).bind fun t559=>(if t559 = true then (some (0,0,([]:List (S29)),false)) else ((spec_l17Two.f a0_0 t542 t543 t544 t550 t551 t552).bind fun bt560=>(some (bt560.1,bt560.2.1,bt560.2.2,true))))) else ((spec_l17Two.f a0_0 t542 t543 t544 t550 t551 t552).bind fun bt565=>(some (bt565.1,bt565.2.1,bt565.2.2,true)))) else (some (0,0,([]:List (S29)),false))) = some (r1,r2,r3,r4):=by rw [if_pos rfl] at H;exact H
  clear H
  have H:=H1
  clear H1
  by_cases c51:t555 = true
  ·subst c51
   have H1:(if a0_0 = 4 then ((spec_l17Meet.f k ((rd_T29 l0_2 0).f0) ((rd_T29 l0_2 0).f1) ((rd_T29 l0_2 0).f2) ((rd_T29 l0_2 1).f0) ((rd_T29 l0_2 1).f1) ((rd_T29 l0_2 1).f2)).bind fun t559=>(if t559 = true then (some (0,0,([]:List (S29)),false)) else ((spec_l17Two.f a0_0 t542 t543 t544 t550 t551 t552).bind fun bt560=>(some (bt560.1,bt560.2.1,bt560.2.2,true))))) else ((spec_l17Two.f a0_0 t542 t543 t544 t550 t551 t552).bind fun bt565=>(some (bt565.1,bt565.2.1,bt565.2.2,true)))) = some (r1,r2,r3,r4):=by rw [if_pos rfl] at H;exact H
   clear H
   have H:=H1
   clear H1
   by_cases c52:a0_0 = 4;rotate_left
   ·rw [if_neg c52] at H
    have c52b0:(a0_0 == 4) = false:=beq_eq_false_iff_ne.mpr c52
    have c52b1:(a0_0 != 4) = true:=bne_iff_ne.mpr c52
    obtain ⟨⟨t565,t566,t567⟩,A105,H⟩:=bQ H
    dsimp only at H
    simp only [Option.some.injEq,Prod.mk.injEq] at H
    obtain ⟨rfl,rfl,rfl,rfl⟩:=H
    go_enter Try.func50,Try.ntmps50
    try go_wp2_with (first | ((with_reducible refine gate_dst (N:=1) rfl ?_);refine box1 (N:=1) (cs:=#[.int .i64 a0_0,.int .i64 a0_1,.slice A0_2 l0_2.length c0_2]) (t:=29) ?_;intro gb519 hg w106 hbox hb;have BK519:=aQ (hbox);have GW519:=aQ (gB:w.heap.size ≤ gb519);have GE519:=GW519;replace HB:=aQ (below_step bB hb);clear hb hbox hg) | ((with_reducible refine gate_dst (N:=2) rfl ?_);refine box1 (N:=2) (cs:=#[.int .i64 0,.int .i64 0,.slice none 0 0]) (t:=29) ?_;intro gb520 hg w107 hbox hb;have BK520:=aQ (hbox);have GW520:=aQ (gB:w.heap.size ≤ gb520);have GE520:=GW520;replace HB:=aQ (below_step bB hb);have NB519_520:=aQ ((by rw [hg];exact Nat.ne_of_lt (blk_lt (nB BK519.out)):gb519 ≠ gb520));have NB520_519:=aQ NB519_520.out.symm;replace BK519:=aQ (blk_below (nB BK519.out) hb);clear hb hbox hg;have hnb108:=NB519_520.out;have hnc108:=NB520_519.out;obtain ⟨hcz109_0,hcz109_1,hcz109_2,hfz109_0,hfz109_1,hfz109_2⟩:=cz3 BK519.out;have p541:0 ≤ (0:Int):=(by omega);have q541:0 < (l0_2.length:Int):=of_decide_eq_true (by first | (with_reducible assumption) | assumption);obtain ⟨ad541,A541_2,c541_2,e541,hx541_0,hx541_1,hx541_2,hl541_2,hi541_2⟩:=at_T29 HR0_2.out 0 p541 q541;cases e541;have qi541:(0 < l0_2.length) = True:=eq_true (by omega);(try rw [show ((0:Int)).toNat = 0 from rfl,show 0 * 3 = 0 from rfl] at hx541_0 hx541_1 hx541_2);(try rw [Addr.add_zero'] at hx541_0);(try rw [Addr.add_zero'] at hx541_1);(try rw [Addr.add_zero'] at hx541_2);replace hx541_0:=(HB.out.cell (World.block_lt_of_cell? w _ hx541_0)).trans hx541_0;replace hx541_1:=(HB.out.cell (World.block_lt_of_cell? w _ hx541_1)).trans hx541_1;replace hx541_2:=(HB.out.cell (World.block_lt_of_cell? w _ hx541_2)).trans hx541_2;have HR541_2:=aQ hi541_2;have HC541_2:=aQ hl541_2;clear hi541_2 hl541_2;replace p541:=eq_true p541;replace q541:=eq_true q541) | ((with_reducible refine gate_callee (f:=50) rfl ?_);refine goesL_ (some 47) rfl rfl Try.func50 (by kernel_rfl) rfl #[.agg #[.int .i64 ((rd_T29 l0_2 0).f0),.int .i64 ((rd_T29 l0_2 0).f1),.slice A541_2 ((rd_T29 l0_2 0).f2).length c541_2]] rfl mP ?_;(with_reducible refine (ih k (by omega) ((rd_T29 l0_2 0).f0) ((rd_T29 l0_2 0).f1) _ _ ((rd_T29 l0_2 0).f2) t542 t543 t544 true _ ?side1 ?side2 A47.out).mono ?_);(case side1=>repeat (first | exact (Kd.C_below HR541_2.out HB.out) | (with_reducible refine Kd.C_alloc ?_ _) | (with_reducible refine Kd.C_drewN ?_ _) | (with_reducible refine Kd.C_drew ?_)));(case side2=>exact HC541_2.out);rintro e w110 ⟨v545,rfl,ho0,hb⟩;refine ⟨_,rfl,?_⟩;have HO546:=aQ (Kd.N_lower (Kd.N_mono (ok':=fun k_=>(w.heap.size ≤ k_)∧k_ ≠ gb519∧k_ ≠ gb520) ho0 (fun k_ hk_=>⟨(Nat.le_trans (below_size bB) hk_),(Kd.freshB (nB BK519.out) k_ hk_),(Kd.freshB (nB BK520.out) k_ hk_)⟩)) (below_size bB));replace BK519:=aQ (blk_below (nB BK519.out) hb);replace BK520:=aQ (blk_below (nB BK520.out) hb);replace HB:=aQ (below_step bB hb);(try clear hb);(try clear ho0)) | ((with_reducible refine gate_dst (N:=4) rfl ?_);refine box1 (N:=4) (cs:=#[.int .i64 0,.int .i64 0,.slice none 0 0]) (t:=29) ?_;intro gb548 hg w111 hbox hb;replace HO546:=aQ (Kd.N_below (Kd.N_elderB (nN HO546.out) gb548 (Nat.le_of_eq hg.symm)) hb);have BK548:=aQ (hbox);have GW548:=aQ (gB:w.heap.size ≤ gb548);have GE548:=GW548;replace HB:=aQ (below_step bB hb);have NB519_548:=aQ ((by rw [hg];exact Nat.ne_of_lt (blk_lt (nB BK519.out)):gb519 ≠ gb548));have NB548_519:=aQ NB519_548.out.symm;replace BK519:=aQ (blk_below (nB BK519.out) hb);have NB520_548:=aQ ((by rw [hg];exact Nat.ne_of_lt (blk_lt (nB BK520.out)):gb520 ≠ gb548));have NB548_520:=aQ NB520_548.out.symm;replace BK520:=aQ (blk_below (nB BK520.out) hb);clear hb hbox hg;have hnb112:=NB548_519.out;have hnc112:=NB519_548.out;have hnb113:=NB548_520.out;have hnc113:=NB520_548.out;obtain ⟨hcz114_0,hcz114_1,hcz114_2,hfz114_0,hfz114_1,hfz114_2⟩:=cz3 BK548.out;obtain ⟨Ao115,co115,eo115⟩:=Kd.N_slice HO546.out;subst eo115;obtain ⟨hcz116_0,hcz116_1,hcz116_2,hfz116_0,hfz116_1,hfz116_2⟩:=cz3 BK519.out;have p549:0 ≤ (1:Int):=(by omega);have q549:1 < (l0_2.length:Int):=of_decide_eq_true (by first | (with_reducible assumption) | assumption);obtain ⟨ad549,A549_2,c549_2,e549,hx549_0,hx549_1,hx549_2,hl549_2,hi549_2⟩:=at_T29 HR0_2.out 1 p549 q549;obtain rfl:ad541 = ad549:=(by injection e549);(try simp only [show (1:Int).toNat = 1 from rfl,Nat.reduceMul,Nat.reduceEqDiff,Go.Addr.add,↓reduceIte] at hx549_0);(try simp only [show (1:Int).toNat = 1 from rfl,Nat.reduceMul,Nat.reduceEqDiff,Go.Addr.add,↓reduceIte] at hx549_1);(try simp only [show (1:Int).toNat = 1 from rfl,Nat.reduceMul,Nat.reduceEqDiff,Go.Addr.add,↓reduceIte] at hx549_2);have qi549:(1 < l0_2.length) = True:=eq_true (by omega);(try rw [show ((1:Int)).toNat = 1 from rfl,show 1 * 3 = 3 from rfl] at hx549_0 hx549_1 hx549_2);have hn549_0:ad541.block ≠ gb548:=Nat.ne_of_lt (Nat.lt_of_lt_of_le (by have:=World.block_lt_of_cell? _ _ hx549_0;first | rwa [add_block] at this | exact this) GW548.out);have hn549_1:ad541.block ≠ gb548:=Nat.ne_of_lt (Nat.lt_of_lt_of_le (by have:=World.block_lt_of_cell? _ _ hx549_0;first | rwa [add_block] at this | exact this) GW548.out);have hn549_2:ad541.block ≠ gb548:=Nat.ne_of_lt (Nat.lt_of_lt_of_le (by have:=World.block_lt_of_cell? _ _ hx549_0;first | rwa [add_block] at this | exact this) GW548.out);replace hx549_0:=(HB.out.cell (World.block_lt_of_cell? w _ hx549_0)).trans hx549_0;replace hx549_1:=(HB.out.cell (World.block_lt_of_cell? w _ hx549_1)).trans hx549_1;replace hx549_2:=(HB.out.cell (World.block_lt_of_cell? w _ hx549_2)).trans hx549_2;have HR549_2:=aQ hi549_2;have HC549_2:=aQ hl549_2;clear hi549_2 hl549_2;replace hx549_0:=(cell_far (p:=⟨gb548,0,none⟩) (by first | (rw [add_block];exact hn549_0) | (show (Addr.add _ _).block ≠ _;rw [add_block];exact hn549_0) | exact hn549_0) (.int .i64 t542)).trans hx549_0;replace hx549_1:=(cell_far (p:=⟨gb548,0,none⟩) (by first | (rw [add_block];exact hn549_0) | (show (Addr.add _ _).block ≠ _;rw [add_block];exact hn549_0) | exact hn549_0) (.int .i64 t542)).trans hx549_1;replace hx549_2:=(cell_far (p:=⟨gb548,0,none⟩) (by first | (rw [add_block];exact hn549_0) | (show (Addr.add _ _).block ≠ _;rw [add_block];exact hn549_0) | exact hn549_0) (.int .i64 t542)).trans hx549_2;replace hx549_0:=(cell_far (p:=⟨gb548,1,none⟩) (by first | (rw [add_block];exact hn549_1) | (show (Addr.add _ _).block ≠ _;rw [add_block];exact hn549_1) | exact hn549_1) (.int .i64 t543)).trans hx549_0;replace hx549_1:=(cell_far (p:=⟨gb548,1,none⟩) (by first | (rw [add_block];exact hn549_1) | (show (Addr.add _ _).block ≠ _;rw [add_block];exact hn549_1) | exact hn549_1) (.int .i64 t543)).trans hx549_1;replace hx549_2:=(cell_far (p:=⟨gb548,1,none⟩) (by first | (rw [add_block];exact hn549_1) | (show (Addr.add _ _).block ≠ _;rw [add_block];exact hn549_1) | exact hn549_1) (.int .i64 t543)).trans hx549_2;replace hx549_0:=(cell_far (p:=⟨gb548,2,none⟩) (by first | (rw [add_block];exact hn549_2) | (show (Addr.add _ _).block ≠ _;rw [add_block];exact hn549_2) | exact hn549_2) (.slice Ao115 t544.length co115)).trans hx549_0;replace hx549_1:=(cell_far (p:=⟨gb548,2,none⟩) (by first | (rw [add_block];exact hn549_2) | (show (Addr.add _ _).block ≠ _;rw [add_block];exact hn549_2) | exact hn549_2) (.slice Ao115 t544.length co115)).trans hx549_1;replace hx549_2:=(cell_far (p:=⟨gb548,2,none⟩) (by first | (rw [add_block];exact hn549_2) | (show (Addr.add _ _).block ≠ _;rw [add_block];exact hn549_2) | exact hn549_2) (.slice Ao115 t544.length co115)).trans hx549_2;clear hn549_0;clear hn549_1;clear hn549_2;replace p549:=eq_true p549;replace q549:=eq_true q549) | ((with_reducible refine gate_callee (f:=50) rfl ?_);refine goesL_ (some 55) rfl rfl Try.func50 (by kernel_rfl) rfl #[.agg #[.int .i64 ((rd_T29 l0_2 1).f0),.int .i64 ((rd_T29 l0_2 1).f1),.slice A549_2 ((rd_T29 l0_2 1).f2).length c549_2]] rfl mP ?_;(with_reducible refine (ih k (by omega) ((rd_T29 l0_2 1).f0) ((rd_T29 l0_2 1).f1) _ _ ((rd_T29 l0_2 1).f2) t550 t551 t552 true _ ?side1 ?side2 A49.out).mono ?_);(case side1=>exact Kd.C_below HR549_2.out bB);(case side2=>exact HC549_2.out);rintro e w117 ⟨v553,rfl,ho0,hb⟩;refine ⟨_,rfl,?_⟩;have HO554:=aQ (Kd.N_lower (Kd.N_mono (ok':=fun k_=>(w.heap.size ≤ k_)∧some k_ ≠ (.slice Ao115 t544.length co115:Value).ownBlock∧k_ ≠ gb519∧k_ ≠ gb520∧k_ ≠ gb548) ho0 (fun k_ hk_=>⟨(Nat.le_trans (below_size bB) hk_),(Kd.fresh' (Kd.N_lt (nN ((Kd.N_mono (Kd.N_far (p:=⟨gb548,2,none⟩) (Kd.N_far (p:=⟨gb548,1,none⟩) (Kd.N_far (p:=⟨gb548,0,none⟩) (Kd.N_mono HO546.out (fun k_ hk=>(⟨hk,hk.2⟩:_∧k_ ≠ gb548))) (fun _ hk=>hk.2) (.int .i64 t542)) (fun _ hk=>hk.2) (.int .i64 t543)) (fun _ hk=>hk.2) (.slice Ao115 t544.length co115)) (fun _ h_=>h_.1))))) k_ hk_),(Kd.freshB (g:=gb519) (o:=.cells #[.int .i64 a0_0,.int .i64 a0_1,.slice (some ad541) l0_2.length c0_2] 29 (0,0)) bF k_ hk_),(Kd.freshB (g:=gb520) (o:=.cells #[.int .i64 0,.int .i64 0,.slice none 0 0] 29 (0,0)) bF k_ hk_),(Kd.freshB (g:=gb548) (o:=.cells #[.int .i64 t542,.int .i64 t543,.slice Ao115 t544.length co115] 29 (0,0)) bP k_ hk_)⟩)) (below_size bB));replace HO546:=aQ (Kd.N_elder' (nN ((Kd.N_mono (Kd.N_far (p:=⟨gb548,2,none⟩) (Kd.N_far (p:=⟨gb548,1,none⟩) (Kd.N_far (p:=⟨gb548,0,none⟩) (Kd.N_mono HO546.out (fun k_ hk=>(⟨hk,hk.2⟩:_∧k_ ≠ gb548))) (fun _ hk=>hk.2) (.int .i64 t542)) (fun _ hk=>hk.2) (.int .i64 t543)) (fun _ hk=>hk.2) (.slice Ao115 t544.length co115)) (fun _ h_=>h_.1)))) (Kd.N_base ho0) hb);replace BK519:=aQ (blk_below (g:=gb519) (o:=.cells #[.int .i64 a0_0,.int .i64 a0_1,.slice (some ad541) l0_2.length c0_2] 29 (0,0)) bF hb);replace BK520:=aQ (blk_below (g:=gb520) (o:=.cells #[.int .i64 0,.int .i64 0,.slice none 0 0] 29 (0,0)) bF hb);replace BK548:=aQ (blk_below (g:=gb548) (o:=.cells #[.int .i64 t542,.int .i64 t543,.slice Ao115 t544.length co115] 29 (0,0)) bP hb);replace HB:=aQ (below_step bB hb);(try clear hb);(try clear ho0)) | ((with_reducible refine gate_dst (N:=6) rfl ?_);refine box1 (N:=6) (cs:=#[.int .i64 0,.int .i64 0,.slice none 0 0]) (t:=29) ?_;intro gb556 hg w118 hbox hb;replace HO546:=aQ (Kd.N_below (Kd.N_elderB (nN HO546.out) gb556 (Nat.le_of_eq hg.symm)) hb);replace HO554:=aQ (Kd.N_below (Kd.N_elderB (nN HO554.out) gb556 (Nat.le_of_eq hg.symm)) hb);have BK556:=aQ (hbox);have GW556:=aQ (gB:w.heap.size ≤ gb556);have GE556:=GW556;replace HB:=aQ (below_step bB hb);have NB519_556:=aQ ((by rw [hg];exact Nat.ne_of_lt (blk_lt (nB BK519.out)):gb519 ≠ gb556));have NB556_519:=aQ NB519_556.out.symm;replace BK519:=aQ (blk_below (nB BK519.out) hb);have NB520_556:=aQ ((by rw [hg];exact Nat.ne_of_lt (blk_lt (nB BK520.out)):gb520 ≠ gb556));have NB556_520:=aQ NB520_556.out.symm;replace BK520:=aQ (blk_below (nB BK520.out) hb);have NB548_556:=aQ ((by rw [hg];exact Nat.ne_of_lt (blk_lt (nB BK548.out)):gb548 ≠ gb556));have NB556_548:=aQ NB548_556.out.symm;replace BK548:=aQ (blk_below (nB BK548.out) hb);clear hb hbox hg;have hnb119:=NB556_519.out;have hnc119:=NB519_556.out;have hnb120:=NB556_520.out;have hnc120:=NB520_556.out;have hnb121:=NB556_548.out;have hnc121:=NB548_556.out;obtain ⟨hcz122_0,hcz122_1,hcz122_2,hfz122_0,hfz122_1,hfz122_2⟩:=cz3 BK556.out;obtain ⟨Ao123,co123,eo123⟩:=Kd.N_slice HO554.out;subst eo123))
    have n0_:Aside0 (Kd.N k29 29 (((w118.setCell ⟨gb556,0,none⟩ (.int .i64 t550)).setCell ⟨gb556,1,none⟩ (.int .i64 t551)).setCell ⟨gb556,2,none⟩ (.slice Ao123 t552.length co123)) w.heap.size (fun k_=>(w.heap.size ≤ k_)∧some k_ ≠ (.slice Ao123 t552.length co123:Value).ownBlock∧k_ ≠ gb519∧k_ ≠ gb520∧k_ ≠ gb548∧k_ ≠ gb556) (.slice Ao115 t544.length co115) t544):=⟨Kd.N_mono (nFN (g:=gb556) HO546.out (fun k_ hk=>hk.2)) (fun _ hk=>⟨hk.1.1.1.1,⟨hk.1.2,⟨hk.1.1.1.2.1,⟨hk.1.1.1.2.2,⟨hk.1.1.2,hk.2⟩⟩⟩⟩⟩)⟩
    have n1_:Aside0 (Kd.N k29 29 (((w118.setCell ⟨gb556,0,none⟩ (.int .i64 t550)).setCell ⟨gb556,1,none⟩ (.int .i64 t551)).setCell ⟨gb556,2,none⟩ (.slice Ao123 t552.length co123)) w.heap.size (fun k_=>(w.heap.size ≤ k_)∧some k_ ≠ (.slice Ao115 t544.length co115:Value).ownBlock∧k_ ≠ gb519∧k_ ≠ gb520∧k_ ≠ gb548∧k_ ≠ gb556) (.slice Ao123 t552.length co123) t552):=⟨Kd.N_mono (nFN (g:=gb556) HO554.out (fun k_ hk=>hk.2)) (fun _ hk=>⟨hk.1.1,⟨hk.1.2.1,⟨hk.1.2.2.1,⟨hk.1.2.2.2.1,⟨hk.1.2.2.2.2,hk.2⟩⟩⟩⟩⟩)⟩
    have n2_:Aside0 ((((w118.setCell ⟨gb556,0,none⟩ (.int .i64 t550)).setCell ⟨gb556,1,none⟩ (.int .i64 t551)).setCell ⟨gb556,2,none⟩ (.slice Ao123 t552.length co123)).heap[gb519]? = some (.cells #[.int .i64 a0_0,.int .i64 a0_1,.slice (some ad541) l0_2.length c0_2] 29 (0,0))):=⟨bF⟩
    have n3_:Aside0 ((((w118.setCell ⟨gb556,0,none⟩ (.int .i64 t550)).setCell ⟨gb556,1,none⟩ (.int .i64 t551)).setCell ⟨gb556,2,none⟩ (.slice Ao123 t552.length co123)).heap[gb520]? = some (.cells #[.int .i64 0,.int .i64 0,.slice none 0 0] 29 (0,0))):=⟨bF⟩
    have n4_:Aside0 ((((w118.setCell ⟨gb556,0,none⟩ (.int .i64 t550)).setCell ⟨gb556,1,none⟩ (.int .i64 t551)).setCell ⟨gb556,2,none⟩ (.slice Ao123 t552.length co123)).heap[gb548]? = some (.cells #[.int .i64 t542,.int .i64 t543,.slice Ao115 t544.length co115] 29 (0,0))):=⟨bF⟩
    have n5_:Aside0 ((((w118.setCell ⟨gb556,0,none⟩ (.int .i64 t550)).setCell ⟨gb556,1,none⟩ (.int .i64 t551)).setCell ⟨gb556,2,none⟩ (.slice Ao123 t552.length co123)).heap[gb556]? = some (.cells #[.int .i64 t550,.int .i64 t551,.slice Ao123 t552.length co123] 29 (0,0))):=⟨bP⟩
    have n6_:Aside0 (Below w.heap.size w (((w118.setCell ⟨gb556,0,none⟩ (.int .i64 t550)).setCell ⟨gb556,1,none⟩ (.int .i64 t551)).setCell ⟨gb556,2,none⟩ (.slice Ao123 t552.length co123))):=⟨bB⟩
    (try clear HO546)
    (try clear HO554)
    (try clear BK519)
    (try clear BK520)
    (try clear BK548)
    (try clear BK556)
    (try clear HB)
    generalize (((w118.setCell ⟨gb556,0,none⟩ (.int .i64 t550)).setCell ⟨gb556,1,none⟩ (.int .i64 t551)).setCell ⟨gb556,2,none⟩ (.slice Ao123 t552.length co123)) = w124 at n0_ n1_ n2_ n3_ n4_ n5_ n6_ ⊢
    have HO546:=n0_
    have HO554:=n1_
    have BK519:=n2_
    have BK520:=n3_
    have BK548:=n4_
    have BK556:=n5_
    have HB:=n6_
    clear n0_ n1_ n2_ n3_ n4_ n5_ n6_
    replace HO546:=aQ (Kd.N_drew HO546.out)
    replace HO554:=aQ (Kd.N_drew HO554.out)
    replace BK519:=aQ (blk_drew BK519.out)
    replace BK520:=aQ (blk_drew BK520.out)
    replace BK548:=aQ (blk_drew BK548.out)
    replace BK556:=aQ (blk_drew BK556.out)
    replace HB:=aQ (below_drew1 HB.out)
    refine start_ (n:=22) (S:=fun w'=>w'.cell? ⟨gb519,0,none⟩ = some (.int .i64 a0_0)∧w'.cell? ⟨gb519,1,none⟩ = some (.int .i64 a0_1)∧w'.cell? ⟨gb519,2,none⟩ = some (.slice (some ad541) l0_2.length c0_2)) (ds:=[]) #[false,false,false,false,false,false,false,false,false,false,false,false,false,false,false,false,false,false,false,false,false,false] (by kernel_rfl) rfl rfl ⟨(blk_cell BK519.out 0).trans rfl,(blk_cell BK519.out 1).trans rfl,(blk_cell BK519.out 2).trans rfl⟩ (fun hHeld=>?_);refine with_tabW spec_l17Pass.tab12 spec_l17Pass.bits12 (fun HT_ HW_=>?_)
    generalize w124.drew = w125 at HO546 HO554 BK519 BK520 BK548 BK556 HB hHeld ⊢
    refine pur (i:=0) (N:=some 58) #[true,false,false,false,false,false,false,false,false,false,false,false,false,false,false,false,false,false,false,false,false,false] ?_
    refine pur (i:=1) (N:=some 59) #[true,true,false,false,false,false,false,false,false,false,false,false,false,false,false,false,false,false,false,false,false,false] ?_
    refine pur (i:=2) (N:=some 60) #[true,true,true,false,false,false,false,false,false,false,false,false,false,false,false,false,false,false,false,false,false,false] ?_
    refine pur (i:=3) (N:=some 61) #[true,true,true,true,false,false,false,false,false,false,false,false,false,false,false,false,false,false,false,false,false,false] ?_
    refine pur (i:=4) (N:=some 62) #[true,true,true,true,true,false,false,false,false,false,false,false,false,false,false,false,false,false,false,false,false,false] ?_
    refine pur (i:=5) (N:=some 63) #[true,true,true,true,true,true,false,false,false,false,false,false,false,false,false,false,false,false,false,false,false,false] ?_
    refine pur (i:=6) (N:=some 64) #[true,true,true,true,true,true,true,false,false,false,false,false,false,false,false,false,false,false,false,false,false,false] ?_
    refine pur (i:=7) (N:=some 65) #[true,true,true,true,true,true,true,true,false,false,false,false,false,false,false,false,false,false,false,false,false,false] ?_
    refine tak (i:=8) (N:=some 66) #[true,true,true,true,true,true,true,true,true,false,false,false,false,false,false,false,false,false,false,false,false,false] ?_
    refine pur (i:=9) (N:=some 67) #[true,true,true,true,true,true,true,true,true,true,false,false,false,false,false,false,false,false,false,false,false,false] ?_
    refine pur (i:=10) (N:=some 68) #[true,true,true,true,true,true,true,true,true,true,true,false,false,false,false,false,false,false,false,false,false,false] ?_
    refine pure_ (i:=11) (N:=some 69) (v:=undef) (a':=?_) #[true,true,true,true,true,true,true,true,true,true,true,true,false,false,false,false,false,false,false,false,false,false] rfl rfl (any_of HT_.out (by kernel_rfl)) (fun _ _ _ h=>h) (Or.inr ⟨by rfl,rfl⟩) ?_ ?_
    rotate_left;·simp only [Act.put,List.setIfInBounds_toArray,List.set_cons_zero,List.set_cons_succ,i64_w,i32_w];rfl
    refine pure_ (i:=12) (N:=some 70) (v:=undef) (a':=?_) #[true,true,true,true,true,true,true,true,true,true,true,true,true,false,false,false,false,false,false,false,false,false] rfl rfl (any_of HT_.out (by kernel_rfl)) (fun _ _ _ h=>h) (Or.inr ⟨by rfl,rfl⟩) ?_ ?_
    rotate_left;·simp only [Act.put,List.setIfInBounds_toArray,List.set_cons_zero,List.set_cons_succ,i64_w,i32_w];rfl
    refine pure_ (i:=13) (N:=some 71) (v:=undef) (a':=?_) #[true,true,true,true,true,true,true,true,true,true,true,true,true,true,false,false,false,false,false,false,false,false] rfl rfl (any_of HT_.out (by kernel_rfl)) (fun _ _ _ h=>h) (Or.inr ⟨by rfl,rfl⟩) ?_ ?_
    rotate_left;·simp only [Act.put,List.setIfInBounds_toArray,List.set_cons_zero,List.set_cons_succ,i64_w,i32_w];rfl
    refine pure_ (i:=14) (N:=some 72) (v:=undef) (a':=?_) #[true,true,true,true,true,true,true,true,true,true,true,true,true,true,true,false,false,false,false,false,false,false] rfl rfl (any_of HT_.out (by kernel_rfl)) (fun _ _ _ h=>h) (Or.inr ⟨by rfl,rfl⟩) ?_ ?_
    rotate_left;·simp only [Act.put,List.setIfInBounds_toArray,List.set_cons_zero,List.set_cons_succ,i64_w,i32_w];rfl
    refine pure_ (i:=15) (N:=some 73) (v:=undef) (a':=?_) #[true,true,true,true,true,true,true,true,true,true,true,true,true,true,true,true,false,false,false,false,false,false] rfl rfl (any_of HT_.out (by kernel_rfl)) (fun _ _ _ h=>h) (Or.inr ⟨by rfl,rfl⟩) ?_ ?_
    rotate_left;·simp only [Act.put,List.setIfInBounds_toArray,List.set_cons_zero,List.set_cons_succ,i64_w,i32_w];rfl
    refine pure_ (i:=16) (N:=some 74) (v:=undef) (a':=?_) #[true,true,true,true,true,true,true,true,true,true,true,true,true,true,true,true,true,false,false,false,false,false] rfl rfl (any_of HT_.out (by kernel_rfl)) (fun _ _ _ h=>h) (Or.inr ⟨by rfl,rfl⟩) ?_ ?_
    rotate_left;·simp only [Act.put,List.setIfInBounds_toArray,List.set_cons_zero,List.set_cons_succ,i64_w,i32_w];rfl
    refine pure_ (i:=17) (N:=some 75) (v:=undef) (a':=?_) #[true,true,true,true,true,true,true,true,true,true,true,true,true,true,true,true,true,true,false,false,false,false] rfl rfl (any_of HT_.out (by kernel_rfl)) (fun _ _ _ h=>h) (Or.inr ⟨by rfl,rfl⟩) ?_ ?_
    rotate_left;·simp only [Act.put,List.setIfInBounds_toArray,List.set_cons_zero,List.set_cons_succ,i64_w,i32_w];rfl
    refine pure_ (i:=18) (N:=some 76) (v:=undef) (a':=?_) #[true,true,true,true,true,true,true,true,true,true,true,true,true,true,true,true,true,true,true,false,false,false] rfl rfl (any_of HT_.out (by kernel_rfl)) (fun _ _ _ h=>h) (Or.inr ⟨by rfl,rfl⟩) ?_ ?_
    rotate_left;·simp only [Act.put,List.setIfInBounds_toArray,List.set_cons_zero,List.set_cons_succ,i64_w,i32_w];rfl
    refine pure_ (i:=19) (N:=some 77) (v:=undef) (a':=?_) #[true,true,true,true,true,true,true,true,true,true,true,true,true,true,true,true,true,true,true,true,false,false] rfl rfl (any_of HT_.out (by kernel_rfl)) (fun _ _ _ h=>h) (Or.inr ⟨by rfl,rfl⟩) ?_ ?_
    rotate_left;·simp only [Act.put,List.setIfInBounds_toArray,List.set_cons_zero,List.set_cons_succ,i64_w,i32_w];rfl
    refine pur (i:=20) (N:=some 78) #[true,true,true,true,true,true,true,true,true,true,true,true,true,true,true,true,true,true,true,true,true,false] ?_
    refine pur (i:=21) (N:=some 79) #[true,true,true,true,true,true,true,true,true,true,true,true,true,true,true,true,true,true,true,true,true,true] ?_
    refine done_ (done_of HT_.out (by kernel_rfl)) ?_
    obtain ⟨hcz126_0,hcz126_1,hcz126_2,hfz126_0,hfz126_1,hfz126_2⟩:=cz3 BK519.out
    obtain ⟨hcz127_0,hcz127_1,hcz127_2,hfz127_0,hfz127_1,hfz127_2⟩:=cz3 BK548.out
    obtain ⟨hcz128_0,hcz128_1,hcz128_2,hfz128_0,hfz128_1,hfz128_2⟩:=cz3 BK556.out
    try go_wp2_with (first | ((with_reducible refine gate_callee (f:=66) rfl ?_);refine goesL_ (some 85) rfl rfl Try.func66 (by kernel_rfl) rfl #[.int .i64 a0_0,.agg #[.int .i64 t542,.int .i64 t543,.slice Ao115 t544.length co115],.agg #[.int .i64 t550,.int .i64 t551,.slice Ao123 t552.length co123]] rfl mP ?_;(with_reducible refine (spec_l17Two.calls a0_0 t542 t543 (fun k_=>((w.heap.size ≤ k_)∧(some k_ ≠ (.slice Ao123 t552.length co123:Value).ownBlock∧(k_ ≠ gb519∧(k_ ≠ gb520∧(k_ ≠ gb548∧k_ ≠ gb556)))))) _ _ t544 t550 t551 (fun k_=>((w.heap.size ≤ k_)∧(some k_ ≠ (.slice Ao115 t544.length co115:Value).ownBlock∧(k_ ≠ gb519∧(k_ ≠ gb520∧(k_ ≠ gb548∧k_ ≠ gb556)))))) _ _ t552 t565 t566 t567 _ ?side1 ?side2 A105.out).mono ?_);(case side1=>exact Kd.N_V (HO546.out));(case side2=>exact Kd.N_V (HO554.out));rintro e w129 ⟨v568,rfl,ho0,hb⟩;refine ⟨_,rfl,?_⟩;replace HO546:=aQ (Kd.N_elder' (nN HO546.out) (Kd.N_base ho0) hb);replace HO554:=aQ (Kd.N_elder' (nN HO554.out) (Kd.N_base ho0) hb);have HO569:=aQ (Kd.N_lower (Kd.N_mono (ok':=fun k_=>(w.heap.size ≤ k_)∧k_ ≠ gb519∧k_ ≠ gb520∧k_ ≠ gb548∧k_ ≠ gb556) ho0 (fun k_ hk_=>⟨Or.elim hk_ (fun hs_=>Or.elim hs_ (fun hs_=>hs_.1) (fun hs_=>hs_.1)) (fun hn_=>(Nat.le_trans (below_size bB) hn_)),Or.elim hk_ (fun hs_=>Or.elim hs_ (fun hs_=>hs_.2.2.1) (fun hs_=>hs_.2.2.1)) (fun hn_=>(Kd.freshB (nB BK519.out) k_ hn_)),Or.elim hk_ (fun hs_=>Or.elim hs_ (fun hs_=>hs_.2.2.2.1) (fun hs_=>hs_.2.2.2.1)) (fun hn_=>(Kd.freshB (nB BK520.out) k_ hn_)),Or.elim hk_ (fun hs_=>Or.elim hs_ (fun hs_=>hs_.2.2.2.2.1) (fun hs_=>hs_.2.2.2.2.1)) (fun hn_=>(Kd.freshB (nB BK548.out) k_ hn_)),Or.elim hk_ (fun hs_=>Or.elim hs_ (fun hs_=>hs_.2.2.2.2.2) (fun hs_=>hs_.2.2.2.2.2)) (fun hn_=>(Kd.freshB (nB BK556.out) k_ hn_))⟩)) (below_size bB));replace BK519:=aQ (blk_below (nB BK519.out) hb);replace BK520:=aQ (blk_below (nB BK520.out) hb);replace BK548:=aQ (blk_below (nB BK548.out) hb);replace BK556:=aQ (blk_below (nB BK556.out) hb);replace HB:=aQ (below_step bB hb);(try clear hb);(try clear ho0);obtain ⟨hcz130_0,hcz130_1,hcz130_2,hfz130_0,hfz130_1,hfz130_2⟩:=cz3 BK520.out;obtain ⟨Ao131,co131,eo131⟩:=Kd.N_slice HO569.out;subst eo131))
    refine bodyPost_ret (results_ct rfl _ _ gb520 29 #[.int .i64 t565,.int .i64 t566,.slice Ao131 t567.length co131] (0,0) _ rfl bP Try.underlying29 rfl (by kernel_rfl)) rfl ?_
    exact ⟨_,rfl,by (with_reducible repeat (first | apply Kd.N_alloc | apply Kd.N_drewN | apply Kd.N_drew));exact Kd.N_mono (nFN (g:=gb520) HO569.out (fun k_ hk=>hk.2.2.1)) (fun _ hk=>hk.1),bB⟩
   rw [if_pos c52] at H
   have c52b0:(a0_0 == 4) = true:=beq_iff_eq.mpr c52
   have c52b1:(a0_0 != 4) = false:=bne_eq_false_iff_eq.mpr c52
   clear c52
   obtain ⟨t559,A53,H⟩:=bQ H
   (try dsimp only at H)
   by_cases c54:t559 = true
   ·subst c54
    have H1:(some (0,0,([]:List (S29)),false)) = some (r1,r2,r3,r4):=by rw [if_pos rfl] at H;exact H
    clear H
    have H:=H1
    clear H1
    simp only [Option.some.injEq,Prod.mk.injEq] at H
    obtain ⟨rfl,rfl,rfl,rfl⟩:=H
    go_enter Try.func50,Try.ntmps50
    try go_wp2_with (first | ((with_reducible refine gate_dst (N:=1) rfl ?_);refine box1 (N:=1) (cs:=#[.int .i64 a0_0,.int .i64 a0_1,.slice A0_2 l0_2.length c0_2]) (t:=29) ?_;intro gb519 hg w55 hbox hb;have BK519:=aQ (hbox);have GW519:=aQ (gB:w.heap.size ≤ gb519);have GE519:=GW519;replace HB:=aQ (below_step bB hb);clear hb hbox hg) | ((with_reducible refine gate_dst (N:=2) rfl ?_);refine box1 (N:=2) (cs:=#[.int .i64 0,.int .i64 0,.slice none 0 0]) (t:=29) ?_;intro gb520 hg w56 hbox hb;have BK520:=aQ (hbox);have GW520:=aQ (gB:w.heap.size ≤ gb520);have GE520:=GW520;replace HB:=aQ (below_step bB hb);have NB519_520:=aQ ((by rw [hg];exact Nat.ne_of_lt (blk_lt (nB BK519.out)):gb519 ≠ gb520));have NB520_519:=aQ NB519_520.out.symm;replace BK519:=aQ (blk_below (nB BK519.out) hb);clear hb hbox hg;have hnb57:=NB519_520.out;have hnc57:=NB520_519.out;obtain ⟨hcz58_0,hcz58_1,hcz58_2,hfz58_0,hfz58_1,hfz58_2⟩:=cz3 BK519.out;have p541:0 ≤ (0:Int):=(by omega);have q541:0 < (l0_2.length:Int):=of_decide_eq_true (by first | (with_reducible assumption) | assumption);obtain ⟨ad541,A541_2,c541_2,e541,hx541_0,hx541_1,hx541_2,hl541_2,hi541_2⟩:=at_T29 HR0_2.out 0 p541 q541;cases e541;have qi541:(0 < l0_2.length) = True:=eq_true (by omega);(try rw [show ((0:Int)).toNat = 0 from rfl,show 0 * 3 = 0 from rfl] at hx541_0 hx541_1 hx541_2);(try rw [Addr.add_zero'] at hx541_0);(try rw [Addr.add_zero'] at hx541_1);(try rw [Addr.add_zero'] at hx541_2);replace hx541_0:=(HB.out.cell (World.block_lt_of_cell? w _ hx541_0)).trans hx541_0;replace hx541_1:=(HB.out.cell (World.block_lt_of_cell? w _ hx541_1)).trans hx541_1;replace hx541_2:=(HB.out.cell (World.block_lt_of_cell? w _ hx541_2)).trans hx541_2;have HR541_2:=aQ hi541_2;have HC541_2:=aQ hl541_2;clear hi541_2 hl541_2;replace p541:=eq_true p541;replace q541:=eq_true q541) | ((with_reducible refine gate_callee (f:=50) rfl ?_);refine goesL_ (some 47) rfl rfl Try.func50 (by kernel_rfl) rfl #[.agg #[.int .i64 ((rd_T29 l0_2 0).f0),.int .i64 ((rd_T29 l0_2 0).f1),.slice A541_2 ((rd_T29 l0_2 0).f2).length c541_2]] rfl mP ?_;(with_reducible refine (ih k (by omega) ((rd_T29 l0_2 0).f0) ((rd_T29 l0_2 0).f1) _ _ ((rd_T29 l0_2 0).f2) t542 t543 t544 true _ ?side1 ?side2 A47.out).mono ?_);(case side1=>repeat (first | exact (Kd.C_below HR541_2.out HB.out) | (with_reducible refine Kd.C_alloc ?_ _) | (with_reducible refine Kd.C_drewN ?_ _) | (with_reducible refine Kd.C_drew ?_)));(case side2=>exact HC541_2.out);rintro e w59 ⟨v545,rfl,ho0,hb⟩;refine ⟨_,rfl,?_⟩;have HO546:=aQ (Kd.N_lower (Kd.N_mono (ok':=fun k_=>(w.heap.size ≤ k_)∧k_ ≠ gb519∧k_ ≠ gb520) ho0 (fun k_ hk_=>⟨(Nat.le_trans (below_size bB) hk_),(Kd.freshB (nB BK519.out) k_ hk_),(Kd.freshB (nB BK520.out) k_ hk_)⟩)) (below_size bB));replace BK519:=aQ (blk_below (nB BK519.out) hb);replace BK520:=aQ (blk_below (nB BK520.out) hb);replace HB:=aQ (below_step bB hb);(try clear hb);(try clear ho0)) | ((with_reducible refine gate_dst (N:=4) rfl ?_);refine box1 (N:=4) (cs:=#[.int .i64 0,.int .i64 0,.slice none 0 0]) (t:=29) ?_;intro gb548 hg w60 hbox hb;replace HO546:=aQ (Kd.N_below (Kd.N_elderB (nN HO546.out) gb548 (Nat.le_of_eq hg.symm)) hb);have BK548:=aQ (hbox);have GW548:=aQ (gB:w.heap.size ≤ gb548);have GE548:=GW548;replace HB:=aQ (below_step bB hb);have NB519_548:=aQ ((by rw [hg];exact Nat.ne_of_lt (blk_lt (nB BK519.out)):gb519 ≠ gb548));have NB548_519:=aQ NB519_548.out.symm;replace BK519:=aQ (blk_below (nB BK519.out) hb);have NB520_548:=aQ ((by rw [hg];exact Nat.ne_of_lt (blk_lt (nB BK520.out)):gb520 ≠ gb548));have NB548_520:=aQ NB520_548.out.symm;replace BK520:=aQ (blk_below (nB BK520.out) hb);clear hb hbox hg;have hnb61:=NB548_519.out;have hnc61:=NB519_548.out;have hnb62:=NB548_520.out;have hnc62:=NB520_548.out;obtain ⟨hcz63_0,hcz63_1,hcz63_2,hfz63_0,hfz63_1,hfz63_2⟩:=cz3 BK548.out;obtain ⟨Ao64,co64,eo64⟩:=Kd.N_slice HO546.out;subst eo64;obtain ⟨hcz65_0,hcz65_1,hcz65_2,hfz65_0,hfz65_1,hfz65_2⟩:=cz3 BK519.out;have p549:0 ≤ (1:Int):=(by omega);have q549:1 < (l0_2.length:Int):=of_decide_eq_true (by first | (with_reducible assumption) | assumption);obtain ⟨ad549,A549_2,c549_2,e549,hx549_0,hx549_1,hx549_2,hl549_2,hi549_2⟩:=at_T29 HR0_2.out 1 p549 q549;obtain rfl:ad541 = ad549:=(by injection e549);(try simp only [show (1:Int).toNat = 1 from rfl,Nat.reduceMul,Nat.reduceEqDiff,Go.Addr.add,↓reduceIte] at hx549_0);(try simp only [show (1:Int).toNat = 1 from rfl,Nat.reduceMul,Nat.reduceEqDiff,Go.Addr.add,↓reduceIte] at hx549_1);(try simp only [show (1:Int).toNat = 1 from rfl,Nat.reduceMul,Nat.reduceEqDiff,Go.Addr.add,↓reduceIte] at hx549_2);have qi549:(1 < l0_2.length) = True:=eq_true (by omega);(try rw [show ((1:Int)).toNat = 1 from rfl,show 1 * 3 = 3 from rfl] at hx549_0 hx549_1 hx549_2);have hn549_0:ad541.block ≠ gb548:=Nat.ne_of_lt (Nat.lt_of_lt_of_le (by have:=World.block_lt_of_cell? _ _ hx549_0;first | rwa [add_block] at this | exact this) GW548.out);have hn549_1:ad541.block ≠ gb548:=Nat.ne_of_lt (Nat.lt_of_lt_of_le (by have:=World.block_lt_of_cell? _ _ hx549_0;first | rwa [add_block] at this | exact this) GW548.out);have hn549_2:ad541.block ≠ gb548:=Nat.ne_of_lt (Nat.lt_of_lt_of_le (by have:=World.block_lt_of_cell? _ _ hx549_0;first | rwa [add_block] at this | exact this) GW548.out);replace hx549_0:=(HB.out.cell (World.block_lt_of_cell? w _ hx549_0)).trans hx549_0;replace hx549_1:=(HB.out.cell (World.block_lt_of_cell? w _ hx549_1)).trans hx549_1;replace hx549_2:=(HB.out.cell (World.block_lt_of_cell? w _ hx549_2)).trans hx549_2;have HR549_2:=aQ hi549_2;have HC549_2:=aQ hl549_2;clear hi549_2 hl549_2;replace hx549_0:=(cell_far (p:=⟨gb548,0,none⟩) (by first | (rw [add_block];exact hn549_0) | (show (Addr.add _ _).block ≠ _;rw [add_block];exact hn549_0) | exact hn549_0) (.int .i64 t542)).trans hx549_0;replace hx549_1:=(cell_far (p:=⟨gb548,0,none⟩) (by first | (rw [add_block];exact hn549_0) | (show (Addr.add _ _).block ≠ _;rw [add_block];exact hn549_0) | exact hn549_0) (.int .i64 t542)).trans hx549_1;replace hx549_2:=(cell_far (p:=⟨gb548,0,none⟩) (by first | (rw [add_block];exact hn549_0) | (show (Addr.add _ _).block ≠ _;rw [add_block];exact hn549_0) | exact hn549_0) (.int .i64 t542)).trans hx549_2;replace hx549_0:=(cell_far (p:=⟨gb548,1,none⟩) (by first | (rw [add_block];exact hn549_1) | (show (Addr.add _ _).block ≠ _;rw [add_block];exact hn549_1) | exact hn549_1) (.int .i64 t543)).trans hx549_0;replace hx549_1:=(cell_far (p:=⟨gb548,1,none⟩) (by first | (rw [add_block];exact hn549_1) | (show (Addr.add _ _).block ≠ _;rw [add_block];exact hn549_1) | exact hn549_1) (.int .i64 t543)).trans hx549_1;replace hx549_2:=(cell_far (p:=⟨gb548,1,none⟩) (by first | (rw [add_block];exact hn549_1) | (show (Addr.add _ _).block ≠ _;rw [add_block];exact hn549_1) | exact hn549_1) (.int .i64 t543)).trans hx549_2;replace hx549_0:=(cell_far (p:=⟨gb548,2,none⟩) (by first | (rw [add_block];exact hn549_2) | (show (Addr.add _ _).block ≠ _;rw [add_block];exact hn549_2) | exact hn549_2) (.slice Ao64 t544.length co64)).trans hx549_0;replace hx549_1:=(cell_far (p:=⟨gb548,2,none⟩) (by first | (rw [add_block];exact hn549_2) | (show (Addr.add _ _).block ≠ _;rw [add_block];exact hn549_2) | exact hn549_2) (.slice Ao64 t544.length co64)).trans hx549_1;replace hx549_2:=(cell_far (p:=⟨gb548,2,none⟩) (by first | (rw [add_block];exact hn549_2) | (show (Addr.add _ _).block ≠ _;rw [add_block];exact hn549_2) | exact hn549_2) (.slice Ao64 t544.length co64)).trans hx549_2;clear hn549_0;clear hn549_1;clear hn549_2;replace p549:=eq_true p549;replace q549:=eq_true q549) | ((with_reducible refine gate_callee (f:=50) rfl ?_);refine goesL_ (some 55) rfl rfl Try.func50 (by kernel_rfl) rfl #[.agg #[.int .i64 ((rd_T29 l0_2 1).f0),.int .i64 ((rd_T29 l0_2 1).f1),.slice A549_2 ((rd_T29 l0_2 1).f2).length c549_2]] rfl mP ?_;(with_reducible refine (ih k (by omega) ((rd_T29 l0_2 1).f0) ((rd_T29 l0_2 1).f1) _ _ ((rd_T29 l0_2 1).f2) t550 t551 t552 true _ ?side1 ?side2 A49.out).mono ?_);(case side1=>exact Kd.C_below HR549_2.out bB);(case side2=>exact HC549_2.out);rintro e w66 ⟨v553,rfl,ho0,hb⟩;refine ⟨_,rfl,?_⟩;have HO554:=aQ (Kd.N_lower (Kd.N_mono (ok':=fun k_=>(w.heap.size ≤ k_)∧some k_ ≠ (.slice Ao64 t544.length co64:Value).ownBlock∧k_ ≠ gb519∧k_ ≠ gb520∧k_ ≠ gb548) ho0 (fun k_ hk_=>⟨(Nat.le_trans (below_size bB) hk_),(Kd.fresh' (Kd.N_lt (nN ((Kd.N_mono (Kd.N_far (p:=⟨gb548,2,none⟩) (Kd.N_far (p:=⟨gb548,1,none⟩) (Kd.N_far (p:=⟨gb548,0,none⟩) (Kd.N_mono HO546.out (fun k_ hk=>(⟨hk,hk.2⟩:_∧k_ ≠ gb548))) (fun _ hk=>hk.2) (.int .i64 t542)) (fun _ hk=>hk.2) (.int .i64 t543)) (fun _ hk=>hk.2) (.slice Ao64 t544.length co64)) (fun _ h_=>h_.1))))) k_ hk_),(Kd.freshB (g:=gb519) (o:=.cells #[.int .i64 a0_0,.int .i64 a0_1,.slice (some ad541) l0_2.length c0_2] 29 (0,0)) bF k_ hk_),(Kd.freshB (g:=gb520) (o:=.cells #[.int .i64 0,.int .i64 0,.slice none 0 0] 29 (0,0)) bF k_ hk_),(Kd.freshB (g:=gb548) (o:=.cells #[.int .i64 t542,.int .i64 t543,.slice Ao64 t544.length co64] 29 (0,0)) bP k_ hk_)⟩)) (below_size bB));replace HO546:=aQ (Kd.N_elder' (nN ((Kd.N_mono (Kd.N_far (p:=⟨gb548,2,none⟩) (Kd.N_far (p:=⟨gb548,1,none⟩) (Kd.N_far (p:=⟨gb548,0,none⟩) (Kd.N_mono HO546.out (fun k_ hk=>(⟨hk,hk.2⟩:_∧k_ ≠ gb548))) (fun _ hk=>hk.2) (.int .i64 t542)) (fun _ hk=>hk.2) (.int .i64 t543)) (fun _ hk=>hk.2) (.slice Ao64 t544.length co64)) (fun _ h_=>h_.1)))) (Kd.N_base ho0) hb);replace BK519:=aQ (blk_below (g:=gb519) (o:=.cells #[.int .i64 a0_0,.int .i64 a0_1,.slice (some ad541) l0_2.length c0_2] 29 (0,0)) bF hb);replace BK520:=aQ (blk_below (g:=gb520) (o:=.cells #[.int .i64 0,.int .i64 0,.slice none 0 0] 29 (0,0)) bF hb);replace BK548:=aQ (blk_below (g:=gb548) (o:=.cells #[.int .i64 t542,.int .i64 t543,.slice Ao64 t544.length co64] 29 (0,0)) bP hb);replace HB:=aQ (below_step bB hb);(try clear hb);(try clear ho0)) | ((with_reducible refine gate_dst (N:=6) rfl ?_);refine box1 (N:=6) (cs:=#[.int .i64 0,.int .i64 0,.slice none 0 0]) (t:=29) ?_;intro gb556 hg w67 hbox hb;replace HO546:=aQ (Kd.N_below (Kd.N_elderB (nN HO546.out) gb556 (Nat.le_of_eq hg.symm)) hb);replace HO554:=aQ (Kd.N_below (Kd.N_elderB (nN HO554.out) gb556 (Nat.le_of_eq hg.symm)) hb);have BK556:=aQ (hbox);have GW556:=aQ (gB:w.heap.size ≤ gb556);have GE556:=GW556;replace HB:=aQ (below_step bB hb);have NB519_556:=aQ ((by rw [hg];exact Nat.ne_of_lt (blk_lt (nB BK519.out)):gb519 ≠ gb556));have NB556_519:=aQ NB519_556.out.symm;replace BK519:=aQ (blk_below (nB BK519.out) hb);have NB520_556:=aQ ((by rw [hg];exact Nat.ne_of_lt (blk_lt (nB BK520.out)):gb520 ≠ gb556));have NB556_520:=aQ NB520_556.out.symm;replace BK520:=aQ (blk_below (nB BK520.out) hb);have NB548_556:=aQ ((by rw [hg];exact Nat.ne_of_lt (blk_lt (nB BK548.out)):gb548 ≠ gb556));have NB556_548:=aQ NB548_556.out.symm;replace BK548:=aQ (blk_below (nB BK548.out) hb);clear hb hbox hg;have hnb68:=NB556_519.out;have hnc68:=NB519_556.out;have hnb69:=NB556_520.out;have hnc69:=NB520_556.out;have hnb70:=NB556_548.out;have hnc70:=NB548_556.out;obtain ⟨hcz71_0,hcz71_1,hcz71_2,hfz71_0,hfz71_1,hfz71_2⟩:=cz3 BK556.out;obtain ⟨Ao72,co72,eo72⟩:=Kd.N_slice HO554.out;subst eo72))
    have n0_:Aside0 (Kd.N k29 29 (((w67.setCell ⟨gb556,0,none⟩ (.int .i64 t550)).setCell ⟨gb556,1,none⟩ (.int .i64 t551)).setCell ⟨gb556,2,none⟩ (.slice Ao72 t552.length co72)) w.heap.size (fun k_=>(w.heap.size ≤ k_)∧some k_ ≠ (.slice Ao72 t552.length co72:Value).ownBlock∧k_ ≠ gb519∧k_ ≠ gb520∧k_ ≠ gb548∧k_ ≠ gb556) (.slice Ao64 t544.length co64) t544):=⟨Kd.N_mono (nFN (g:=gb556) HO546.out (fun k_ hk=>hk.2)) (fun _ hk=>⟨hk.1.1.1.1,⟨hk.1.2,⟨hk.1.1.1.2.1,⟨hk.1.1.1.2.2,⟨hk.1.1.2,hk.2⟩⟩⟩⟩⟩)⟩
    have n1_:Aside0 (Kd.N k29 29 (((w67.setCell ⟨gb556,0,none⟩ (.int .i64 t550)).setCell ⟨gb556,1,none⟩ (.int .i64 t551)).setCell ⟨gb556,2,none⟩ (.slice Ao72 t552.length co72)) w.heap.size (fun k_=>(w.heap.size ≤ k_)∧some k_ ≠ (.slice Ao64 t544.length co64:Value).ownBlock∧k_ ≠ gb519∧k_ ≠ gb520∧k_ ≠ gb548∧k_ ≠ gb556) (.slice Ao72 t552.length co72) t552):=⟨Kd.N_mono (nFN (g:=gb556) HO554.out (fun k_ hk=>hk.2)) (fun _ hk=>⟨hk.1.1,⟨hk.1.2.1,⟨hk.1.2.2.1,⟨hk.1.2.2.2.1,⟨hk.1.2.2.2.2,hk.2⟩⟩⟩⟩⟩)⟩
    have n2_:Aside0 ((((w67.setCell ⟨gb556,0,none⟩ (.int .i64 t550)).setCell ⟨gb556,1,none⟩ (.int .i64 t551)).setCell ⟨gb556,2,none⟩ (.slice Ao72 t552.length co72)).heap[gb519]? = some (.cells #[.int .i64 a0_0,.int .i64 a0_1,.slice (some ad541) l0_2.length c0_2] 29 (0,0))):=⟨bF⟩
    have n3_:Aside0 ((((w67.setCell ⟨gb556,0,none⟩ (.int .i64 t550)).setCell ⟨gb556,1,none⟩ (.int .i64 t551)).setCell ⟨gb556,2,none⟩ (.slice Ao72 t552.length co72)).heap[gb520]? = some (.cells #[.int .i64 0,.int .i64 0,.slice none 0 0] 29 (0,0))):=⟨bF⟩
    have n4_:Aside0 ((((w67.setCell ⟨gb556,0,none⟩ (.int .i64 t550)).setCell ⟨gb556,1,none⟩ (.int .i64 t551)).setCell ⟨gb556,2,none⟩ (.slice Ao72 t552.length co72)).heap[gb548]? = some (.cells #[.int .i64 t542,.int .i64 t543,.slice Ao64 t544.length co64] 29 (0,0))):=⟨bF⟩
    have n5_:Aside0 ((((w67.setCell ⟨gb556,0,none⟩ (.int .i64 t550)).setCell ⟨gb556,1,none⟩ (.int .i64 t551)).setCell ⟨gb556,2,none⟩ (.slice Ao72 t552.length co72)).heap[gb556]? = some (.cells #[.int .i64 t550,.int .i64 t551,.slice Ao72 t552.length co72] 29 (0,0))):=⟨bP⟩
    have n6_:Aside0 (Below w.heap.size w (((w67.setCell ⟨gb556,0,none⟩ (.int .i64 t550)).setCell ⟨gb556,1,none⟩ (.int .i64 t551)).setCell ⟨gb556,2,none⟩ (.slice Ao72 t552.length co72))):=⟨bB⟩
    (try clear HO546)
    (try clear HO554)
    (try clear BK519)
    (try clear BK520)
    (try clear BK548)
    (try clear BK556)
    (try clear HB)
    generalize (((w67.setCell ⟨gb556,0,none⟩ (.int .i64 t550)).setCell ⟨gb556,1,none⟩ (.int .i64 t551)).setCell ⟨gb556,2,none⟩ (.slice Ao72 t552.length co72)) = w73 at n0_ n1_ n2_ n3_ n4_ n5_ n6_ ⊢
    have HO546:=n0_
    have HO554:=n1_
    have BK519:=n2_
    have BK520:=n3_
    have BK548:=n4_
    have BK556:=n5_
    have HB:=n6_
    clear n0_ n1_ n2_ n3_ n4_ n5_ n6_
    replace HO546:=aQ (Kd.N_drew HO546.out)
    replace HO554:=aQ (Kd.N_drew HO554.out)
    replace BK519:=aQ (blk_drew BK519.out)
    replace BK520:=aQ (blk_drew BK520.out)
    replace BK548:=aQ (blk_drew BK548.out)
    replace BK556:=aQ (blk_drew BK556.out)
    replace HB:=aQ (below_drew1 HB.out)
    have p557:0 ≤ (0:Int):=(by omega)
    have q557:0 < (l0_2.length:Int):=of_decide_eq_true (by first | (with_reducible assumption) | assumption)
    obtain ⟨ad557,A557_2,c557_2,e557,hx557_0,hx557_1,hx557_2,hl557_2,hi557_2⟩:=at_T29 HR0_2.out 0 p557 q557
    have hw557_2:=hx557_2
    (try rw [show ((0:Int)).toNat = 0 from rfl] at hw557_2)
    (try rw [show 0 * 3 = 0 from rfl] at hw557_2)
    (try rw [Addr.add_zero'] at hw557_2)
    have hw557_1:=hx557_1
    (try rw [show ((0:Int)).toNat = 0 from rfl] at hw557_1)
    (try rw [show 0 * 3 = 0 from rfl] at hw557_1)
    (try rw [Addr.add_zero'] at hw557_1)
    have hw557_0:=hx557_0
    (try rw [show ((0:Int)).toNat = 0 from rfl] at hw557_0)
    (try rw [show 0 * 3 = 0 from rfl] at hw557_0)
    (try rw [Addr.add_zero'] at hw557_0)
    obtain rfl:ad541 = ad557:=(by injection e557)
    have qi557:(0 < l0_2.length) = True:=eq_true (by omega)
    (try rw [show ((0:Int)).toNat = 0 from rfl,show 0 * 3 = 0 from rfl] at hx557_0 hx557_1 hx557_2)
    (try rw [Addr.add_zero'] at hx557_0)
    (try rw [Addr.add_zero'] at hx557_1)
    (try rw [Addr.add_zero'] at hx557_2)
    replace hx557_0:=(HB.out.cell (World.block_lt_of_cell? w _ hx557_0)).trans hx557_0
    replace hx557_1:=(HB.out.cell (World.block_lt_of_cell? w _ hx557_1)).trans hx557_1
    replace hx557_2:=(HB.out.cell (World.block_lt_of_cell? w _ hx557_2)).trans hx557_2
    have HR557_2:=aQ hi557_2
    have HC557_2:=aQ hl557_2
    clear hi557_2 hl557_2
    replace p557:=eq_true p557
    replace q557:=eq_true q557
    have p558:0 ≤ (1:Int):=(by omega)
    have q558:1 < (l0_2.length:Int):=of_decide_eq_true (by first | (with_reducible assumption) | assumption)
    obtain ⟨ad558,A558_2,c558_2,e558,hx558_0,hx558_1,hx558_2,hl558_2,hi558_2⟩:=at_T29 HR0_2.out 1 p558 q558
    have hw558_2:=hx558_2
    (try rw [show ((1:Int)).toNat = 1 from rfl] at hw558_2)
    (try rw [show 1 * 3 = 3 from rfl] at hw558_2)
    (try simp only [Nat.reduceMul,Nat.reduceEqDiff,Go.Addr.add,↓reduceIte] at hw558_2)
    have hw558_1:=hx558_1
    (try rw [show ((1:Int)).toNat = 1 from rfl] at hw558_1)
    (try rw [show 1 * 3 = 3 from rfl] at hw558_1)
    (try simp only [Nat.reduceMul,Nat.reduceEqDiff,Go.Addr.add,↓reduceIte] at hw558_1)
    have hw558_0:=hx558_0
    (try rw [show ((1:Int)).toNat = 1 from rfl] at hw558_0)
    (try rw [show 1 * 3 = 3 from rfl] at hw558_0)
    (try simp only [Nat.reduceMul,Nat.reduceEqDiff,Go.Addr.add,↓reduceIte] at hw558_0)
    obtain rfl:ad541 = ad558:=(by injection e558)
    (try simp only [show (1:Int).toNat = 1 from rfl,Nat.reduceMul,Nat.reduceEqDiff,Go.Addr.add,↓reduceIte] at hx558_0)
    (try simp only [show (1:Int).toNat = 1 from rfl,Nat.reduceMul,Nat.reduceEqDiff,Go.Addr.add,↓reduceIte] at hx558_1)
    (try simp only [show (1:Int).toNat = 1 from rfl,Nat.reduceMul,Nat.reduceEqDiff,Go.Addr.add,↓reduceIte] at hx558_2)
    have qi558:(1 < l0_2.length) = True:=eq_true (by omega)
    (try rw [show ((1:Int)).toNat = 1 from rfl,show 1 * 3 = 3 from rfl] at hx558_0 hx558_1 hx558_2)
    replace hx558_0:=(HB.out.cell (World.block_lt_of_cell? w _ hx558_0)).trans hx558_0
    replace hx558_1:=(HB.out.cell (World.block_lt_of_cell? w _ hx558_1)).trans hx558_1
    replace hx558_2:=(HB.out.cell (World.block_lt_of_cell? w _ hx558_2)).trans hx558_2
    have HR558_2:=aQ hi558_2
    have HC558_2:=aQ hl558_2
    clear hi558_2 hl558_2
    replace p558:=eq_true p558
    replace q558:=eq_true q558
    refine start_ (n:=22) (S:=fun w'=>w'.cell? ⟨gb519,0,none⟩ = some (.int .i64 a0_0)∧w'.cell? ⟨gb519,1,none⟩ = some (.int .i64 a0_1)∧w'.cell? ⟨gb519,2,none⟩ = some (.slice (some ad541) l0_2.length c0_2)∧w'.cell? ad541 = some (.int .i64 ((rd_T29 l0_2 0).f0))∧w'.cell? ⟨ad541.block,ad541.off + 1,none⟩ = some (.int .i64 ((rd_T29 l0_2 0).f1))∧w'.cell? ⟨ad541.block,ad541.off + 2,none⟩ = some (.slice A557_2 ((rd_T29 l0_2 0).f2).length c557_2)∧w'.cell? ⟨ad541.block,ad541.off + 3,none⟩ = some (.int .i64 ((rd_T29 l0_2 1).f0))∧w'.cell? ⟨ad541.block,ad541.off + 3 + 1,none⟩ = some (.int .i64 ((rd_T29 l0_2 1).f1))∧w'.cell? ⟨ad541.block,ad541.off + 3 + 2,none⟩ = some (.slice A558_2 ((rd_T29 l0_2 1).f2).length c558_2)) (ds:=[]) #[false,false,false,false,false,false,false,false,false,false,false,false,false,false,false,false,false,false,false,false,false,false] (by kernel_rfl) rfl rfl ⟨(blk_cell BK519.out 0).trans rfl,(blk_cell BK519.out 1).trans rfl,(blk_cell BK519.out 2).trans rfl,((HB.out.cell (World.block_lt_of_cell? w _ hw557_0)).trans hw557_0),((HB.out.cell (World.block_lt_of_cell? w _ hw557_1)).trans hw557_1),((HB.out.cell (World.block_lt_of_cell? w _ hw557_2)).trans hw557_2),((HB.out.cell (World.block_lt_of_cell? w _ hw558_0)).trans hw558_0),((HB.out.cell (World.block_lt_of_cell? w _ hw558_1)).trans hw558_1),((HB.out.cell (World.block_lt_of_cell? w _ hw558_2)).trans hw558_2)⟩ (fun hHeld=>?_);refine with_tabW spec_l17Pass.tab12 spec_l17Pass.bits12 (fun HT_ HW_=>?_)
    generalize w73.drew = w74 at HO546 HO554 BK519 BK520 BK548 BK556 HB HR557_2 HR558_2 hx557_0 hx557_1 hx557_2 hx558_0 hx558_1 hx558_2 hHeld ⊢
    refine pur (i:=0) (N:=some 58) #[true,false,false,false,false,false,false,false,false,false,false,false,false,false,false,false,false,false,false,false,false,false] ?_
    refine pur (i:=1) (N:=some 59) #[true,true,false,false,false,false,false,false,false,false,false,false,false,false,false,false,false,false,false,false,false,false] ?_
    refine pur (i:=2) (N:=some 60) #[true,true,true,false,false,false,false,false,false,false,false,false,false,false,false,false,false,false,false,false,false,false] ?_
    refine pur (i:=3) (N:=some 61) #[true,true,true,true,false,false,false,false,false,false,false,false,false,false,false,false,false,false,false,false,false,false] ?_
    refine pur (i:=4) (N:=some 62) #[true,true,true,true,true,false,false,false,false,false,false,false,false,false,false,false,false,false,false,false,false,false] ?_
    refine pur (i:=5) (N:=some 63) #[true,true,true,true,true,true,false,false,false,false,false,false,false,false,false,false,false,false,false,false,false,false] ?_
    refine pur (i:=6) (N:=some 64) #[true,true,true,true,true,true,true,false,false,false,false,false,false,false,false,false,false,false,false,false,false,false] ?_
    refine pur (i:=7) (N:=some 65) #[true,true,true,true,true,true,true,true,false,false,false,false,false,false,false,false,false,false,false,false,false,false] ?_
    refine tak (i:=8) (N:=some 66) #[true,true,true,true,true,true,true,true,true,false,false,false,false,false,false,false,false,false,false,false,false,false] ?_
    refine pur (i:=9) (N:=some 67) #[true,true,true,true,true,true,true,true,true,true,false,false,false,false,false,false,false,false,false,false,false,false] ?_
    refine pur (i:=10) (N:=some 68) #[true,true,true,true,true,true,true,true,true,true,true,false,false,false,false,false,false,false,false,false,false,false] ?_
    refine pur (i:=11) (N:=some 69) #[true,true,true,true,true,true,true,true,true,true,true,true,false,false,false,false,false,false,false,false,false,false] ?_
    refine pur (i:=15) (N:=some 73) #[true,true,true,true,true,true,true,true,true,true,true,true,false,false,false,true,false,false,false,false,false,false] ?_
    refine tak (i:=12) (N:=some 70) #[true,true,true,true,true,true,true,true,true,true,true,true,true,false,false,true,false,false,false,false,false,false] ?_
    refine pur (i:=13) (N:=some 71) #[true,true,true,true,true,true,true,true,true,true,true,true,true,true,false,true,false,false,false,false,false,false] ?_
    refine tak (i:=14) (N:=some 72) #[true,true,true,true,true,true,true,true,true,true,true,true,true,true,true,true,false,false,false,false,false,false] ?_
    refine tak (i:=16) (N:=some 74) #[true,true,true,true,true,true,true,true,true,true,true,true,true,true,true,true,true,false,false,false,false,false] ?_
    refine pur (i:=17) (N:=some 75) #[true,true,true,true,true,true,true,true,true,true,true,true,true,true,true,true,true,true,false,false,false,false] ?_
    refine tak (i:=18) (N:=some 76) #[true,true,true,true,true,true,true,true,true,true,true,true,true,true,true,true,true,true,true,false,false,false] ?_
    refine one_ (i:=19) (N:=some 77) #[true,true,true,true,true,true,true,true,true,true,true,true,true,true,true,true,true,true,true,true,false,false] rfl rfl (one_of HT_.out (by kernel_rfl)) (by decide) (fun K hK=>?_)
    refine goes1 Try.func65 #[.agg #[.int .i64 ((rd_T29 l0_2 0).f0),.int .i64 ((rd_T29 l0_2 0).f1),.slice A557_2 ((rd_T29 l0_2 0).f2).length c557_2],.agg #[.int .i64 ((rd_T29 l0_2 1).f0),.int .i64 ((rd_T29 l0_2 1).f1),.slice A558_2 ((rd_T29 l0_2 1).f2).length c558_2]] ?_
    with_reducible refine (spec_l17Meet.calls k ((rd_T29 l0_2 0).f0) ((rd_T29 l0_2 0).f1) _ _ ((rd_T29 l0_2 0).f2) ((rd_T29 l0_2 1).f0) ((rd_T29 l0_2 1).f1) _ _ ((rd_T29 l0_2 1).f2) true _ ?side1 ?side2 ?side3 ?side4 A53.out).mono ?_
    (case side1=>repeat (first | exact (Kd.C_below HR557_2.out HB.out) | (with_reducible refine Kd.C_alloc ?_ _) | (with_reducible refine Kd.C_drewN ?_ _) | (with_reducible refine Kd.C_drew ?_)))
    (case side2=>exact HC557_2.out)
    (case side3=>repeat (first | exact (Kd.C_below HR558_2.out HB.out) | (with_reducible refine Kd.C_alloc ?_ _) | (with_reducible refine Kd.C_drewN ?_ _) | (with_reducible refine Kd.C_drew ?_)))
    (case side4=>exact HC558_2.out)
    rintro e w75 ⟨rfl,hb⟩
    refine ⟨_,rfl,?_⟩
    replace HO546:=aQ (Kd.N_below (nN HO546.out) hb)
    replace HO554:=aQ (Kd.N_below (nN HO554.out) hb)
    replace BK519:=aQ (blk_below (nB BK519.out) hb)
    replace BK520:=aQ (blk_below (nB BK520.out) hb)
    replace BK548:=aQ (blk_below (nB BK548.out) hb)
    replace BK556:=aQ (blk_below (nB BK556.out) hb)
    replace HB:=aQ (below_step bB hb)
    (try clear hb)
    refine hK.out _ _ ⟨(blk_cell BK519.out 0).trans rfl,(blk_cell BK519.out 1).trans rfl,(blk_cell BK519.out 2).trans rfl,((HB.out.cell (World.block_lt_of_cell? w _ hw557_0)).trans hw557_0),((HB.out.cell (World.block_lt_of_cell? w _ hw557_1)).trans hw557_1),((HB.out.cell (World.block_lt_of_cell? w _ hw557_2)).trans hw557_2),((HB.out.cell (World.block_lt_of_cell? w _ hw558_0)).trans hw558_0),((HB.out.cell (World.block_lt_of_cell? w _ hw558_1)).trans hw558_1),((HB.out.cell (World.block_lt_of_cell? w _ hw558_2)).trans hw558_2)⟩ (fun hHeld=>?_)
    clear hK K
    refine nrm (N:=some 77) ?_
    refine pur (i:=20) (N:=some 78) #[true,true,true,true,true,true,true,true,true,true,true,true,true,true,true,true,true,true,true,true,true,false] ?_
    refine pur (i:=21) (N:=some 79) #[true,true,true,true,true,true,true,true,true,true,true,true,true,true,true,true,true,true,true,true,true,true] ?_
    refine done_ (done_of HT_.out (by kernel_rfl)) ?_
    obtain ⟨hcz76_0,hcz76_1,hcz76_2,hfz76_0,hfz76_1,hfz76_2⟩:=cz3 BK520.out
    try go_wp2
    refine bodyPost_ret (results_ct rfl _ _ gb520 29 #[.int .i64 0,.int .i64 0,.slice none 0 0] (0,0) _ rfl bP Try.underlying29 rfl (by kernel_rfl)) rfl ?_
    exact ⟨_,rfl,by first | exact Kd.R_nil _ _ _ _ _ | exact Kd.N_nil _ _ _ _ _ | exact Kd.V_nil _ _ _ _ _ | exact Kd.Q_nil _ _ _ _ _ | exact Kd.S_nil _ _ _ _ _,bB⟩
   ·replace c54:=Bool.eq_false_iff.mpr c54
    subst c54
    have H1:((spec_l17Two.f a0_0 t542 t543 t544 t550 t551 t552).bind fun bt560=>(some (bt560.1,bt560.2.1,bt560.2.2,true))) = some (r1,r2,r3,r4):=by rw [if_neg (show ¬ (false = true) by decide)] at H;exact H
    clear H
    have H:=H1
    clear H1
    obtain ⟨⟨t560,t561,t562⟩,A77,H⟩:=bQ H
    dsimp only at H
    simp only [Option.some.injEq,Prod.mk.injEq] at H
    obtain ⟨rfl,rfl,rfl,rfl⟩:=H
    go_enter Try.func50,Try.ntmps50
    try go_wp2_with (first | ((with_reducible refine gate_dst (N:=1) rfl ?_);refine box1 (N:=1) (cs:=#[.int .i64 a0_0,.int .i64 a0_1,.slice A0_2 l0_2.length c0_2]) (t:=29) ?_;intro gb519 hg w78 hbox hb;have BK519:=aQ (hbox);have GW519:=aQ (gB:w.heap.size ≤ gb519);have GE519:=GW519;replace HB:=aQ (below_step bB hb);clear hb hbox hg) | ((with_reducible refine gate_dst (N:=2) rfl ?_);refine box1 (N:=2) (cs:=#[.int .i64 0,.int .i64 0,.slice none 0 0]) (t:=29) ?_;intro gb520 hg w79 hbox hb;have BK520:=aQ (hbox);have GW520:=aQ (gB:w.heap.size ≤ gb520);have GE520:=GW520;replace HB:=aQ (below_step bB hb);have NB519_520:=aQ ((by rw [hg];exact Nat.ne_of_lt (blk_lt (nB BK519.out)):gb519 ≠ gb520));have NB520_519:=aQ NB519_520.out.symm;replace BK519:=aQ (blk_below (nB BK519.out) hb);clear hb hbox hg;have hnb80:=NB519_520.out;have hnc80:=NB520_519.out;obtain ⟨hcz81_0,hcz81_1,hcz81_2,hfz81_0,hfz81_1,hfz81_2⟩:=cz3 BK519.out;have p541:0 ≤ (0:Int):=(by omega);have q541:0 < (l0_2.length:Int):=of_decide_eq_true (by first | (with_reducible assumption) | assumption);obtain ⟨ad541,A541_2,c541_2,e541,hx541_0,hx541_1,hx541_2,hl541_2,hi541_2⟩:=at_T29 HR0_2.out 0 p541 q541;cases e541;have qi541:(0 < l0_2.length) = True:=eq_true (by omega);(try rw [show ((0:Int)).toNat = 0 from rfl,show 0 * 3 = 0 from rfl] at hx541_0 hx541_1 hx541_2);(try rw [Addr.add_zero'] at hx541_0);(try rw [Addr.add_zero'] at hx541_1);(try rw [Addr.add_zero'] at hx541_2);replace hx541_0:=(HB.out.cell (World.block_lt_of_cell? w _ hx541_0)).trans hx541_0;replace hx541_1:=(HB.out.cell (World.block_lt_of_cell? w _ hx541_1)).trans hx541_1;replace hx541_2:=(HB.out.cell (World.block_lt_of_cell? w _ hx541_2)).trans hx541_2;have HR541_2:=aQ hi541_2;have HC541_2:=aQ hl541_2;clear hi541_2 hl541_2;replace p541:=eq_true p541;replace q541:=eq_true q541) | ((with_reducible refine gate_callee (f:=50) rfl ?_);refine goesL_ (some 47) rfl rfl Try.func50 (by kernel_rfl) rfl #[.agg #[.int .i64 ((rd_T29 l0_2 0).f0),.int .i64 ((rd_T29 l0_2 0).f1),.slice A541_2 ((rd_T29 l0_2 0).f2).length c541_2]] rfl mP ?_;(with_reducible refine (ih k (by omega) ((rd_T29 l0_2 0).f0) ((rd_T29 l0_2 0).f1) _ _ ((rd_T29 l0_2 0).f2) t542 t543 t544 true _ ?side1 ?side2 A47.out).mono ?_);(case side1=>repeat (first | exact (Kd.C_below HR541_2.out HB.out) | (with_reducible refine Kd.C_alloc ?_ _) | (with_reducible refine Kd.C_drewN ?_ _) | (with_reducible refine Kd.C_drew ?_)));(case side2=>exact HC541_2.out);rintro e w82 ⟨v545,rfl,ho0,hb⟩;refine ⟨_,rfl,?_⟩;have HO546:=aQ (Kd.N_lower (Kd.N_mono (ok':=fun k_=>(w.heap.size ≤ k_)∧k_ ≠ gb519∧k_ ≠ gb520) ho0 (fun k_ hk_=>⟨(Nat.le_trans (below_size bB) hk_),(Kd.freshB (nB BK519.out) k_ hk_),(Kd.freshB (nB BK520.out) k_ hk_)⟩)) (below_size bB));replace BK519:=aQ (blk_below (nB BK519.out) hb);replace BK520:=aQ (blk_below (nB BK520.out) hb);replace HB:=aQ (below_step bB hb);(try clear hb);(try clear ho0)) | ((with_reducible refine gate_dst (N:=4) rfl ?_);refine box1 (N:=4) (cs:=#[.int .i64 0,.int .i64 0,.slice none 0 0]) (t:=29) ?_;intro gb548 hg w83 hbox hb;replace HO546:=aQ (Kd.N_below (Kd.N_elderB (nN HO546.out) gb548 (Nat.le_of_eq hg.symm)) hb);have BK548:=aQ (hbox);have GW548:=aQ (gB:w.heap.size ≤ gb548);have GE548:=GW548;replace HB:=aQ (below_step bB hb);have NB519_548:=aQ ((by rw [hg];exact Nat.ne_of_lt (blk_lt (nB BK519.out)):gb519 ≠ gb548));have NB548_519:=aQ NB519_548.out.symm;replace BK519:=aQ (blk_below (nB BK519.out) hb);have NB520_548:=aQ ((by rw [hg];exact Nat.ne_of_lt (blk_lt (nB BK520.out)):gb520 ≠ gb548));have NB548_520:=aQ NB520_548.out.symm;replace BK520:=aQ (blk_below (nB BK520.out) hb);clear hb hbox hg;have hnb84:=NB548_519.out;have hnc84:=NB519_548.out;have hnb85:=NB548_520.out;have hnc85:=NB520_548.out;obtain ⟨hcz86_0,hcz86_1,hcz86_2,hfz86_0,hfz86_1,hfz86_2⟩:=cz3 BK548.out;obtain ⟨Ao87,co87,eo87⟩:=Kd.N_slice HO546.out;subst eo87;obtain ⟨hcz88_0,hcz88_1,hcz88_2,hfz88_0,hfz88_1,hfz88_2⟩:=cz3 BK519.out;have p549:0 ≤ (1:Int):=(by omega);have q549:1 < (l0_2.length:Int):=of_decide_eq_true (by first | (with_reducible assumption) | assumption);obtain ⟨ad549,A549_2,c549_2,e549,hx549_0,hx549_1,hx549_2,hl549_2,hi549_2⟩:=at_T29 HR0_2.out 1 p549 q549;obtain rfl:ad541 = ad549:=(by injection e549);(try simp only [show (1:Int).toNat = 1 from rfl,Nat.reduceMul,Nat.reduceEqDiff,Go.Addr.add,↓reduceIte] at hx549_0);(try simp only [show (1:Int).toNat = 1 from rfl,Nat.reduceMul,Nat.reduceEqDiff,Go.Addr.add,↓reduceIte] at hx549_1);(try simp only [show (1:Int).toNat = 1 from rfl,Nat.reduceMul,Nat.reduceEqDiff,Go.Addr.add,↓reduceIte] at hx549_2);have qi549:(1 < l0_2.length) = True:=eq_true (by omega);(try rw [show ((1:Int)).toNat = 1 from rfl,show 1 * 3 = 3 from rfl] at hx549_0 hx549_1 hx549_2);have hn549_0:ad541.block ≠ gb548:=Nat.ne_of_lt (Nat.lt_of_lt_of_le (by have:=World.block_lt_of_cell? _ _ hx549_0;first | rwa [add_block] at this | exact this) GW548.out);have hn549_1:ad541.block ≠ gb548:=Nat.ne_of_lt (Nat.lt_of_lt_of_le (by have:=World.block_lt_of_cell? _ _ hx549_0;first | rwa [add_block] at this | exact this) GW548.out);have hn549_2:ad541.block ≠ gb548:=Nat.ne_of_lt (Nat.lt_of_lt_of_le (by have:=World.block_lt_of_cell? _ _ hx549_0;first | rwa [add_block] at this | exact this) GW548.out);replace hx549_0:=(HB.out.cell (World.block_lt_of_cell? w _ hx549_0)).trans hx549_0;replace hx549_1:=(HB.out.cell (World.block_lt_of_cell? w _ hx549_1)).trans hx549_1;replace hx549_2:=(HB.out.cell (World.block_lt_of_cell? w _ hx549_2)).trans hx549_2;have HR549_2:=aQ hi549_2;have HC549_2:=aQ hl549_2;clear hi549_2 hl549_2;replace hx549_0:=(cell_far (p:=⟨gb548,0,none⟩) (by first | (rw [add_block];exact hn549_0) | (show (Addr.add _ _).block ≠ _;rw [add_block];exact hn549_0) | exact hn549_0) (.int .i64 t542)).trans hx549_0;replace hx549_1:=(cell_far (p:=⟨gb548,0,none⟩) (by first | (rw [add_block];exact hn549_0) | (show (Addr.add _ _).block ≠ _;rw [add_block];exact hn549_0) | exact hn549_0) (.int .i64 t542)).trans hx549_1;replace hx549_2:=(cell_far (p:=⟨gb548,0,none⟩) (by first | (rw [add_block];exact hn549_0) | (show (Addr.add _ _).block ≠ _;rw [add_block];exact hn549_0) | exact hn549_0) (.int .i64 t542)).trans hx549_2;replace hx549_0:=(cell_far (p:=⟨gb548,1,none⟩) (by first | (rw [add_block];exact hn549_1) | (show (Addr.add _ _).block ≠ _;rw [add_block];exact hn549_1) | exact hn549_1) (.int .i64 t543)).trans hx549_0;replace hx549_1:=(cell_far (p:=⟨gb548,1,none⟩) (by first | (rw [add_block];exact hn549_1) | (show (Addr.add _ _).block ≠ _;rw [add_block];exact hn549_1) | exact hn549_1) (.int .i64 t543)).trans hx549_1;replace hx549_2:=(cell_far (p:=⟨gb548,1,none⟩) (by first | (rw [add_block];exact hn549_1) | (show (Addr.add _ _).block ≠ _;rw [add_block];exact hn549_1) | exact hn549_1) (.int .i64 t543)).trans hx549_2;replace hx549_0:=(cell_far (p:=⟨gb548,2,none⟩) (by first | (rw [add_block];exact hn549_2) | (show (Addr.add _ _).block ≠ _;rw [add_block];exact hn549_2) | exact hn549_2) (.slice Ao87 t544.length co87)).trans hx549_0;replace hx549_1:=(cell_far (p:=⟨gb548,2,none⟩) (by first | (rw [add_block];exact hn549_2) | (show (Addr.add _ _).block ≠ _;rw [add_block];exact hn549_2) | exact hn549_2) (.slice Ao87 t544.length co87)).trans hx549_1;replace hx549_2:=(cell_far (p:=⟨gb548,2,none⟩) (by first | (rw [add_block];exact hn549_2) | (show (Addr.add _ _).block ≠ _;rw [add_block];exact hn549_2) | exact hn549_2) (.slice Ao87 t544.length co87)).trans hx549_2;clear hn549_0;clear hn549_1;clear hn549_2;replace p549:=eq_true p549;replace q549:=eq_true q549) | ((with_reducible refine gate_callee (f:=50) rfl ?_);refine goesL_ (some 55) rfl rfl Try.func50 (by kernel_rfl) rfl #[.agg #[.int .i64 ((rd_T29 l0_2 1).f0),.int .i64 ((rd_T29 l0_2 1).f1),.slice A549_2 ((rd_T29 l0_2 1).f2).length c549_2]] rfl mP ?_;(with_reducible refine (ih k (by omega) ((rd_T29 l0_2 1).f0) ((rd_T29 l0_2 1).f1) _ _ ((rd_T29 l0_2 1).f2) t550 t551 t552 true _ ?side1 ?side2 A49.out).mono ?_);(case side1=>exact Kd.C_below HR549_2.out bB);(case side2=>exact HC549_2.out);rintro e w89 ⟨v553,rfl,ho0,hb⟩;refine ⟨_,rfl,?_⟩;have HO554:=aQ (Kd.N_lower (Kd.N_mono (ok':=fun k_=>(w.heap.size ≤ k_)∧some k_ ≠ (.slice Ao87 t544.length co87:Value).ownBlock∧k_ ≠ gb519∧k_ ≠ gb520∧k_ ≠ gb548) ho0 (fun k_ hk_=>⟨(Nat.le_trans (below_size bB) hk_),(Kd.fresh' (Kd.N_lt (nN ((Kd.N_mono (Kd.N_far (p:=⟨gb548,2,none⟩) (Kd.N_far (p:=⟨gb548,1,none⟩) (Kd.N_far (p:=⟨gb548,0,none⟩) (Kd.N_mono HO546.out (fun k_ hk=>(⟨hk,hk.2⟩:_∧k_ ≠ gb548))) (fun _ hk=>hk.2) (.int .i64 t542)) (fun _ hk=>hk.2) (.int .i64 t543)) (fun _ hk=>hk.2) (.slice Ao87 t544.length co87)) (fun _ h_=>h_.1))))) k_ hk_),(Kd.freshB (g:=gb519) (o:=.cells #[.int .i64 a0_0,.int .i64 a0_1,.slice (some ad541) l0_2.length c0_2] 29 (0,0)) bF k_ hk_),(Kd.freshB (g:=gb520) (o:=.cells #[.int .i64 0,.int .i64 0,.slice none 0 0] 29 (0,0)) bF k_ hk_),(Kd.freshB (g:=gb548) (o:=.cells #[.int .i64 t542,.int .i64 t543,.slice Ao87 t544.length co87] 29 (0,0)) bP k_ hk_)⟩)) (below_size bB));replace HO546:=aQ (Kd.N_elder' (nN ((Kd.N_mono (Kd.N_far (p:=⟨gb548,2,none⟩) (Kd.N_far (p:=⟨gb548,1,none⟩) (Kd.N_far (p:=⟨gb548,0,none⟩) (Kd.N_mono HO546.out (fun k_ hk=>(⟨hk,hk.2⟩:_∧k_ ≠ gb548))) (fun _ hk=>hk.2) (.int .i64 t542)) (fun _ hk=>hk.2) (.int .i64 t543)) (fun _ hk=>hk.2) (.slice Ao87 t544.length co87)) (fun _ h_=>h_.1)))) (Kd.N_base ho0) hb);replace BK519:=aQ (blk_below (g:=gb519) (o:=.cells #[.int .i64 a0_0,.int .i64 a0_1,.slice (some ad541) l0_2.length c0_2] 29 (0,0)) bF hb);replace BK520:=aQ (blk_below (g:=gb520) (o:=.cells #[.int .i64 0,.int .i64 0,.slice none 0 0] 29 (0,0)) bF hb);replace BK548:=aQ (blk_below (g:=gb548) (o:=.cells #[.int .i64 t542,.int .i64 t543,.slice Ao87 t544.length co87] 29 (0,0)) bP hb);replace HB:=aQ (below_step bB hb);(try clear hb);(try clear ho0)) | ((with_reducible refine gate_dst (N:=6) rfl ?_);refine box1 (N:=6) (cs:=#[.int .i64 0,.int .i64 0,.slice none 0 0]) (t:=29) ?_;intro gb556 hg w90 hbox hb;replace HO546:=aQ (Kd.N_below (Kd.N_elderB (nN HO546.out) gb556 (Nat.le_of_eq hg.symm)) hb);replace HO554:=aQ (Kd.N_below (Kd.N_elderB (nN HO554.out) gb556 (Nat.le_of_eq hg.symm)) hb);have BK556:=aQ (hbox);have GW556:=aQ (gB:w.heap.size ≤ gb556);have GE556:=GW556;replace HB:=aQ (below_step bB hb);have NB519_556:=aQ ((by rw [hg];exact Nat.ne_of_lt (blk_lt (nB BK519.out)):gb519 ≠ gb556));have NB556_519:=aQ NB519_556.out.symm;replace BK519:=aQ (blk_below (nB BK519.out) hb);have NB520_556:=aQ ((by rw [hg];exact Nat.ne_of_lt (blk_lt (nB BK520.out)):gb520 ≠ gb556));have NB556_520:=aQ NB520_556.out.symm;replace BK520:=aQ (blk_below (nB BK520.out) hb);have NB548_556:=aQ ((by rw [hg];exact Nat.ne_of_lt (blk_lt (nB BK548.out)):gb548 ≠ gb556));have NB556_548:=aQ NB548_556.out.symm;replace BK548:=aQ (blk_below (nB BK548.out) hb);clear hb hbox hg;have hnb91:=NB556_519.out;have hnc91:=NB519_556.out;have hnb92:=NB556_520.out;have hnc92:=NB520_556.out;have hnb93:=NB556_548.out;have hnc93:=NB548_556.out;obtain ⟨hcz94_0,hcz94_1,hcz94_2,hfz94_0,hfz94_1,hfz94_2⟩:=cz3 BK556.out;obtain ⟨Ao95,co95,eo95⟩:=Kd.N_slice HO554.out;subst eo95))
    have n0_:Aside0 (Kd.N k29 29 (((w90.setCell ⟨gb556,0,none⟩ (.int .i64 t550)).setCell ⟨gb556,1,none⟩ (.int .i64 t551)).setCell ⟨gb556,2,none⟩ (.slice Ao95 t552.length co95)) w.heap.size (fun k_=>(w.heap.size ≤ k_)∧some k_ ≠ (.slice Ao95 t552.length co95:Value).ownBlock∧k_ ≠ gb519∧k_ ≠ gb520∧k_ ≠ gb548∧k_ ≠ gb556) (.slice Ao87 t544.length co87) t544):=⟨Kd.N_mono (nFN (g:=gb556) HO546.out (fun k_ hk=>hk.2)) (fun _ hk=>⟨hk.1.1.1.1,⟨hk.1.2,⟨hk.1.1.1.2.1,⟨hk.1.1.1.2.2,⟨hk.1.1.2,hk.2⟩⟩⟩⟩⟩)⟩
    have n1_:Aside0 (Kd.N k29 29 (((w90.setCell ⟨gb556,0,none⟩ (.int .i64 t550)).setCell ⟨gb556,1,none⟩ (.int .i64 t551)).setCell ⟨gb556,2,none⟩ (.slice Ao95 t552.length co95)) w.heap.size (fun k_=>(w.heap.size ≤ k_)∧some k_ ≠ (.slice Ao87 t544.length co87:Value).ownBlock∧k_ ≠ gb519∧k_ ≠ gb520∧k_ ≠ gb548∧k_ ≠ gb556) (.slice Ao95 t552.length co95) t552):=⟨Kd.N_mono (nFN (g:=gb556) HO554.out (fun k_ hk=>hk.2)) (fun _ hk=>⟨hk.1.1,⟨hk.1.2.1,⟨hk.1.2.2.1,⟨hk.1.2.2.2.1,⟨hk.1.2.2.2.2,hk.2⟩⟩⟩⟩⟩)⟩
    have n2_:Aside0 ((((w90.setCell ⟨gb556,0,none⟩ (.int .i64 t550)).setCell ⟨gb556,1,none⟩ (.int .i64 t551)).setCell ⟨gb556,2,none⟩ (.slice Ao95 t552.length co95)).heap[gb519]? = some (.cells #[.int .i64 a0_0,.int .i64 a0_1,.slice (some ad541) l0_2.length c0_2] 29 (0,0))):=⟨bF⟩
    have n3_:Aside0 ((((w90.setCell ⟨gb556,0,none⟩ (.int .i64 t550)).setCell ⟨gb556,1,none⟩ (.int .i64 t551)).setCell ⟨gb556,2,none⟩ (.slice Ao95 t552.length co95)).heap[gb520]? = some (.cells #[.int .i64 0,.int .i64 0,.slice none 0 0] 29 (0,0))):=⟨bF⟩
    have n4_:Aside0 ((((w90.setCell ⟨gb556,0,none⟩ (.int .i64 t550)).setCell ⟨gb556,1,none⟩ (.int .i64 t551)).setCell ⟨gb556,2,none⟩ (.slice Ao95 t552.length co95)).heap[gb548]? = some (.cells #[.int .i64 t542,.int .i64 t543,.slice Ao87 t544.length co87] 29 (0,0))):=⟨bF⟩
    have n5_:Aside0 ((((w90.setCell ⟨gb556,0,none⟩ (.int .i64 t550)).setCell ⟨gb556,1,none⟩ (.int .i64 t551)).setCell ⟨gb556,2,none⟩ (.slice Ao95 t552.length co95)).heap[gb556]? = some (.cells #[.int .i64 t550,.int .i64 t551,.slice Ao95 t552.length co95] 29 (0,0))):=⟨bP⟩
    have n6_:Aside0 (Below w.heap.size w (((w90.setCell ⟨gb556,0,none⟩ (.int .i64 t550)).setCell ⟨gb556,1,none⟩ (.int .i64 t551)).setCell ⟨gb556,2,none⟩ (.slice Ao95 t552.length co95))):=⟨bB⟩
    (try clear HO546)
    (try clear HO554)
    (try clear BK519)
    (try clear BK520)
    (try clear BK548)
    (try clear BK556)
    (try clear HB)
    generalize (((w90.setCell ⟨gb556,0,none⟩ (.int .i64 t550)).setCell ⟨gb556,1,none⟩ (.int .i64 t551)).setCell ⟨gb556,2,none⟩ (.slice Ao95 t552.length co95)) = w96 at n0_ n1_ n2_ n3_ n4_ n5_ n6_ ⊢
    have HO546:=n0_
    have HO554:=n1_
    have BK519:=n2_
    have BK520:=n3_
    have BK548:=n4_
    have BK556:=n5_
    have HB:=n6_
    clear n0_ n1_ n2_ n3_ n4_ n5_ n6_
    replace HO546:=aQ (Kd.N_drew HO546.out)
    replace HO554:=aQ (Kd.N_drew HO554.out)
    replace BK519:=aQ (blk_drew BK519.out)
    replace BK520:=aQ (blk_drew BK520.out)
    replace BK548:=aQ (blk_drew BK548.out)
    replace BK556:=aQ (blk_drew BK556.out)
    replace HB:=aQ (below_drew1 HB.out)
    have p557:0 ≤ (0:Int):=(by omega)
    have q557:0 < (l0_2.length:Int):=of_decide_eq_true (by first | (with_reducible assumption) | assumption)
    obtain ⟨ad557,A557_2,c557_2,e557,hx557_0,hx557_1,hx557_2,hl557_2,hi557_2⟩:=at_T29 HR0_2.out 0 p557 q557
    have hw557_2:=hx557_2
    (try rw [show ((0:Int)).toNat = 0 from rfl] at hw557_2)
    (try rw [show 0 * 3 = 0 from rfl] at hw557_2)
    (try rw [Addr.add_zero'] at hw557_2)
    have hw557_1:=hx557_1
    (try rw [show ((0:Int)).toNat = 0 from rfl] at hw557_1)
    (try rw [show 0 * 3 = 0 from rfl] at hw557_1)
    (try rw [Addr.add_zero'] at hw557_1)
    have hw557_0:=hx557_0
    (try rw [show ((0:Int)).toNat = 0 from rfl] at hw557_0)
    (try rw [show 0 * 3 = 0 from rfl] at hw557_0)
    (try rw [Addr.add_zero'] at hw557_0)
    obtain rfl:ad541 = ad557:=(by injection e557)
    have qi557:(0 < l0_2.length) = True:=eq_true (by omega)
    (try rw [show ((0:Int)).toNat = 0 from rfl,show 0 * 3 = 0 from rfl] at hx557_0 hx557_1 hx557_2)
    (try rw [Addr.add_zero'] at hx557_0)
    (try rw [Addr.add_zero'] at hx557_1)
    (try rw [Addr.add_zero'] at hx557_2)
    replace hx557_0:=(HB.out.cell (World.block_lt_of_cell? w _ hx557_0)).trans hx557_0
    replace hx557_1:=(HB.out.cell (World.block_lt_of_cell? w _ hx557_1)).trans hx557_1
    replace hx557_2:=(HB.out.cell (World.block_lt_of_cell? w _ hx557_2)).trans hx557_2
    have HR557_2:=aQ hi557_2
    have HC557_2:=aQ hl557_2
    clear hi557_2 hl557_2
    replace p557:=eq_true p557
    replace q557:=eq_true q557
    have p558:0 ≤ (1:Int):=(by omega)
    have q558:1 < (l0_2.length:Int):=of_decide_eq_true (by first | (with_reducible assumption) | assumption)
    obtain ⟨ad558,A558_2,c558_2,e558,hx558_0,hx558_1,hx558_2,hl558_2,hi558_2⟩:=at_T29 HR0_2.out 1 p558 q558
    have hw558_2:=hx558_2
    (try rw [show ((1:Int)).toNat = 1 from rfl] at hw558_2)
    (try rw [show 1 * 3 = 3 from rfl] at hw558_2)
    (try simp only [Nat.reduceMul,Nat.reduceEqDiff,Go.Addr.add,↓reduceIte] at hw558_2)
    have hw558_1:=hx558_1
    (try rw [show ((1:Int)).toNat = 1 from rfl] at hw558_1)
    (try rw [show 1 * 3 = 3 from rfl] at hw558_1)
    (try simp only [Nat.reduceMul,Nat.reduceEqDiff,Go.Addr.add,↓reduceIte] at hw558_1)
    have hw558_0:=hx558_0
    (try rw [show ((1:Int)).toNat = 1 from rfl] at hw558_0)
    (try rw [show 1 * 3 = 3 from rfl] at hw558_0)
    (try simp only [Nat.reduceMul,Nat.reduceEqDiff,Go.Addr.add,↓reduceIte] at hw558_0)
    obtain rfl:ad541 = ad558:=(by injection e558)
    (try simp only [show (1:Int).toNat = 1 from rfl,Nat.reduceMul,Nat.reduceEqDiff,Go.Addr.add,↓reduceIte] at hx558_0)
    (try simp only [show (1:Int).toNat = 1 from rfl,Nat.reduceMul,Nat.reduceEqDiff,Go.Addr.add,↓reduceIte] at hx558_1)
    (try simp only [show (1:Int).toNat = 1 from rfl,Nat.reduceMul,Nat.reduceEqDiff,Go.Addr.add,↓reduceIte] at hx558_2)
    have qi558:(1 < l0_2.length) = True:=eq_true (by omega)
    (try rw [show ((1:Int)).toNat = 1 from rfl,show 1 * 3 = 3 from rfl] at hx558_0 hx558_1 hx558_2)
    replace hx558_0:=(HB.out.cell (World.block_lt_of_cell? w _ hx558_0)).trans hx558_0
    replace hx558_1:=(HB.out.cell (World.block_lt_of_cell? w _ hx558_1)).trans hx558_1
    replace hx558_2:=(HB.out.cell (World.block_lt_of_cell? w _ hx558_2)).trans hx558_2
    have HR558_2:=aQ hi558_2
    have HC558_2:=aQ hl558_2
    clear hi558_2 hl558_2
    replace p558:=eq_true p558
    replace q558:=eq_true q558
    refine start_ (n:=22) (S:=fun w'=>w'.cell? ⟨gb519,0,none⟩ = some (.int .i64 a0_0)∧w'.cell? ⟨gb519,1,none⟩ = some (.int .i64 a0_1)∧w'.cell? ⟨gb519,2,none⟩ = some (.slice (some ad541) l0_2.length c0_2)∧w'.cell? ad541 = some (.int .i64 ((rd_T29 l0_2 0).f0))∧w'.cell? ⟨ad541.block,ad541.off + 1,none⟩ = some (.int .i64 ((rd_T29 l0_2 0).f1))∧w'.cell? ⟨ad541.block,ad541.off + 2,none⟩ = some (.slice A557_2 ((rd_T29 l0_2 0).f2).length c557_2)∧w'.cell? ⟨ad541.block,ad541.off + 3,none⟩ = some (.int .i64 ((rd_T29 l0_2 1).f0))∧w'.cell? ⟨ad541.block,ad541.off + 3 + 1,none⟩ = some (.int .i64 ((rd_T29 l0_2 1).f1))∧w'.cell? ⟨ad541.block,ad541.off + 3 + 2,none⟩ = some (.slice A558_2 ((rd_T29 l0_2 1).f2).length c558_2)) (ds:=[]) #[false,false,false,false,false,false,false,false,false,false,false,false,false,false,false,false,false,false,false,false,false,false] (by kernel_rfl) rfl rfl ⟨(blk_cell BK519.out 0).trans rfl,(blk_cell BK519.out 1).trans rfl,(blk_cell BK519.out 2).trans rfl,((HB.out.cell (World.block_lt_of_cell? w _ hw557_0)).trans hw557_0),((HB.out.cell (World.block_lt_of_cell? w _ hw557_1)).trans hw557_1),((HB.out.cell (World.block_lt_of_cell? w _ hw557_2)).trans hw557_2),((HB.out.cell (World.block_lt_of_cell? w _ hw558_0)).trans hw558_0),((HB.out.cell (World.block_lt_of_cell? w _ hw558_1)).trans hw558_1),((HB.out.cell (World.block_lt_of_cell? w _ hw558_2)).trans hw558_2)⟩ (fun hHeld=>?_);refine with_tabW spec_l17Pass.tab12 spec_l17Pass.bits12 (fun HT_ HW_=>?_)
    generalize w96.drew = w97 at HO546 HO554 BK519 BK520 BK548 BK556 HB HR557_2 HR558_2 hx557_0 hx557_1 hx557_2 hx558_0 hx558_1 hx558_2 hHeld ⊢
    refine pur (i:=0) (N:=some 58) #[true,false,false,false,false,false,false,false,false,false,false,false,false,false,false,false,false,false,false,false,false,false] ?_
    refine pur (i:=1) (N:=some 59) #[true,true,false,false,false,false,false,false,false,false,false,false,false,false,false,false,false,false,false,false,false,false] ?_
    refine pur (i:=2) (N:=some 60) #[true,true,true,false,false,false,false,false,false,false,false,false,false,false,false,false,false,false,false,false,false,false] ?_
    refine pur (i:=3) (N:=some 61) #[true,true,true,true,false,false,false,false,false,false,false,false,false,false,false,false,false,false,false,false,false,false] ?_
    refine pur (i:=4) (N:=some 62) #[true,true,true,true,true,false,false,false,false,false,false,false,false,false,false,false,false,false,false,false,false,false] ?_
    refine pur (i:=5) (N:=some 63) #[true,true,true,true,true,true,false,false,false,false,false,false,false,false,false,false,false,false,false,false,false,false] ?_
    refine pur (i:=6) (N:=some 64) #[true,true,true,true,true,true,true,false,false,false,false,false,false,false,false,false,false,false,false,false,false,false] ?_
    refine pur (i:=7) (N:=some 65) #[true,true,true,true,true,true,true,true,false,false,false,false,false,false,false,false,false,false,false,false,false,false] ?_
    refine tak (i:=8) (N:=some 66) #[true,true,true,true,true,true,true,true,true,false,false,false,false,false,false,false,false,false,false,false,false,false] ?_
    refine pur (i:=9) (N:=some 67) #[true,true,true,true,true,true,true,true,true,true,false,false,false,false,false,false,false,false,false,false,false,false] ?_
    refine pur (i:=10) (N:=some 68) #[true,true,true,true,true,true,true,true,true,true,true,false,false,false,false,false,false,false,false,false,false,false] ?_
    refine pur (i:=11) (N:=some 69) #[true,true,true,true,true,true,true,true,true,true,true,true,false,false,false,false,false,false,false,false,false,false] ?_
    refine pur (i:=15) (N:=some 73) #[true,true,true,true,true,true,true,true,true,true,true,true,false,false,false,true,false,false,false,false,false,false] ?_
    refine tak (i:=12) (N:=some 70) #[true,true,true,true,true,true,true,true,true,true,true,true,true,false,false,true,false,false,false,false,false,false] ?_
    refine pur (i:=13) (N:=some 71) #[true,true,true,true,true,true,true,true,true,true,true,true,true,true,false,true,false,false,false,false,false,false] ?_
    refine tak (i:=14) (N:=some 72) #[true,true,true,true,true,true,true,true,true,true,true,true,true,true,true,true,false,false,false,false,false,false] ?_
    refine tak (i:=16) (N:=some 74) #[true,true,true,true,true,true,true,true,true,true,true,true,true,true,true,true,true,false,false,false,false,false] ?_
    refine pur (i:=17) (N:=some 75) #[true,true,true,true,true,true,true,true,true,true,true,true,true,true,true,true,true,true,false,false,false,false] ?_
    refine tak (i:=18) (N:=some 76) #[true,true,true,true,true,true,true,true,true,true,true,true,true,true,true,true,true,true,true,false,false,false] ?_
    refine one_ (i:=19) (N:=some 77) #[true,true,true,true,true,true,true,true,true,true,true,true,true,true,true,true,true,true,true,true,false,false] rfl rfl (one_of HT_.out (by kernel_rfl)) (by decide) (fun K hK=>?_)
    refine goes1 Try.func65 #[.agg #[.int .i64 ((rd_T29 l0_2 0).f0),.int .i64 ((rd_T29 l0_2 0).f1),.slice A557_2 ((rd_T29 l0_2 0).f2).length c557_2],.agg #[.int .i64 ((rd_T29 l0_2 1).f0),.int .i64 ((rd_T29 l0_2 1).f1),.slice A558_2 ((rd_T29 l0_2 1).f2).length c558_2]] ?_
    with_reducible refine (spec_l17Meet.calls k ((rd_T29 l0_2 0).f0) ((rd_T29 l0_2 0).f1) _ _ ((rd_T29 l0_2 0).f2) ((rd_T29 l0_2 1).f0) ((rd_T29 l0_2 1).f1) _ _ ((rd_T29 l0_2 1).f2) false _ ?side1 ?side2 ?side3 ?side4 A53.out).mono ?_
    (case side1=>repeat (first | exact (Kd.C_below HR557_2.out HB.out) | (with_reducible refine Kd.C_alloc ?_ _) | (with_reducible refine Kd.C_drewN ?_ _) | (with_reducible refine Kd.C_drew ?_)))
    (case side2=>exact HC557_2.out)
    (case side3=>repeat (first | exact (Kd.C_below HR558_2.out HB.out) | (with_reducible refine Kd.C_alloc ?_ _) | (with_reducible refine Kd.C_drewN ?_ _) | (with_reducible refine Kd.C_drew ?_)))
    (case side4=>exact HC558_2.out)
    rintro e w98 ⟨rfl,hb⟩
    refine ⟨_,rfl,?_⟩
    replace HO546:=aQ (Kd.N_below (nN HO546.out) hb)
    replace HO554:=aQ (Kd.N_below (nN HO554.out) hb)
    replace BK519:=aQ (blk_below (nB BK519.out) hb)
    replace BK520:=aQ (blk_below (nB BK520.out) hb)
    replace BK548:=aQ (blk_below (nB BK548.out) hb)
    replace BK556:=aQ (blk_below (nB BK556.out) hb)
    replace HB:=aQ (below_step bB hb)
    (try clear hb)
    refine hK.out _ _ ⟨(blk_cell BK519.out 0).trans rfl,(blk_cell BK519.out 1).trans rfl,(blk_cell BK519.out 2).trans rfl,((HB.out.cell (World.block_lt_of_cell? w _ hw557_0)).trans hw557_0),((HB.out.cell (World.block_lt_of_cell? w _ hw557_1)).trans hw557_1),((HB.out.cell (World.block_lt_of_cell? w _ hw557_2)).trans hw557_2),((HB.out.cell (World.block_lt_of_cell? w _ hw558_0)).trans hw558_0),((HB.out.cell (World.block_lt_of_cell? w _ hw558_1)).trans hw558_1),((HB.out.cell (World.block_lt_of_cell? w _ hw558_2)).trans hw558_2)⟩ (fun hHeld=>?_)
    clear hK K
    refine nrm (N:=some 77) ?_
    refine pur (i:=20) (N:=some 78) #[true,true,true,true,true,true,true,true,true,true,true,true,true,true,true,true,true,true,true,true,true,false] ?_
    refine pur (i:=21) (N:=some 79) #[true,true,true,true,true,true,true,true,true,true,true,true,true,true,true,true,true,true,true,true,true,true] ?_
    refine done_ (done_of HT_.out (by kernel_rfl)) ?_
    obtain ⟨hcz99_0,hcz99_1,hcz99_2,hfz99_0,hfz99_1,hfz99_2⟩:=cz3 BK519.out
    obtain ⟨hcz100_0,hcz100_1,hcz100_2,hfz100_0,hfz100_1,hfz100_2⟩:=cz3 BK548.out
    obtain ⟨hcz101_0,hcz101_1,hcz101_2,hfz101_0,hfz101_1,hfz101_2⟩:=cz3 BK556.out
    try go_wp2_with (first | ((with_reducible refine gate_callee (f:=66) rfl ?_);refine goesL_ (some 85) rfl rfl Try.func66 (by kernel_rfl) rfl #[.int .i64 a0_0,.agg #[.int .i64 t542,.int .i64 t543,.slice Ao87 t544.length co87],.agg #[.int .i64 t550,.int .i64 t551,.slice Ao95 t552.length co95]] rfl mP ?_;(with_reducible refine (spec_l17Two.calls a0_0 t542 t543 (fun k_=>((w.heap.size ≤ k_)∧(some k_ ≠ (.slice Ao95 t552.length co95:Value).ownBlock∧(k_ ≠ gb519∧(k_ ≠ gb520∧(k_ ≠ gb548∧k_ ≠ gb556)))))) _ _ t544 t550 t551 (fun k_=>((w.heap.size ≤ k_)∧(some k_ ≠ (.slice Ao87 t544.length co87:Value).ownBlock∧(k_ ≠ gb519∧(k_ ≠ gb520∧(k_ ≠ gb548∧k_ ≠ gb556)))))) _ _ t552 t560 t561 t562 _ ?side1 ?side2 A77.out).mono ?_);(case side1=>exact Kd.N_V (HO546.out));(case side2=>exact Kd.N_V (HO554.out));rintro e w102 ⟨v563,rfl,ho0,hb⟩;refine ⟨_,rfl,?_⟩;replace HO546:=aQ (Kd.N_elder' (nN HO546.out) (Kd.N_base ho0) hb);replace HO554:=aQ (Kd.N_elder' (nN HO554.out) (Kd.N_base ho0) hb);have HO564:=aQ (Kd.N_lower (Kd.N_mono (ok':=fun k_=>(w.heap.size ≤ k_)∧k_ ≠ gb519∧k_ ≠ gb520∧k_ ≠ gb548∧k_ ≠ gb556) ho0 (fun k_ hk_=>⟨Or.elim hk_ (fun hs_=>Or.elim hs_ (fun hs_=>hs_.1) (fun hs_=>hs_.1)) (fun hn_=>(Nat.le_trans (below_size bB) hn_)),Or.elim hk_ (fun hs_=>Or.elim hs_ (fun hs_=>hs_.2.2.1) (fun hs_=>hs_.2.2.1)) (fun hn_=>(Kd.freshB (nB BK519.out) k_ hn_)),Or.elim hk_ (fun hs_=>Or.elim hs_ (fun hs_=>hs_.2.2.2.1) (fun hs_=>hs_.2.2.2.1)) (fun hn_=>(Kd.freshB (nB BK520.out) k_ hn_)),Or.elim hk_ (fun hs_=>Or.elim hs_ (fun hs_=>hs_.2.2.2.2.1) (fun hs_=>hs_.2.2.2.2.1)) (fun hn_=>(Kd.freshB (nB BK548.out) k_ hn_)),Or.elim hk_ (fun hs_=>Or.elim hs_ (fun hs_=>hs_.2.2.2.2.2) (fun hs_=>hs_.2.2.2.2.2)) (fun hn_=>(Kd.freshB (nB BK556.out) k_ hn_))⟩)) (below_size bB));replace BK519:=aQ (blk_below (nB BK519.out) hb);replace BK520:=aQ (blk_below (nB BK520.out) hb);replace BK548:=aQ (blk_below (nB BK548.out) hb);replace BK556:=aQ (blk_below (nB BK556.out) hb);replace HB:=aQ (below_step bB hb);(try clear hb);(try clear ho0);obtain ⟨hcz103_0,hcz103_1,hcz103_2,hfz103_0,hfz103_1,hfz103_2⟩:=cz3 BK520.out;obtain ⟨Ao104,co104,eo104⟩:=Kd.N_slice HO564.out;subst eo104))
    refine bodyPost_ret (results_ct rfl _ _ gb520 29 #[.int .i64 t560,.int .i64 t561,.slice Ao104 t562.length co104] (0,0) _ rfl bP Try.underlying29 rfl (by kernel_rfl)) rfl ?_
    exact ⟨_,rfl,by (with_reducible repeat (first | apply Kd.N_alloc | apply Kd.N_drewN | apply Kd.N_drew));exact Kd.N_mono (nFN (g:=gb520) HO564.out (fun k_ hk=>hk.2.2.1)) (fun _ hk=>hk.1),bB⟩
  ·replace c51:=Bool.eq_false_iff.mpr c51
   subst c51
   have H1:(some (0,0,([]:List (S29)),false)) = some (r1,r2,r3,r4):=by rw [if_neg (show ¬ (false = true) by decide)] at H;exact H
   clear H
   have H:=H1
   clear H1
   simp only [Option.some.injEq,Prod.mk.injEq] at H
   obtain ⟨rfl,rfl,rfl,rfl⟩:=H
   go_enter Try.func50,Try.ntmps50
   try go_wp2_with (first | ((with_reducible refine gate_dst (N:=1) rfl ?_);refine box1 (N:=1) (cs:=#[.int .i64 a0_0,.int .i64 a0_1,.slice A0_2 l0_2.length c0_2]) (t:=29) ?_;intro gb519 hg w132 hbox hb;have BK519:=aQ (hbox);have GW519:=aQ (gB:w.heap.size ≤ gb519);have GE519:=GW519;replace HB:=aQ (below_step bB hb);clear hb hbox hg) | ((with_reducible refine gate_dst (N:=2) rfl ?_);refine box1 (N:=2) (cs:=#[.int .i64 0,.int .i64 0,.slice none 0 0]) (t:=29) ?_;intro gb520 hg w133 hbox hb;have BK520:=aQ (hbox);have GW520:=aQ (gB:w.heap.size ≤ gb520);have GE520:=GW520;replace HB:=aQ (below_step bB hb);have NB519_520:=aQ ((by rw [hg];exact Nat.ne_of_lt (blk_lt (nB BK519.out)):gb519 ≠ gb520));have NB520_519:=aQ NB519_520.out.symm;replace BK519:=aQ (blk_below (nB BK519.out) hb);clear hb hbox hg;have hnb134:=NB519_520.out;have hnc134:=NB520_519.out;obtain ⟨hcz135_0,hcz135_1,hcz135_2,hfz135_0,hfz135_1,hfz135_2⟩:=cz3 BK519.out;have p541:0 ≤ (0:Int):=(by omega);have q541:0 < (l0_2.length:Int):=of_decide_eq_true (by first | (with_reducible assumption) | assumption);obtain ⟨ad541,A541_2,c541_2,e541,hx541_0,hx541_1,hx541_2,hl541_2,hi541_2⟩:=at_T29 HR0_2.out 0 p541 q541;cases e541;have qi541:(0 < l0_2.length) = True:=eq_true (by omega);(try rw [show ((0:Int)).toNat = 0 from rfl,show 0 * 3 = 0 from rfl] at hx541_0 hx541_1 hx541_2);(try rw [Addr.add_zero'] at hx541_0);(try rw [Addr.add_zero'] at hx541_1);(try rw [Addr.add_zero'] at hx541_2);replace hx541_0:=(HB.out.cell (World.block_lt_of_cell? w _ hx541_0)).trans hx541_0;replace hx541_1:=(HB.out.cell (World.block_lt_of_cell? w _ hx541_1)).trans hx541_1;replace hx541_2:=(HB.out.cell (World.block_lt_of_cell? w _ hx541_2)).trans hx541_2;have HR541_2:=aQ hi541_2;have HC541_2:=aQ hl541_2;clear hi541_2 hl541_2;replace p541:=eq_true p541;replace q541:=eq_true q541) | ((with_reducible refine gate_callee (f:=50) rfl ?_);refine goesL_ (some 47) rfl rfl Try.func50 (by kernel_rfl) rfl #[.agg #[.int .i64 ((rd_T29 l0_2 0).f0),.int .i64 ((rd_T29 l0_2 0).f1),.slice A541_2 ((rd_T29 l0_2 0).f2).length c541_2]] rfl mP ?_;(with_reducible refine (ih k (by omega) ((rd_T29 l0_2 0).f0) ((rd_T29 l0_2 0).f1) _ _ ((rd_T29 l0_2 0).f2) t542 t543 t544 true _ ?side1 ?side2 A47.out).mono ?_);(case side1=>repeat (first | exact (Kd.C_below HR541_2.out HB.out) | (with_reducible refine Kd.C_alloc ?_ _) | (with_reducible refine Kd.C_drewN ?_ _) | (with_reducible refine Kd.C_drew ?_)));(case side2=>exact HC541_2.out);rintro e w136 ⟨v545,rfl,ho0,hb⟩;refine ⟨_,rfl,?_⟩;have HO546:=aQ (Kd.N_lower (Kd.N_mono (ok':=fun k_=>(w.heap.size ≤ k_)∧k_ ≠ gb519∧k_ ≠ gb520) ho0 (fun k_ hk_=>⟨(Nat.le_trans (below_size bB) hk_),(Kd.freshB (nB BK519.out) k_ hk_),(Kd.freshB (nB BK520.out) k_ hk_)⟩)) (below_size bB));replace BK519:=aQ (blk_below (nB BK519.out) hb);replace BK520:=aQ (blk_below (nB BK520.out) hb);replace HB:=aQ (below_step bB hb);(try clear hb);(try clear ho0)) | ((with_reducible refine gate_dst (N:=4) rfl ?_);refine box1 (N:=4) (cs:=#[.int .i64 0,.int .i64 0,.slice none 0 0]) (t:=29) ?_;intro gb548 hg w137 hbox hb;replace HO546:=aQ (Kd.N_below (Kd.N_elderB (nN HO546.out) gb548 (Nat.le_of_eq hg.symm)) hb);have BK548:=aQ (hbox);have GW548:=aQ (gB:w.heap.size ≤ gb548);have GE548:=GW548;replace HB:=aQ (below_step bB hb);have NB519_548:=aQ ((by rw [hg];exact Nat.ne_of_lt (blk_lt (nB BK519.out)):gb519 ≠ gb548));have NB548_519:=aQ NB519_548.out.symm;replace BK519:=aQ (blk_below (nB BK519.out) hb);have NB520_548:=aQ ((by rw [hg];exact Nat.ne_of_lt (blk_lt (nB BK520.out)):gb520 ≠ gb548));have NB548_520:=aQ NB520_548.out.symm;replace BK520:=aQ (blk_below (nB BK520.out) hb);clear hb hbox hg;have hnb138:=NB548_519.out;have hnc138:=NB519_548.out;have hnb139:=NB548_520.out;have hnc139:=NB520_548.out;obtain ⟨hcz140_0,hcz140_1,hcz140_2,hfz140_0,hfz140_1,hfz140_2⟩:=cz3 BK548.out;obtain ⟨Ao141,co141,eo141⟩:=Kd.N_slice HO546.out;subst eo141;obtain ⟨hcz142_0,hcz142_1,hcz142_2,hfz142_0,hfz142_1,hfz142_2⟩:=cz3 BK519.out;have p549:0 ≤ (1:Int):=(by omega);have q549:1 < (l0_2.length:Int):=of_decide_eq_true (by first | (with_reducible assumption) | assumption);obtain ⟨ad549,A549_2,c549_2,e549,hx549_0,hx549_1,hx549_2,hl549_2,hi549_2⟩:=at_T29 HR0_2.out 1 p549 q549;obtain rfl:ad541 = ad549:=(by injection e549);(try simp only [show (1:Int).toNat = 1 from rfl,Nat.reduceMul,Nat.reduceEqDiff,Go.Addr.add,↓reduceIte] at hx549_0);(try simp only [show (1:Int).toNat = 1 from rfl,Nat.reduceMul,Nat.reduceEqDiff,Go.Addr.add,↓reduceIte] at hx549_1);(try simp only [show (1:Int).toNat = 1 from rfl,Nat.reduceMul,Nat.reduceEqDiff,Go.Addr.add,↓reduceIte] at hx549_2);have qi549:(1 < l0_2.length) = True:=eq_true (by omega);(try rw [show ((1:Int)).toNat = 1 from rfl,show 1 * 3 = 3 from rfl] at hx549_0 hx549_1 hx549_2);have hn549_0:ad541.block ≠ gb548:=Nat.ne_of_lt (Nat.lt_of_lt_of_le (by have:=World.block_lt_of_cell? _ _ hx549_0;first | rwa [add_block] at this | exact this) GW548.out);have hn549_1:ad541.block ≠ gb548:=Nat.ne_of_lt (Nat.lt_of_lt_of_le (by have:=World.block_lt_of_cell? _ _ hx549_0;first | rwa [add_block] at this | exact this) GW548.out);have hn549_2:ad541.block ≠ gb548:=Nat.ne_of_lt (Nat.lt_of_lt_of_le (by have:=World.block_lt_of_cell? _ _ hx549_0;first | rwa [add_block] at this | exact this) GW548.out);replace hx549_0:=(HB.out.cell (World.block_lt_of_cell? w _ hx549_0)).trans hx549_0;replace hx549_1:=(HB.out.cell (World.block_lt_of_cell? w _ hx549_1)).trans hx549_1;replace hx549_2:=(HB.out.cell (World.block_lt_of_cell? w _ hx549_2)).trans hx549_2;have HR549_2:=aQ hi549_2;have HC549_2:=aQ hl549_2;clear hi549_2 hl549_2;replace hx549_0:=(cell_far (p:=⟨gb548,0,none⟩) (by first | (rw [add_block];exact hn549_0) | (show (Addr.add _ _).block ≠ _;rw [add_block];exact hn549_0) | exact hn549_0) (.int .i64 t542)).trans hx549_0;replace hx549_1:=(cell_far (p:=⟨gb548,0,none⟩) (by first | (rw [add_block];exact hn549_0) | (show (Addr.add _ _).block ≠ _;rw [add_block];exact hn549_0) | exact hn549_0) (.int .i64 t542)).trans hx549_1;replace hx549_2:=(cell_far (p:=⟨gb548,0,none⟩) (by first | (rw [add_block];exact hn549_0) | (show (Addr.add _ _).block ≠ _;rw [add_block];exact hn549_0) | exact hn549_0) (.int .i64 t542)).trans hx549_2;replace hx549_0:=(cell_far (p:=⟨gb548,1,none⟩) (by first | (rw [add_block];exact hn549_1) | (show (Addr.add _ _).block ≠ _;rw [add_block];exact hn549_1) | exact hn549_1) (.int .i64 t543)).trans hx549_0;replace hx549_1:=(cell_far (p:=⟨gb548,1,none⟩) (by first | (rw [add_block];exact hn549_1) | (show (Addr.add _ _).block ≠ _;rw [add_block];exact hn549_1) | exact hn549_1) (.int .i64 t543)).trans hx549_1;replace hx549_2:=(cell_far (p:=⟨gb548,1,none⟩) (by first | (rw [add_block];exact hn549_1) | (show (Addr.add _ _).block ≠ _;rw [add_block];exact hn549_1) | exact hn549_1) (.int .i64 t543)).trans hx549_2;replace hx549_0:=(cell_far (p:=⟨gb548,2,none⟩) (by first | (rw [add_block];exact hn549_2) | (show (Addr.add _ _).block ≠ _;rw [add_block];exact hn549_2) | exact hn549_2) (.slice Ao141 t544.length co141)).trans hx549_0;replace hx549_1:=(cell_far (p:=⟨gb548,2,none⟩) (by first | (rw [add_block];exact hn549_2) | (show (Addr.add _ _).block ≠ _;rw [add_block];exact hn549_2) | exact hn549_2) (.slice Ao141 t544.length co141)).trans hx549_1;replace hx549_2:=(cell_far (p:=⟨gb548,2,none⟩) (by first | (rw [add_block];exact hn549_2) | (show (Addr.add _ _).block ≠ _;rw [add_block];exact hn549_2) | exact hn549_2) (.slice Ao141 t544.length co141)).trans hx549_2;clear hn549_0;clear hn549_1;clear hn549_2;replace p549:=eq_true p549;replace q549:=eq_true q549) | ((with_reducible refine gate_callee (f:=50) rfl ?_);refine goesL_ (some 55) rfl rfl Try.func50 (by kernel_rfl) rfl #[.agg #[.int .i64 ((rd_T29 l0_2 1).f0),.int .i64 ((rd_T29 l0_2 1).f1),.slice A549_2 ((rd_T29 l0_2 1).f2).length c549_2]] rfl mP ?_;(with_reducible refine (ih k (by omega) ((rd_T29 l0_2 1).f0) ((rd_T29 l0_2 1).f1) _ _ ((rd_T29 l0_2 1).f2) t550 t551 t552 false _ ?side1 ?side2 A49.out).mono ?_);(case side1=>exact Kd.C_below HR549_2.out bB);(case side2=>exact HC549_2.out);rintro e w143 ⟨v553,rfl,ho0,hb⟩;refine ⟨_,rfl,?_⟩;have HO554:=aQ (Kd.N_lower (Kd.N_mono (ok':=fun k_=>(w.heap.size ≤ k_)∧some k_ ≠ (.slice Ao141 t544.length co141:Value).ownBlock∧k_ ≠ gb519∧k_ ≠ gb520∧k_ ≠ gb548) ho0 (fun k_ hk_=>⟨(Nat.le_trans (below_size bB) hk_),(Kd.fresh' (Kd.N_lt (nN ((Kd.N_mono (Kd.N_far (p:=⟨gb548,2,none⟩) (Kd.N_far (p:=⟨gb548,1,none⟩) (Kd.N_far (p:=⟨gb548,0,none⟩) (Kd.N_mono HO546.out (fun k_ hk=>(⟨hk,hk.2⟩:_∧k_ ≠ gb548))) (fun _ hk=>hk.2) (.int .i64 t542)) (fun _ hk=>hk.2) (.int .i64 t543)) (fun _ hk=>hk.2) (.slice Ao141 t544.length co141)) (fun _ h_=>h_.1))))) k_ hk_),(Kd.freshB (g:=gb519) (o:=.cells #[.int .i64 a0_0,.int .i64 a0_1,.slice (some ad541) l0_2.length c0_2] 29 (0,0)) bF k_ hk_),(Kd.freshB (g:=gb520) (o:=.cells #[.int .i64 0,.int .i64 0,.slice none 0 0] 29 (0,0)) bF k_ hk_),(Kd.freshB (g:=gb548) (o:=.cells #[.int .i64 t542,.int .i64 t543,.slice Ao141 t544.length co141] 29 (0,0)) bP k_ hk_)⟩)) (below_size bB));replace HO546:=aQ (Kd.N_elder' (nN ((Kd.N_mono (Kd.N_far (p:=⟨gb548,2,none⟩) (Kd.N_far (p:=⟨gb548,1,none⟩) (Kd.N_far (p:=⟨gb548,0,none⟩) (Kd.N_mono HO546.out (fun k_ hk=>(⟨hk,hk.2⟩:_∧k_ ≠ gb548))) (fun _ hk=>hk.2) (.int .i64 t542)) (fun _ hk=>hk.2) (.int .i64 t543)) (fun _ hk=>hk.2) (.slice Ao141 t544.length co141)) (fun _ h_=>h_.1)))) (Kd.N_base ho0) hb);replace BK519:=aQ (blk_below (g:=gb519) (o:=.cells #[.int .i64 a0_0,.int .i64 a0_1,.slice (some ad541) l0_2.length c0_2] 29 (0,0)) bF hb);replace BK520:=aQ (blk_below (g:=gb520) (o:=.cells #[.int .i64 0,.int .i64 0,.slice none 0 0] 29 (0,0)) bF hb);replace BK548:=aQ (blk_below (g:=gb548) (o:=.cells #[.int .i64 t542,.int .i64 t543,.slice Ao141 t544.length co141] 29 (0,0)) bP hb);replace HB:=aQ (below_step bB hb);(try clear hb);(try clear ho0)) | ((with_reducible refine gate_dst (N:=6) rfl ?_);refine box1 (N:=6) (cs:=#[.int .i64 0,.int .i64 0,.slice none 0 0]) (t:=29) ?_;intro gb556 hg w144 hbox hb;replace HO546:=aQ (Kd.N_below (Kd.N_elderB (nN HO546.out) gb556 (Nat.le_of_eq hg.symm)) hb);replace HO554:=aQ (Kd.N_below (Kd.N_elderB (nN HO554.out) gb556 (Nat.le_of_eq hg.symm)) hb);have BK556:=aQ (hbox);have GW556:=aQ (gB:w.heap.size ≤ gb556);have GE556:=GW556;replace HB:=aQ (below_step bB hb);have NB519_556:=aQ ((by rw [hg];exact Nat.ne_of_lt (blk_lt (nB BK519.out)):gb519 ≠ gb556));have NB556_519:=aQ NB519_556.out.symm;replace BK519:=aQ (blk_below (nB BK519.out) hb);have NB520_556:=aQ ((by rw [hg];exact Nat.ne_of_lt (blk_lt (nB BK520.out)):gb520 ≠ gb556));have NB556_520:=aQ NB520_556.out.symm;replace BK520:=aQ (blk_below (nB BK520.out) hb);have NB548_556:=aQ ((by rw [hg];exact Nat.ne_of_lt (blk_lt (nB BK548.out)):gb548 ≠ gb556));have NB556_548:=aQ NB548_556.out.symm;replace BK548:=aQ (blk_below (nB BK548.out) hb);clear hb hbox hg;have hnb145:=NB556_519.out;have hnc145:=NB519_556.out;have hnb146:=NB556_520.out;have hnc146:=NB520_556.out;have hnb147:=NB556_548.out;have hnc147:=NB548_556.out;obtain ⟨hcz148_0,hcz148_1,hcz148_2,hfz148_0,hfz148_1,hfz148_2⟩:=cz3 BK556.out;obtain ⟨Ao149,co149,eo149⟩:=Kd.N_slice HO554.out;subst eo149))
   have n0_:Aside0 (Kd.N k29 29 (((w144.setCell ⟨gb556,0,none⟩ (.int .i64 t550)).setCell ⟨gb556,1,none⟩ (.int .i64 t551)).setCell ⟨gb556,2,none⟩ (.slice Ao149 t552.length co149)) w.heap.size (fun k_=>(w.heap.size ≤ k_)∧some k_ ≠ (.slice Ao149 t552.length co149:Value).ownBlock∧k_ ≠ gb519∧k_ ≠ gb520∧k_ ≠ gb548∧k_ ≠ gb556) (.slice Ao141 t544.length co141) t544):=⟨Kd.N_mono (nFN (g:=gb556) HO546.out (fun k_ hk=>hk.2)) (fun _ hk=>⟨hk.1.1.1.1,⟨hk.1.2,⟨hk.1.1.1.2.1,⟨hk.1.1.1.2.2,⟨hk.1.1.2,hk.2⟩⟩⟩⟩⟩)⟩
   have n1_:Aside0 (Kd.N k29 29 (((w144.setCell ⟨gb556,0,none⟩ (.int .i64 t550)).setCell ⟨gb556,1,none⟩ (.int .i64 t551)).setCell ⟨gb556,2,none⟩ (.slice Ao149 t552.length co149)) w.heap.size (fun k_=>(w.heap.size ≤ k_)∧some k_ ≠ (.slice Ao141 t544.length co141:Value).ownBlock∧k_ ≠ gb519∧k_ ≠ gb520∧k_ ≠ gb548∧k_ ≠ gb556) (.slice Ao149 t552.length co149) t552):=⟨Kd.N_mono (nFN (g:=gb556) HO554.out (fun k_ hk=>hk.2)) (fun _ hk=>⟨hk.1.1,⟨hk.1.2.1,⟨hk.1.2.2.1,⟨hk.1.2.2.2.1,⟨hk.1.2.2.2.2,hk.2⟩⟩⟩⟩⟩)⟩
   have n2_:Aside0 ((((w144.setCell ⟨gb556,0,none⟩ (.int .i64 t550)).setCell ⟨gb556,1,none⟩ (.int .i64 t551)).setCell ⟨gb556,2,none⟩ (.slice Ao149 t552.length co149)).heap[gb519]? = some (.cells #[.int .i64 a0_0,.int .i64 a0_1,.slice (some ad541) l0_2.length c0_2] 29 (0,0))):=⟨bF⟩
   have n3_:Aside0 ((((w144.setCell ⟨gb556,0,none⟩ (.int .i64 t550)).setCell ⟨gb556,1,none⟩ (.int .i64 t551)).setCell ⟨gb556,2,none⟩ (.slice Ao149 t552.length co149)).heap[gb520]? = some (.cells #[.int .i64 0,.int .i64 0,.slice none 0 0] 29 (0,0))):=⟨bF⟩
   have n4_:Aside0 ((((w144.setCell ⟨gb556,0,none⟩ (.int .i64 t550)).setCell ⟨gb556,1,none⟩ (.int .i64 t551)).setCell ⟨gb556,2,none⟩ (.slice Ao149 t552.length co149)).heap[gb548]? = some (.cells #[.int .i64 t542,.int .i64 t543,.slice Ao141 t544.length co141] 29 (0,0))):=⟨bF⟩
   have n5_:Aside0 ((((w144.setCell ⟨gb556,0,none⟩ (.int .i64 t550)).setCell ⟨gb556,1,none⟩ (.int .i64 t551)).setCell ⟨gb556,2,none⟩ (.slice Ao149 t552.length co149)).heap[gb556]? = some (.cells #[.int .i64 t550,.int .i64 t551,.slice Ao149 t552.length co149] 29 (0,0))):=⟨bP⟩
   have n6_:Aside0 (Below w.heap.size w (((w144.setCell ⟨gb556,0,none⟩ (.int .i64 t550)).setCell ⟨gb556,1,none⟩ (.int .i64 t551)).setCell ⟨gb556,2,none⟩ (.slice Ao149 t552.length co149))):=⟨bB⟩
   (try clear HO546)
   (try clear HO554)
   (try clear BK519)
   (try clear BK520)
   (try clear BK548)
   (try clear BK556)
   (try clear HB)
   generalize (((w144.setCell ⟨gb556,0,none⟩ (.int .i64 t550)).setCell ⟨gb556,1,none⟩ (.int .i64 t551)).setCell ⟨gb556,2,none⟩ (.slice Ao149 t552.length co149)) = w150 at n0_ n1_ n2_ n3_ n4_ n5_ n6_ ⊢
   have HO546:=n0_
   have HO554:=n1_
   have BK519:=n2_
   have BK520:=n3_
   have BK548:=n4_
   have BK556:=n5_
   have HB:=n6_
   clear n0_ n1_ n2_ n3_ n4_ n5_ n6_
   replace HO546:=aQ (Kd.N_drew HO546.out)
   replace HO554:=aQ (Kd.N_drew HO554.out)
   replace BK519:=aQ (blk_drew BK519.out)
   replace BK520:=aQ (blk_drew BK520.out)
   replace BK548:=aQ (blk_drew BK548.out)
   replace BK556:=aQ (blk_drew BK556.out)
   replace HB:=aQ (below_drew1 HB.out)
   refine start_ (n:=22) (S:=fun w'=>True) (ds:=[]) #[false,false,false,false,false,false,false,false,false,false,false,false,false,false,false,false,false,false,false,false,false,false] (by kernel_rfl) rfl rfl trivial (fun hHeld=>?_);refine with_tabW spec_l17Pass.tab12 spec_l17Pass.bits12 (fun HT_ HW_=>?_)
   generalize w150.drew = w151 at HO546 HO554 BK519 BK520 BK548 BK556 HB hHeld ⊢
   refine pur (i:=0) (N:=some 58) #[true,false,false,false,false,false,false,false,false,false,false,false,false,false,false,false,false,false,false,false,false,false] ?_
   refine pur (i:=1) (N:=some 59) #[true,true,false,false,false,false,false,false,false,false,false,false,false,false,false,false,false,false,false,false,false,false] ?_
   refine pur (i:=2) (N:=some 60) #[true,true,true,false,false,false,false,false,false,false,false,false,false,false,false,false,false,false,false,false,false,false] ?_
   refine pur (i:=3) (N:=some 61) #[true,true,true,true,false,false,false,false,false,false,false,false,false,false,false,false,false,false,false,false,false,false] ?_
   refine pur (i:=4) (N:=some 62) #[true,true,true,true,true,false,false,false,false,false,false,false,false,false,false,false,false,false,false,false,false,false] ?_
   refine pur (i:=5) (N:=some 63) #[true,true,true,true,true,true,false,false,false,false,false,false,false,false,false,false,false,false,false,false,false,false] ?_
   refine pur (i:=6) (N:=some 64) #[true,true,true,true,true,true,true,false,false,false,false,false,false,false,false,false,false,false,false,false,false,false] ?_
   refine pure_ (i:=7) (N:=some 65) (v:=undef) (a':=?_) #[true,true,true,true,true,true,true,true,false,false,false,false,false,false,false,false,false,false,false,false,false,false] rfl rfl (any_of HT_.out (by kernel_rfl)) (fun _ _ _ h=>h) (Or.inr ⟨by rfl,rfl⟩) ?_ ?_
   rotate_left;·simp only [Act.put,List.setIfInBounds_toArray,List.set_cons_zero,List.set_cons_succ,i64_w,i32_w];rfl
   refine pure_ (i:=8) (N:=some 66) (v:=undef) (a':=?_) #[true,true,true,true,true,true,true,true,true,false,false,false,false,false,false,false,false,false,false,false,false,false] rfl rfl (any_of HT_.out (by kernel_rfl)) (fun _ _ _ h=>h) (Or.inr ⟨by rfl,rfl⟩) ?_ ?_
   rotate_left;·simp only [Act.put,List.setIfInBounds_toArray,List.set_cons_zero,List.set_cons_succ,i64_w,i32_w];rfl
   refine pure_ (i:=9) (N:=some 67) (v:=undef) (a':=?_) #[true,true,true,true,true,true,true,true,true,true,false,false,false,false,false,false,false,false,false,false,false,false] rfl rfl (any_of HT_.out (by kernel_rfl)) (fun _ _ _ h=>h) (Or.inr ⟨by rfl,rfl⟩) ?_ ?_
   rotate_left;·simp only [Act.put,List.setIfInBounds_toArray,List.set_cons_zero,List.set_cons_succ,i64_w,i32_w];rfl
   refine pure_ (i:=10) (N:=some 68) (v:=undef) (a':=?_) #[true,true,true,true,true,true,true,true,true,true,true,false,false,false,false,false,false,false,false,false,false,false] rfl rfl (any_of HT_.out (by kernel_rfl)) (fun _ _ _ h=>h) (Or.inr ⟨by rfl,rfl⟩) ?_ ?_
   rotate_left;·simp only [Act.put,List.setIfInBounds_toArray,List.set_cons_zero,List.set_cons_succ,i64_w,i32_w];rfl
   refine pure_ (i:=11) (N:=some 69) (v:=undef) (a':=?_) #[true,true,true,true,true,true,true,true,true,true,true,true,false,false,false,false,false,false,false,false,false,false] rfl rfl (any_of HT_.out (by kernel_rfl)) (fun _ _ _ h=>h) (Or.inr ⟨by rfl,rfl⟩) ?_ ?_
   rotate_left;·simp only [Act.put,List.setIfInBounds_toArray,List.set_cons_zero,List.set_cons_succ,i64_w,i32_w];rfl
   refine pure_ (i:=12) (N:=some 70) (v:=undef) (a':=?_) #[true,true,true,true,true,true,true,true,true,true,true,true,true,false,false,false,false,false,false,false,false,false] rfl rfl (any_of HT_.out (by kernel_rfl)) (fun _ _ _ h=>h) (Or.inr ⟨by rfl,rfl⟩) ?_ ?_
   rotate_left;·simp only [Act.put,List.setIfInBounds_toArray,List.set_cons_zero,List.set_cons_succ,i64_w,i32_w];rfl
   refine pure_ (i:=13) (N:=some 71) (v:=undef) (a':=?_) #[true,true,true,true,true,true,true,true,true,true,true,true,true,true,false,false,false,false,false,false,false,false] rfl rfl (any_of HT_.out (by kernel_rfl)) (fun _ _ _ h=>h) (Or.inr ⟨by rfl,rfl⟩) ?_ ?_
   rotate_left;·simp only [Act.put,List.setIfInBounds_toArray,List.set_cons_zero,List.set_cons_succ,i64_w,i32_w];rfl
   refine pure_ (i:=14) (N:=some 72) (v:=undef) (a':=?_) #[true,true,true,true,true,true,true,true,true,true,true,true,true,true,true,false,false,false,false,false,false,false] rfl rfl (any_of HT_.out (by kernel_rfl)) (fun _ _ _ h=>h) (Or.inr ⟨by rfl,rfl⟩) ?_ ?_
   rotate_left;·simp only [Act.put,List.setIfInBounds_toArray,List.set_cons_zero,List.set_cons_succ,i64_w,i32_w];rfl
   refine pure_ (i:=15) (N:=some 73) (v:=undef) (a':=?_) #[true,true,true,true,true,true,true,true,true,true,true,true,true,true,true,true,false,false,false,false,false,false] rfl rfl (any_of HT_.out (by kernel_rfl)) (fun _ _ _ h=>h) (Or.inr ⟨by rfl,rfl⟩) ?_ ?_
   rotate_left;·simp only [Act.put,List.setIfInBounds_toArray,List.set_cons_zero,List.set_cons_succ,i64_w,i32_w];rfl
   refine pure_ (i:=16) (N:=some 74) (v:=undef) (a':=?_) #[true,true,true,true,true,true,true,true,true,true,true,true,true,true,true,true,true,false,false,false,false,false] rfl rfl (any_of HT_.out (by kernel_rfl)) (fun _ _ _ h=>h) (Or.inr ⟨by rfl,rfl⟩) ?_ ?_
   rotate_left;·simp only [Act.put,List.setIfInBounds_toArray,List.set_cons_zero,List.set_cons_succ,i64_w,i32_w];rfl
   refine pure_ (i:=17) (N:=some 75) (v:=undef) (a':=?_) #[true,true,true,true,true,true,true,true,true,true,true,true,true,true,true,true,true,true,false,false,false,false] rfl rfl (any_of HT_.out (by kernel_rfl)) (fun _ _ _ h=>h) (Or.inr ⟨by rfl,rfl⟩) ?_ ?_
   rotate_left;·simp only [Act.put,List.setIfInBounds_toArray,List.set_cons_zero,List.set_cons_succ,i64_w,i32_w];rfl
   refine pure_ (i:=18) (N:=some 76) (v:=undef) (a':=?_) #[true,true,true,true,true,true,true,true,true,true,true,true,true,true,true,true,true,true,true,false,false,false] rfl rfl (any_of HT_.out (by kernel_rfl)) (fun _ _ _ h=>h) (Or.inr ⟨by rfl,rfl⟩) ?_ ?_
   rotate_left;·simp only [Act.put,List.setIfInBounds_toArray,List.set_cons_zero,List.set_cons_succ,i64_w,i32_w];rfl
   refine pure_ (i:=19) (N:=some 77) (v:=undef) (a':=?_) #[true,true,true,true,true,true,true,true,true,true,true,true,true,true,true,true,true,true,true,true,false,false] rfl rfl (any_of HT_.out (by kernel_rfl)) (fun _ _ _ h=>h) (Or.inr ⟨by rfl,rfl⟩) ?_ ?_
   rotate_left;·simp only [Act.put,List.setIfInBounds_toArray,List.set_cons_zero,List.set_cons_succ,i64_w,i32_w];rfl
   refine pure_ (i:=20) (N:=some 78) (v:=undef) (a':=?_) #[true,true,true,true,true,true,true,true,true,true,true,true,true,true,true,true,true,true,true,true,true,false] rfl rfl (any_of HT_.out (by kernel_rfl)) (fun _ _ _ h=>h) (Or.inr ⟨by rfl,rfl⟩) ?_ ?_
   rotate_left;·simp only [Act.put,List.setIfInBounds_toArray,List.set_cons_zero,List.set_cons_succ,i64_w,i32_w];rfl
   refine pur (i:=21) (N:=some 79) #[true,true,true,true,true,true,true,true,true,true,true,true,true,true,true,true,true,true,true,true,true,true] ?_
   refine done_ (done_of HT_.out (by kernel_rfl)) ?_
   obtain ⟨hcz152_0,hcz152_1,hcz152_2,hfz152_0,hfz152_1,hfz152_2⟩:=cz3 BK520.out
   try go_wp2
   refine bodyPost_ret (results_ct rfl _ _ gb520 29 #[.int .i64 0,.int .i64 0,.slice none 0 0] (0,0) _ rfl bP Try.underlying29 rfl (by kernel_rfl)) rfl ?_
   exact ⟨_,rfl,by first | exact Kd.R_nil _ _ _ _ _ | exact Kd.N_nil _ _ _ _ _ | exact Kd.V_nil _ _ _ _ _ | exact Kd.Q_nil _ _ _ _ _ | exact Kd.S_nil _ _ _ _ _,bB⟩
 ·replace c50:=Bool.eq_false_iff.mpr c50
  subst c50
  have H1:(some (0,0,([]:List (S29)),false)) = some (r1,r2,r3,r4):=by rw [if_neg (show ¬ (false = true) by decide)] at H;exact H
  clear H
  have H:=H1
  clear H1
  simp only [Option.some.injEq,Prod.mk.injEq] at H
  obtain ⟨rfl,rfl,rfl,rfl⟩:=H
  go_enter Try.func50,Try.ntmps50
  try go_wp2_with (first | ((with_reducible refine gate_dst (N:=1) rfl ?_);refine box1 (N:=1) (cs:=#[.int .i64 a0_0,.int .i64 a0_1,.slice A0_2 l0_2.length c0_2]) (t:=29) ?_;intro gb519 hg w153 hbox hb;have BK519:=aQ (hbox);have GW519:=aQ (gB:w.heap.size ≤ gb519);have GE519:=GW519;replace HB:=aQ (below_step bB hb);clear hb hbox hg) | ((with_reducible refine gate_dst (N:=2) rfl ?_);refine box1 (N:=2) (cs:=#[.int .i64 0,.int .i64 0,.slice none 0 0]) (t:=29) ?_;intro gb520 hg w154 hbox hb;have BK520:=aQ (hbox);have GW520:=aQ (gB:w.heap.size ≤ gb520);have GE520:=GW520;replace HB:=aQ (below_step bB hb);have NB519_520:=aQ ((by rw [hg];exact Nat.ne_of_lt (blk_lt (nB BK519.out)):gb519 ≠ gb520));have NB520_519:=aQ NB519_520.out.symm;replace BK519:=aQ (blk_below (nB BK519.out) hb);clear hb hbox hg;have hnb155:=NB519_520.out;have hnc155:=NB520_519.out;obtain ⟨hcz156_0,hcz156_1,hcz156_2,hfz156_0,hfz156_1,hfz156_2⟩:=cz3 BK519.out;have p541:0 ≤ (0:Int):=(by omega);have q541:0 < (l0_2.length:Int):=of_decide_eq_true (by first | (with_reducible assumption) | assumption);obtain ⟨ad541,A541_2,c541_2,e541,hx541_0,hx541_1,hx541_2,hl541_2,hi541_2⟩:=at_T29 HR0_2.out 0 p541 q541;cases e541;have qi541:(0 < l0_2.length) = True:=eq_true (by omega);(try rw [show ((0:Int)).toNat = 0 from rfl,show 0 * 3 = 0 from rfl] at hx541_0 hx541_1 hx541_2);(try rw [Addr.add_zero'] at hx541_0);(try rw [Addr.add_zero'] at hx541_1);(try rw [Addr.add_zero'] at hx541_2);replace hx541_0:=(HB.out.cell (World.block_lt_of_cell? w _ hx541_0)).trans hx541_0;replace hx541_1:=(HB.out.cell (World.block_lt_of_cell? w _ hx541_1)).trans hx541_1;replace hx541_2:=(HB.out.cell (World.block_lt_of_cell? w _ hx541_2)).trans hx541_2;have HR541_2:=aQ hi541_2;have HC541_2:=aQ hl541_2;clear hi541_2 hl541_2;replace p541:=eq_true p541;replace q541:=eq_true q541) | ((with_reducible refine gate_callee (f:=50) rfl ?_);refine goesL_ (some 47) rfl rfl Try.func50 (by kernel_rfl) rfl #[.agg #[.int .i64 ((rd_T29 l0_2 0).f0),.int .i64 ((rd_T29 l0_2 0).f1),.slice A541_2 ((rd_T29 l0_2 0).f2).length c541_2]] rfl mP ?_;(with_reducible refine (ih k (by omega) ((rd_T29 l0_2 0).f0) ((rd_T29 l0_2 0).f1) _ _ ((rd_T29 l0_2 0).f2) t542 t543 t544 false _ ?side1 ?side2 A47.out).mono ?_);(case side1=>repeat (first | exact (Kd.C_below HR541_2.out HB.out) | (with_reducible refine Kd.C_alloc ?_ _) | (with_reducible refine Kd.C_drewN ?_ _) | (with_reducible refine Kd.C_drew ?_)));(case side2=>exact HC541_2.out);rintro e w157 ⟨v545,rfl,ho0,hb⟩;refine ⟨_,rfl,?_⟩;have HO546:=aQ (Kd.N_lower (Kd.N_mono (ok':=fun k_=>(w.heap.size ≤ k_)∧k_ ≠ gb519∧k_ ≠ gb520) ho0 (fun k_ hk_=>⟨(Nat.le_trans (below_size bB) hk_),(Kd.freshB (nB BK519.out) k_ hk_),(Kd.freshB (nB BK520.out) k_ hk_)⟩)) (below_size bB));replace BK519:=aQ (blk_below (nB BK519.out) hb);replace BK520:=aQ (blk_below (nB BK520.out) hb);replace HB:=aQ (below_step bB hb);(try clear hb);(try clear ho0)) | ((with_reducible refine gate_dst (N:=4) rfl ?_);refine box1 (N:=4) (cs:=#[.int .i64 0,.int .i64 0,.slice none 0 0]) (t:=29) ?_;intro gb548 hg w158 hbox hb;replace HO546:=aQ (Kd.N_below (Kd.N_elderB (nN HO546.out) gb548 (Nat.le_of_eq hg.symm)) hb);have BK548:=aQ (hbox);have GW548:=aQ (gB:w.heap.size ≤ gb548);have GE548:=GW548;replace HB:=aQ (below_step bB hb);have NB519_548:=aQ ((by rw [hg];exact Nat.ne_of_lt (blk_lt (nB BK519.out)):gb519 ≠ gb548));have NB548_519:=aQ NB519_548.out.symm;replace BK519:=aQ (blk_below (nB BK519.out) hb);have NB520_548:=aQ ((by rw [hg];exact Nat.ne_of_lt (blk_lt (nB BK520.out)):gb520 ≠ gb548));have NB548_520:=aQ NB520_548.out.symm;replace BK520:=aQ (blk_below (nB BK520.out) hb);clear hb hbox hg;have hnb159:=NB548_519.out;have hnc159:=NB519_548.out;have hnb160:=NB548_520.out;have hnc160:=NB520_548.out;obtain ⟨hcz161_0,hcz161_1,hcz161_2,hfz161_0,hfz161_1,hfz161_2⟩:=cz3 BK548.out;obtain ⟨Ao162,co162,eo162⟩:=Kd.N_slice HO546.out;subst eo162;obtain ⟨hcz163_0,hcz163_1,hcz163_2,hfz163_0,hfz163_1,hfz163_2⟩:=cz3 BK519.out;have p549:0 ≤ (1:Int):=(by omega);have q549:1 < (l0_2.length:Int):=of_decide_eq_true (by first | (with_reducible assumption) | assumption);obtain ⟨ad549,A549_2,c549_2,e549,hx549_0,hx549_1,hx549_2,hl549_2,hi549_2⟩:=at_T29 HR0_2.out 1 p549 q549;obtain rfl:ad541 = ad549:=(by injection e549);(try simp only [show (1:Int).toNat = 1 from rfl,Nat.reduceMul,Nat.reduceEqDiff,Go.Addr.add,↓reduceIte] at hx549_0);(try simp only [show (1:Int).toNat = 1 from rfl,Nat.reduceMul,Nat.reduceEqDiff,Go.Addr.add,↓reduceIte] at hx549_1);(try simp only [show (1:Int).toNat = 1 from rfl,Nat.reduceMul,Nat.reduceEqDiff,Go.Addr.add,↓reduceIte] at hx549_2);have qi549:(1 < l0_2.length) = True:=eq_true (by omega);(try rw [show ((1:Int)).toNat = 1 from rfl,show 1 * 3 = 3 from rfl] at hx549_0 hx549_1 hx549_2);have hn549_0:ad541.block ≠ gb548:=Nat.ne_of_lt (Nat.lt_of_lt_of_le (by have:=World.block_lt_of_cell? _ _ hx549_0;first | rwa [add_block] at this | exact this) GW548.out);have hn549_1:ad541.block ≠ gb548:=Nat.ne_of_lt (Nat.lt_of_lt_of_le (by have:=World.block_lt_of_cell? _ _ hx549_0;first | rwa [add_block] at this | exact this) GW548.out);have hn549_2:ad541.block ≠ gb548:=Nat.ne_of_lt (Nat.lt_of_lt_of_le (by have:=World.block_lt_of_cell? _ _ hx549_0;first | rwa [add_block] at this | exact this) GW548.out);replace hx549_0:=(HB.out.cell (World.block_lt_of_cell? w _ hx549_0)).trans hx549_0;replace hx549_1:=(HB.out.cell (World.block_lt_of_cell? w _ hx549_1)).trans hx549_1;replace hx549_2:=(HB.out.cell (World.block_lt_of_cell? w _ hx549_2)).trans hx549_2;have HR549_2:=aQ hi549_2;have HC549_2:=aQ hl549_2;clear hi549_2 hl549_2;replace hx549_0:=(cell_far (p:=⟨gb548,0,none⟩) (by first | (rw [add_block];exact hn549_0) | (show (Addr.add _ _).block ≠ _;rw [add_block];exact hn549_0) | exact hn549_0) (.int .i64 t542)).trans hx549_0;replace hx549_1:=(cell_far (p:=⟨gb548,0,none⟩) (by first | (rw [add_block];exact hn549_0) | (show (Addr.add _ _).block ≠ _;rw [add_block];exact hn549_0) | exact hn549_0) (.int .i64 t542)).trans hx549_1;replace hx549_2:=(cell_far (p:=⟨gb548,0,none⟩) (by first | (rw [add_block];exact hn549_0) | (show (Addr.add _ _).block ≠ _;rw [add_block];exact hn549_0) | exact hn549_0) (.int .i64 t542)).trans hx549_2;replace hx549_0:=(cell_far (p:=⟨gb548,1,none⟩) (by first | (rw [add_block];exact hn549_1) | (show (Addr.add _ _).block ≠ _;rw [add_block];exact hn549_1) | exact hn549_1) (.int .i64 t543)).trans hx549_0;replace hx549_1:=(cell_far (p:=⟨gb548,1,none⟩) (by first | (rw [add_block];exact hn549_1) | (show (Addr.add _ _).block ≠ _;rw [add_block];exact hn549_1) | exact hn549_1) (.int .i64 t543)).trans hx549_1;replace hx549_2:=(cell_far (p:=⟨gb548,1,none⟩) (by first | (rw [add_block];exact hn549_1) | (show (Addr.add _ _).block ≠ _;rw [add_block];exact hn549_1) | exact hn549_1) (.int .i64 t543)).trans hx549_2;replace hx549_0:=(cell_far (p:=⟨gb548,2,none⟩) (by first | (rw [add_block];exact hn549_2) | (show (Addr.add _ _).block ≠ _;rw [add_block];exact hn549_2) | exact hn549_2) (.slice Ao162 t544.length co162)).trans hx549_0;replace hx549_1:=(cell_far (p:=⟨gb548,2,none⟩) (by first | (rw [add_block];exact hn549_2) | (show (Addr.add _ _).block ≠ _;rw [add_block];exact hn549_2) | exact hn549_2) (.slice Ao162 t544.length co162)).trans hx549_1;replace hx549_2:=(cell_far (p:=⟨gb548,2,none⟩) (by first | (rw [add_block];exact hn549_2) | (show (Addr.add _ _).block ≠ _;rw [add_block];exact hn549_2) | exact hn549_2) (.slice Ao162 t544.length co162)).trans hx549_2;clear hn549_0;clear hn549_1;clear hn549_2;replace p549:=eq_true p549;replace q549:=eq_true q549) | ((with_reducible refine gate_callee (f:=50) rfl ?_);refine goesL_ (some 55) rfl rfl Try.func50 (by kernel_rfl) rfl #[.agg #[.int .i64 ((rd_T29 l0_2 1).f0),.int .i64 ((rd_T29 l0_2 1).f1),.slice A549_2 ((rd_T29 l0_2 1).f2).length c549_2]] rfl mP ?_;(with_reducible refine (ih k (by omega) ((rd_T29 l0_2 1).f0) ((rd_T29 l0_2 1).f1) _ _ ((rd_T29 l0_2 1).f2) t550 t551 t552 t555 _ ?side1 ?side2 A49.out).mono ?_);(case side1=>exact Kd.C_below HR549_2.out bB);(case side2=>exact HC549_2.out);rintro e w164 ⟨v553,rfl,ho0,hb⟩;refine ⟨_,rfl,?_⟩;have HO554:=aQ (Kd.N_lower (Kd.N_mono (ok':=fun k_=>(w.heap.size ≤ k_)∧some k_ ≠ (.slice Ao162 t544.length co162:Value).ownBlock∧k_ ≠ gb519∧k_ ≠ gb520∧k_ ≠ gb548) ho0 (fun k_ hk_=>⟨(Nat.le_trans (below_size bB) hk_),(Kd.fresh' (Kd.N_lt (nN ((Kd.N_mono (Kd.N_far (p:=⟨gb548,2,none⟩) (Kd.N_far (p:=⟨gb548,1,none⟩) (Kd.N_far (p:=⟨gb548,0,none⟩) (Kd.N_mono HO546.out (fun k_ hk=>(⟨hk,hk.2⟩:_∧k_ ≠ gb548))) (fun _ hk=>hk.2) (.int .i64 t542)) (fun _ hk=>hk.2) (.int .i64 t543)) (fun _ hk=>hk.2) (.slice Ao162 t544.length co162)) (fun _ h_=>h_.1))))) k_ hk_),(Kd.freshB (g:=gb519) (o:=.cells #[.int .i64 a0_0,.int .i64 a0_1,.slice (some ad541) l0_2.length c0_2] 29 (0,0)) bF k_ hk_),(Kd.freshB (g:=gb520) (o:=.cells #[.int .i64 0,.int .i64 0,.slice none 0 0] 29 (0,0)) bF k_ hk_),(Kd.freshB (g:=gb548) (o:=.cells #[.int .i64 t542,.int .i64 t543,.slice Ao162 t544.length co162] 29 (0,0)) bP k_ hk_)⟩)) (below_size bB));replace HO546:=aQ (Kd.N_elder' (nN ((Kd.N_mono (Kd.N_far (p:=⟨gb548,2,none⟩) (Kd.N_far (p:=⟨gb548,1,none⟩) (Kd.N_far (p:=⟨gb548,0,none⟩) (Kd.N_mono HO546.out (fun k_ hk=>(⟨hk,hk.2⟩:_∧k_ ≠ gb548))) (fun _ hk=>hk.2) (.int .i64 t542)) (fun _ hk=>hk.2) (.int .i64 t543)) (fun _ hk=>hk.2) (.slice Ao162 t544.length co162)) (fun _ h_=>h_.1)))) (Kd.N_base ho0) hb);replace BK519:=aQ (blk_below (g:=gb519) (o:=.cells #[.int .i64 a0_0,.int .i64 a0_1,.slice (some ad541) l0_2.length c0_2] 29 (0,0)) bF hb);replace BK520:=aQ (blk_below (g:=gb520) (o:=.cells #[.int .i64 0,.int .i64 0,.slice none 0 0] 29 (0,0)) bF hb);replace BK548:=aQ (blk_below (g:=gb548) (o:=.cells #[.int .i64 t542,.int .i64 t543,.slice Ao162 t544.length co162] 29 (0,0)) bP hb);replace HB:=aQ (below_step bB hb);(try clear hb);(try clear ho0)) | ((with_reducible refine gate_dst (N:=6) rfl ?_);refine box1 (N:=6) (cs:=#[.int .i64 0,.int .i64 0,.slice none 0 0]) (t:=29) ?_;intro gb556 hg w165 hbox hb;replace HO546:=aQ (Kd.N_below (Kd.N_elderB (nN HO546.out) gb556 (Nat.le_of_eq hg.symm)) hb);replace HO554:=aQ (Kd.N_below (Kd.N_elderB (nN HO554.out) gb556 (Nat.le_of_eq hg.symm)) hb);have BK556:=aQ (hbox);have GW556:=aQ (gB:w.heap.size ≤ gb556);have GE556:=GW556;replace HB:=aQ (below_step bB hb);have NB519_556:=aQ ((by rw [hg];exact Nat.ne_of_lt (blk_lt (nB BK519.out)):gb519 ≠ gb556));have NB556_519:=aQ NB519_556.out.symm;replace BK519:=aQ (blk_below (nB BK519.out) hb);have NB520_556:=aQ ((by rw [hg];exact Nat.ne_of_lt (blk_lt (nB BK520.out)):gb520 ≠ gb556));have NB556_520:=aQ NB520_556.out.symm;replace BK520:=aQ (blk_below (nB BK520.out) hb);have NB548_556:=aQ ((by rw [hg];exact Nat.ne_of_lt (blk_lt (nB BK548.out)):gb548 ≠ gb556));have NB556_548:=aQ NB548_556.out.symm;replace BK548:=aQ (blk_below (nB BK548.out) hb);clear hb hbox hg;have hnb166:=NB556_519.out;have hnc166:=NB519_556.out;have hnb167:=NB556_520.out;have hnc167:=NB520_556.out;have hnb168:=NB556_548.out;have hnc168:=NB548_556.out;obtain ⟨hcz169_0,hcz169_1,hcz169_2,hfz169_0,hfz169_1,hfz169_2⟩:=cz3 BK556.out;obtain ⟨Ao170,co170,eo170⟩:=Kd.N_slice HO554.out;subst eo170))
  have n0_:Aside0 (Kd.N k29 29 (((w165.setCell ⟨gb556,0,none⟩ (.int .i64 t550)).setCell ⟨gb556,1,none⟩ (.int .i64 t551)).setCell ⟨gb556,2,none⟩ (.slice Ao170 t552.length co170)) w.heap.size (fun k_=>(w.heap.size ≤ k_)∧some k_ ≠ (.slice Ao170 t552.length co170:Value).ownBlock∧k_ ≠ gb519∧k_ ≠ gb520∧k_ ≠ gb548∧k_ ≠ gb556) (.slice Ao162 t544.length co162) t544):=⟨Kd.N_mono (nFN (g:=gb556) HO546.out (fun k_ hk=>hk.2)) (fun _ hk=>⟨hk.1.1.1.1,⟨hk.1.2,⟨hk.1.1.1.2.1,⟨hk.1.1.1.2.2,⟨hk.1.1.2,hk.2⟩⟩⟩⟩⟩)⟩
  have n1_:Aside0 (Kd.N k29 29 (((w165.setCell ⟨gb556,0,none⟩ (.int .i64 t550)).setCell ⟨gb556,1,none⟩ (.int .i64 t551)).setCell ⟨gb556,2,none⟩ (.slice Ao170 t552.length co170)) w.heap.size (fun k_=>(w.heap.size ≤ k_)∧some k_ ≠ (.slice Ao162 t544.length co162:Value).ownBlock∧k_ ≠ gb519∧k_ ≠ gb520∧k_ ≠ gb548∧k_ ≠ gb556) (.slice Ao170 t552.length co170) t552):=⟨Kd.N_mono (nFN (g:=gb556) HO554.out (fun k_ hk=>hk.2)) (fun _ hk=>⟨hk.1.1,⟨hk.1.2.1,⟨hk.1.2.2.1,⟨hk.1.2.2.2.1,⟨hk.1.2.2.2.2,hk.2⟩⟩⟩⟩⟩)⟩
  have n2_:Aside0 ((((w165.setCell ⟨gb556,0,none⟩ (.int .i64 t550)).setCell ⟨gb556,1,none⟩ (.int .i64 t551)).setCell ⟨gb556,2,none⟩ (.slice Ao170 t552.length co170)).heap[gb519]? = some (.cells #[.int .i64 a0_0,.int .i64 a0_1,.slice (some ad541) l0_2.length c0_2] 29 (0,0))):=⟨bF⟩
  have n3_:Aside0 ((((w165.setCell ⟨gb556,0,none⟩ (.int .i64 t550)).setCell ⟨gb556,1,none⟩ (.int .i64 t551)).setCell ⟨gb556,2,none⟩ (.slice Ao170 t552.length co170)).heap[gb520]? = some (.cells #[.int .i64 0,.int .i64 0,.slice none 0 0] 29 (0,0))):=⟨bF⟩
  have n4_:Aside0 ((((w165.setCell ⟨gb556,0,none⟩ (.int .i64 t550)).setCell ⟨gb556,1,none⟩ (.int .i64 t551)).setCell ⟨gb556,2,none⟩ (.slice Ao170 t552.length co170)).heap[gb548]? = some (.cells #[.int .i64 t542,.int .i64 t543,.slice Ao162 t544.length co162] 29 (0,0))):=⟨bF⟩
  have n5_:Aside0 ((((w165.setCell ⟨gb556,0,none⟩ (.int .i64 t550)).setCell ⟨gb556,1,none⟩ (.int .i64 t551)).setCell ⟨gb556,2,none⟩ (.slice Ao170 t552.length co170)).heap[gb556]? = some (.cells #[.int .i64 t550,.int .i64 t551,.slice Ao170 t552.length co170] 29 (0,0))):=⟨bP⟩
  have n6_:Aside0 (Below w.heap.size w (((w165.setCell ⟨gb556,0,none⟩ (.int .i64 t550)).setCell ⟨gb556,1,none⟩ (.int .i64 t551)).setCell ⟨gb556,2,none⟩ (.slice Ao170 t552.length co170))):=⟨bB⟩
  (try clear HO546)
  (try clear HO554)
  (try clear BK519)
  (try clear BK520)
  (try clear BK548)
  (try clear BK556)
  (try clear HB)
  generalize (((w165.setCell ⟨gb556,0,none⟩ (.int .i64 t550)).setCell ⟨gb556,1,none⟩ (.int .i64 t551)).setCell ⟨gb556,2,none⟩ (.slice Ao170 t552.length co170)) = w171 at n0_ n1_ n2_ n3_ n4_ n5_ n6_ ⊢
  have HO546:=n0_
  have HO554:=n1_
  have BK519:=n2_
  have BK520:=n3_
  have BK548:=n4_
  have BK556:=n5_
  have HB:=n6_
  clear n0_ n1_ n2_ n3_ n4_ n5_ n6_
  replace HO546:=aQ (Kd.N_drew HO546.out)
  replace HO554:=aQ (Kd.N_drew HO554.out)
  replace BK519:=aQ (blk_drew BK519.out)
  replace BK520:=aQ (blk_drew BK520.out)
  replace BK548:=aQ (blk_drew BK548.out)
  replace BK556:=aQ (blk_drew BK556.out)
  replace HB:=aQ (below_drew1 HB.out)
  refine start_ (n:=22) (S:=fun w'=>True) (ds:=[]) #[false,false,false,false,false,false,false,false,false,false,false,false,false,false,false,false,false,false,false,false,false,false] (by kernel_rfl) rfl rfl trivial (fun hHeld=>?_);refine with_tabW spec_l17Pass.tab12 spec_l17Pass.bits12 (fun HT_ HW_=>?_)
  generalize w171.drew = w172 at HO546 HO554 BK519 BK520 BK548 BK556 HB hHeld ⊢
  refine pur (i:=0) (N:=some 58) #[true,false,false,false,false,false,false,false,false,false,false,false,false,false,false,false,false,false,false,false,false,false] ?_
  refine pur (i:=1) (N:=some 59) #[true,true,false,false,false,false,false,false,false,false,false,false,false,false,false,false,false,false,false,false,false,false] ?_
  refine pur (i:=2) (N:=some 60) #[true,true,true,false,false,false,false,false,false,false,false,false,false,false,false,false,false,false,false,false,false,false] ?_
  refine pure_ (i:=3) (N:=some 61) (v:=undef) (a':=?_) #[true,true,true,true,false,false,false,false,false,false,false,false,false,false,false,false,false,false,false,false,false,false] rfl rfl (any_of HT_.out (by kernel_rfl)) (fun _ _ _ h=>h) (Or.inr ⟨by rfl,rfl⟩) ?_ ?_
  rotate_left;·simp only [Act.put,List.setIfInBounds_toArray,List.set_cons_zero,List.set_cons_succ,i64_w,i32_w];rfl
  refine pure_ (i:=4) (N:=some 62) (v:=undef) (a':=?_) #[true,true,true,true,true,false,false,false,false,false,false,false,false,false,false,false,false,false,false,false,false,false] rfl rfl (any_of HT_.out (by kernel_rfl)) (fun _ _ _ h=>h) (Or.inr ⟨by rfl,rfl⟩) ?_ ?_
  rotate_left;·simp only [Act.put,List.setIfInBounds_toArray,List.set_cons_zero,List.set_cons_succ,i64_w,i32_w];rfl
  refine pur (i:=5) (N:=some 63) #[true,true,true,true,true,true,false,false,false,false,false,false,false,false,false,false,false,false,false,false,false,false] ?_
  refine pur (i:=6) (N:=some 64) #[true,true,true,true,true,true,true,false,false,false,false,false,false,false,false,false,false,false,false,false,false,false] ?_
  refine pure_ (i:=7) (N:=some 65) (v:=undef) (a':=?_) #[true,true,true,true,true,true,true,true,false,false,false,false,false,false,false,false,false,false,false,false,false,false] rfl rfl (any_of HT_.out (by kernel_rfl)) (fun _ _ _ h=>h) (Or.inr ⟨by rfl,rfl⟩) ?_ ?_
  rotate_left;·simp only [Act.put,List.setIfInBounds_toArray,List.set_cons_zero,List.set_cons_succ,i64_w,i32_w];rfl
  refine pure_ (i:=8) (N:=some 66) (v:=undef) (a':=?_) #[true,true,true,true,true,true,true,true,true,false,false,false,false,false,false,false,false,false,false,false,false,false] rfl rfl (any_of HT_.out (by kernel_rfl)) (fun _ _ _ h=>h) (Or.inr ⟨by rfl,rfl⟩) ?_ ?_
  rotate_left;·simp only [Act.put,List.setIfInBounds_toArray,List.set_cons_zero,List.set_cons_succ,i64_w,i32_w];rfl
  refine pure_ (i:=9) (N:=some 67) (v:=undef) (a':=?_) #[true,true,true,true,true,true,true,true,true,true,false,false,false,false,false,false,false,false,false,false,false,false] rfl rfl (any_of HT_.out (by kernel_rfl)) (fun _ _ _ h=>h) (Or.inr ⟨by rfl,rfl⟩) ?_ ?_
  rotate_left;·simp only [Act.put,List.setIfInBounds_toArray,List.set_cons_zero,List.set_cons_succ,i64_w,i32_w];rfl
  refine pure_ (i:=10) (N:=some 68) (v:=undef) (a':=?_) #[true,true,true,true,true,true,true,true,true,true,true,false,false,false,false,false,false,false,false,false,false,false] rfl rfl (any_of HT_.out (by kernel_rfl)) (fun _ _ _ h=>h) (Or.inr ⟨by rfl,rfl⟩) ?_ ?_
  rotate_left;·simp only [Act.put,List.setIfInBounds_toArray,List.set_cons_zero,List.set_cons_succ,i64_w,i32_w];rfl
  refine pure_ (i:=11) (N:=some 69) (v:=undef) (a':=?_) #[true,true,true,true,true,true,true,true,true,true,true,true,false,false,false,false,false,false,false,false,false,false] rfl rfl (any_of HT_.out (by kernel_rfl)) (fun _ _ _ h=>h) (Or.inr ⟨by rfl,rfl⟩) ?_ ?_
  rotate_left;·simp only [Act.put,List.setIfInBounds_toArray,List.set_cons_zero,List.set_cons_succ,i64_w,i32_w];rfl
  refine pure_ (i:=12) (N:=some 70) (v:=undef) (a':=?_) #[true,true,true,true,true,true,true,true,true,true,true,true,true,false,false,false,false,false,false,false,false,false] rfl rfl (any_of HT_.out (by kernel_rfl)) (fun _ _ _ h=>h) (Or.inr ⟨by rfl,rfl⟩) ?_ ?_
  rotate_left;·simp only [Act.put,List.setIfInBounds_toArray,List.set_cons_zero,List.set_cons_succ,i64_w,i32_w];rfl
  refine pure_ (i:=13) (N:=some 71) (v:=undef) (a':=?_) #[true,true,true,true,true,true,true,true,true,true,true,true,true,true,false,false,false,false,false,false,false,false] rfl rfl (any_of HT_.out (by kernel_rfl)) (fun _ _ _ h=>h) (Or.inr ⟨by rfl,rfl⟩) ?_ ?_
  rotate_left;·simp only [Act.put,List.setIfInBounds_toArray,List.set_cons_zero,List.set_cons_succ,i64_w,i32_w];rfl
  refine pure_ (i:=14) (N:=some 72) (v:=undef) (a':=?_) #[true,true,true,true,true,true,true,true,true,true,true,true,true,true,true,false,false,false,false,false,false,false] rfl rfl (any_of HT_.out (by kernel_rfl)) (fun _ _ _ h=>h) (Or.inr ⟨by rfl,rfl⟩) ?_ ?_
  rotate_left;·simp only [Act.put,List.setIfInBounds_toArray,List.set_cons_zero,List.set_cons_succ,i64_w,i32_w];rfl
  refine pure_ (i:=15) (N:=some 73) (v:=undef) (a':=?_) #[true,true,true,true,true,true,true,true,true,true,true,true,true,true,true,true,false,false,false,false,false,false] rfl rfl (any_of HT_.out (by kernel_rfl)) (fun _ _ _ h=>h) (Or.inr ⟨by rfl,rfl⟩) ?_ ?_
  rotate_left;·simp only [Act.put,List.setIfInBounds_toArray,List.set_cons_zero,List.set_cons_succ,i64_w,i32_w];rfl
  refine pure_ (i:=16) (N:=some 74) (v:=undef) (a':=?_) #[true,true,true,true,true,true,true,true,true,true,true,true,true,true,true,true,true,false,false,false,false,false] rfl rfl (any_of HT_.out (by kernel_rfl)) (fun _ _ _ h=>h) (Or.inr ⟨by rfl,rfl⟩) ?_ ?_
  rotate_left;·simp only [Act.put,List.setIfInBounds_toArray,List.set_cons_zero,List.set_cons_succ,i64_w,i32_w];rfl
  refine pure_ (i:=17) (N:=some 75) (v:=undef) (a':=?_) #[true,true,true,true,true,true,true,true,true,true,true,true,true,true,true,true,true,true,false,false,false,false] rfl rfl (any_of HT_.out (by kernel_rfl)) (fun _ _ _ h=>h) (Or.inr ⟨by rfl,rfl⟩) ?_ ?_
  rotate_left;·simp only [Act.put,List.setIfInBounds_toArray,List.set_cons_zero,List.set_cons_succ,i64_w,i32_w];rfl
  refine pure_ (i:=18) (N:=some 76) (v:=undef) (a':=?_) #[true,true,true,true,true,true,true,true,true,true,true,true,true,true,true,true,true,true,true,false,false,false] rfl rfl (any_of HT_.out (by kernel_rfl)) (fun _ _ _ h=>h) (Or.inr ⟨by rfl,rfl⟩) ?_ ?_
  rotate_left;·simp only [Act.put,List.setIfInBounds_toArray,List.set_cons_zero,List.set_cons_succ,i64_w,i32_w];rfl
  refine pure_ (i:=19) (N:=some 77) (v:=undef) (a':=?_) #[true,true,true,true,true,true,true,true,true,true,true,true,true,true,true,true,true,true,true,true,false,false] rfl rfl (any_of HT_.out (by kernel_rfl)) (fun _ _ _ h=>h) (Or.inr ⟨by rfl,rfl⟩) ?_ ?_
  rotate_left;·simp only [Act.put,List.setIfInBounds_toArray,List.set_cons_zero,List.set_cons_succ,i64_w,i32_w];rfl
  refine pure_ (i:=20) (N:=some 78) (v:=undef) (a':=?_) #[true,true,true,true,true,true,true,true,true,true,true,true,true,true,true,true,true,true,true,true,true,false] rfl rfl (any_of HT_.out (by kernel_rfl)) (fun _ _ _ h=>h) (Or.inr ⟨by rfl,rfl⟩) ?_ ?_
  rotate_left;·simp only [Act.put,List.setIfInBounds_toArray,List.set_cons_zero,List.set_cons_succ,i64_w,i32_w];rfl
  refine pur (i:=21) (N:=some 79) #[true,true,true,true,true,true,true,true,true,true,true,true,true,true,true,true,true,true,true,true,true,true] ?_
  refine done_ (done_of HT_.out (by kernel_rfl)) ?_
  obtain ⟨hcz173_0,hcz173_1,hcz173_2,hfz173_0,hfz173_1,hfz173_2⟩:=cz3 BK520.out
  try go_wp2
  refine bodyPost_ret (results_ct rfl _ _ gb520 29 #[.int .i64 0,.int .i64 0,.slice none 0 0] (0,0) _ rfl bP Try.underlying29 rfl (by kernel_rfl)) rfl ?_
  exact ⟨_,rfl,by first | exact Kd.R_nil _ _ _ _ _ | exact Kd.N_nil _ _ _ _ _ | exact Kd.V_nil _ _ _ _ _ | exact Kd.Q_nil _ _ _ _ _ | exact Kd.S_nil _ _ _ _ _,bB⟩
def spec_l92Clock.f:Nat → List Int → Int → Int → Option (Int × Int × (List (S29)) × Int)
 | 0,_,_,_=>none
 | k + 1,s0_0,s0_1,a1=>if a1 = 0 then (some (0,0,([]:List (S29)),s0_1)) else ((spec_l6Rd_pick.f k s0_0 s0_1 9).bind fun bt213=>(if bt213.1 < 3 then ((spec_l91Act.f k s0_0 bt213.2).bind fun bt215=>((spec_l92Clock.f k s0_0 bt215.2 (wrap64 (a1 - 1))).bind fun bt217=>(some (1,bt215.1,(([(⟨bt217.1,bt217.2.1,bt217.2.2.1⟩:S29)]:List (S29))),bt217.2.2.2)))) else (if bt213.1 < 6 then ((spec_l6Rd_pick.f k s0_0 bt213.2 4).bind fun bt226=>((spec_l6Rd_pick.f k s0_0 bt226.2 30).bind fun bt228=>(if bt228.1 = 0 then ((some (([0,10,9]:List Int):List Int)).bind fun y230=>((spec_l6Rd_pick.f k s0_0 bt228.2 3).bind fun bt233=>(if 0 ≤ bt233.1 then (if bt233.1 < (y230.length:Int) then ((spec_l92Clock.f k s0_0 bt233.2 (wrap64 (a1 - 1))).bind fun bt236=>(some (2,rd y230 bt233.1,(([(⟨bt236.1,bt236.2.1,bt236.2.2.1⟩:S29)]:List (S29))),bt236.2.2.2))) else (none)) else (none)))) else ((spec_l92Clock.f k s0_0 bt228.2 (wrap64 (a1 - 1))).bind fun bt245=>(some (2,wrap64 (1 + bt226.1),(([(⟨bt245.1,bt245.2.1,bt245.2.2.1⟩:S29)]:List (S29))),bt245.2.2.2)))))) else (if bt213.1 = 6 then (some (0,0,([]:List (S29)),bt213.2)) else (if bt213.1 = 8 then ((spec_l92Clock.f k s0_0 bt213.2 (wrap64 (a1 - 1))).bind fun bt254=>((spec_l92Clock.f k s0_0 bt254.2.2.2 (wrap64 (a1 - 1))).bind fun bt261=>(some (4,0,(([(⟨bt254.1,bt254.2.1,bt254.2.2.1⟩:S29),(⟨bt261.1,bt261.2.1,bt261.2.2.1⟩:S29)]:List (S29))),bt261.2.2.2)))) else ((spec_l92Clock.f k s0_0 bt213.2 (wrap64 (a1 - 1))).bind fun bt270=>((spec_l92Clock.f k s0_0 bt270.2.2.2 (wrap64 (a1 - 1))).bind fun bt277=>(some (3,0,(([(⟨bt270.1,bt270.2.1,bt270.2.2.1⟩:S29),(⟨bt277.1,bt277.2.1,bt277.2.2.1⟩:S29)]:List (S29))),bt277.2.2.2)))))))))
theorem spec_l92Clock.mono_l:∀ k,(∀ y0 y1 y2,LeO (spec_l92Clock.f k y0 y1 y2) (spec_l92Clock.f (k + 1) y0 y1 y2))
 | 0=>fun _ _ _ r h=>by simp [spec_l92Clock.f] at h
 | k + 1=>by
  have ih0:=spec_l92Clock.mono_l k
  ·intro y0 y1 y2
   unfold spec_l92Clock.f
   repeat' first
   | (with_reducible exact ih0 _ _ _)
   | (with_reducible exact spec_l6Rd_pick.mono _ _ _ _)
   | (with_reducible exact spec_l91Act.mono _ _ _)
   | (with_reducible exact LeO.refl _)
   | (with_reducible exact LeO.none _)
   | (with_reducible refine LeO.ite ?_ ?_)
   | (with_reducible refine LeO.bind ?_ (fun _=>?_))
   | exact ih0 _ _ _
   | exact spec_l6Rd_pick.mono _ _ _ _
   | exact spec_l91Act.mono _ _ _
   | exact LeO.none _
   | refine LeO.ite ?_ ?_
   | refine LeO.bind ?_ (fun _=>?_)
theorem spec_l92Clock.mono:∀ a0 a1 a2 k,LeO (spec_l92Clock.f k a0 a1 a2) (spec_l92Clock.f (k + 1) a0 a1 a2):=by
 intro a0 a1 a2 k
 have ih0:=spec_l92Clock.mono_l k
 exact ih0 a0 a1 a2
def spec_l92Clock.T18:Bool × List (List Nat × List Nat):=(true,[([],[]),([],[]),([],[]),([],[]),([3],[3]),([2,4],[2,4]),([1,5],[1,5]),([0,6],[0,6]),([7,5,0,1,2,3,4,5,6,7],[7])])
def spec_l92Clock.B18:List Nat:=[0,0,0,0,8,28,62,127,255]
theorem spec_l92Clock.tab18:rtab .any (opsOf Try.f61 18) = spec_l92Clock.T18:=by kernel_rfl
theorem spec_l92Clock.bits18:waitsOk spec_l92Clock.T18.2 spec_l92Clock.B18 = true:=by kernel_rfl
set_option maxHeartbeats 8000000 in
set_option maxRecDepth 100000 in
theorem spec_l92Clock.calls (k:Nat):∀ (g:Nat) (s0_0:List Int) (s0_1:Int) (a1:Int) (r1:Int) (r2:Int) (r3:List (S29)) (r4:Int) (w0 w:World) (hI:IsS67 w0 w g s0_0 s0_1) (hB:Below w0.heap.size w0 w) (h:spec_l92Clock.f k s0_0 s0_1 a1 = some (r1,r2,r3,r4)),
  Calls Try.prog 61 #[.pointer (some ⟨g,0,none⟩),.int .i64 a1] w fun e w'=>∃ v2_:Value,e = .returned (.agg #[.int .i64 r1,.int .i64 r2,v2_])∧Kd.N k29 29 w' w.heap.size (fun k_=>(w.heap.size ≤ k_)) v2_ r3∧IsS67 w0 w' g s0_0 r4∧Below w0.heap.size w0 w'∧KeepBut w w' g none:=by
 induction k using Nat.strongRecOn with
 | _ k ih =>
 intro g s0_0 s0_1 a1 r1 r2 r3 r4 w0 w hI hB h
 cases k with
 | zero=>exact absurd h (by simp [spec_l92Clock.f])
 | succ k =>
 simp only [spec_l92Clock.f] at h
 have hu29:=Try.underlying29
 have HI0:=aQ hI
 have HK:=aQ (KeepBut.refl w g none)
 have HL:=aQ hB.size
 clear hI
 have HW0:=aQ hB.size
 have HB:=aQ hB
 clear hB
 have H:=h
 clear h
 by_cases c3:a1 = 0
 ·rw [if_pos c3] at H
  have c3b0:(a1 == 0) = true:=beq_iff_eq.mpr c3
  have c3b1:(a1 != 0) = false:=bne_eq_false_iff_eq.mpr c3
  clear c3
  simp only [Option.some.injEq,Prod.mk.injEq] at H
  obtain ⟨rfl,rfl,rfl,rfl⟩:=H
  go_enter Try.func61,Try.ntmps61
  go_wp2_with (first | ((with_reducible refine gate_dst (N:=4) rfl ?_);refine box1 (N:=4) (cs:=#[.int .i64 0,.int .i64 0,.slice none 0 0]) (t:=29) ?_;intro gb212 hg w4 hbox hb;replace HB:=aQ (below_step bB hb);have BK212:=aQ (hbox);have GW212:=aQ ((by rw [hg];exact (keep_size (w:=w) (g:=g) (row:=none) bK):w.heap.size ≤ gb212));have GE212:=aQ ((Nat.le_trans HW0.out (by rw [hg];exact (keep_size (w:=w) (g:=g) (row:=none) bK):w.heap.size ≤ gb212):w0.heap.size ≤ gb212));replace HK:=aQ (KeepBut.trans bK (KeepBut.of_below hb g none) (.inl rfl));have NB0_212:=aQ ((by rw [hg];exact Nat.ne_of_lt (IsS67.lt (show IsS67 w0 _ g s0_0 s0_1 from bI)):g ≠ gb212));have NB212_0:=aQ ((by rw [hg];exact Nat.ne_of_gt (IsS67.lt (show IsS67 w0 _ g s0_0 s0_1 from bI)):gb212 ≠ g));replace HI0:=aQ (IsS67.below bI hb);clear hb hbox hg;have hnb5:=NB212_0.out;have hnc5:=NB0_212.out;obtain ⟨hcz6_0,hcz6_1,hcz6_2,hfz6_0,hfz6_1,hfz6_2⟩:=cz3 BK212.out))
  refine bodyPost_ret (results_cell_row rfl _ _ gb212 29 #[.int .i64 0,.int .i64 0,.slice none 0 0] (0,0) _ rfl (by (with_reducible repeat (first | refine blk_drewN ?_ _ | refine blk_drew ?_ | refine blk_alloc ?_ _));refine blk_put (cs:=#[.int .i64 0,.int .i64 0,.slice none 0 0]) ?_ 2 _ rfl;(with_reducible repeat (first | refine blk_drewN ?_ _ | refine blk_drew ?_ | refine blk_alloc ?_ _));refine blk_put (cs:=#[.int .i64 0,.int .i64 0,.slice none 0 0]) ?_ 1 _ rfl;(with_reducible repeat (first | refine blk_drewN ?_ _ | refine blk_drew ?_ | refine blk_alloc ?_ _));refine blk_put (cs:=#[.int .i64 0,.int .i64 0,.slice none 0 0]) ?_ 0 _ rfl;(with_reducible repeat (first | refine blk_drewN ?_ _ | refine blk_drew ?_ | refine blk_alloc ?_ _));exact BK212.out) Try.underlying29 rfl (by kernel_rfl)) rfl ?_
  exact ⟨_,rfl,by first | exact Kd.R_nil _ _ _ _ _ | exact Kd.N_nil _ _ _ _ _ | exact Kd.V_nil _ _ _ _ _ | exact Kd.Q_nil _ _ _ _ _ | exact Kd.S_nil _ _ _ _ _,bI,bB,bK⟩
 rw [if_neg c3] at H
 have c3b0:(a1 == 0) = false:=beq_eq_false_iff_ne.mpr c3
 have c3b1:(a1 != 0) = true:=bne_iff_ne.mpr c3
 obtain ⟨⟨t213,t214⟩,A7,H⟩:=bQ H
 dsimp only at H
 by_cases c8:t213 < 3
 ·rw [if_pos c8] at H
  have c8b0:decide (t213 < 3) = true:=decide_eq_true c8
  clear c8
  obtain ⟨⟨t215,t216⟩,A9,H⟩:=bQ H
  dsimp only at H
  obtain ⟨⟨t217,t218,t219,t222⟩,A10,H⟩:=bQ H
  dsimp only at H
  obtain ⟨y223,hy223⟩:∃ y_:List (S29),y_ = (([(⟨t217,t218,t219⟩:S29)]:List (S29))):=⟨_,rfl⟩
  replace H:(some (1,t215,y223,t222)) = some (r1,r2,r3,r4):=by rw [hy223];exact H
  have Ny223:=aQ hy223
  clear hy223
  simp only [Option.some.injEq,Prod.mk.injEq] at H
  obtain ⟨rfl,rfl,rfl,rfl⟩:=H
  go_enter Try.func61,Try.ntmps61
  go_wp2_with (first | ((with_reducible refine gate_dst (N:=4) rfl ?_);refine box1 (N:=4) (cs:=#[.int .i64 0,.int .i64 0,.slice none 0 0]) (t:=29) ?_;intro gb212 hg w11 hbox hb;replace HB:=aQ (below_step bB hb);have BK212:=aQ (hbox);have GW212:=aQ ((by rw [hg];exact (keep_size (w:=w) (g:=g) (row:=none) bK):w.heap.size ≤ gb212));have GE212:=aQ ((Nat.le_trans HW0.out (by rw [hg];exact (keep_size (w:=w) (g:=g) (row:=none) bK):w.heap.size ≤ gb212):w0.heap.size ≤ gb212));replace HK:=aQ (KeepBut.trans bK (KeepBut.of_below hb g none) (.inl rfl));have NB0_212:=aQ ((by rw [hg];exact Nat.ne_of_lt (IsS67.lt (show IsS67 w0 _ g s0_0 s0_1 from bI)):g ≠ gb212));have NB212_0:=aQ ((by rw [hg];exact Nat.ne_of_gt (IsS67.lt (show IsS67 w0 _ g s0_0 s0_1 from bI)):gb212 ≠ g));replace HI0:=aQ (IsS67.below bI hb);clear hb hbox hg) | ((with_reducible refine gate_callee (f:=56) rfl ?_);refine goesL_ (some 14) rfl rfl Try.func56 (by kernel_rfl) rfl #[.pointer (some ⟨g,0,none⟩),.int .i64 9] rfl mP ?_;(with_reducible refine (spec_l6Rd_pick.calls k g s0_0 s0_1 9 t213 t214 w0 _ ?side1 ?side2 A7.out).mono ?_);(case side1=>exact bI);(case side2=>exact bB);rintro e w12 ⟨rfl,hi,hb,hk⟩;refine ⟨_,rfl,?_⟩;replace BK212:=aQ (KeepBut.blk hk (g':=gb212) (o:=.cells #[.int .i64 0,.int .i64 0,.slice none 0 0] 29 (0,0)) (nB BK212.out) NB212_0.out (by simp));replace HK:=aQ (KeepBut.trans bK hk (.inl rfl));replace HB:=aQ (hb);replace HI0:=aQ (hi);(try clear hb);(try clear hk);(try clear hi)) | ((with_reducible refine gate_callee (f:=68) rfl ?_);refine goesL_ (some 19) rfl rfl Try.func68 (by kernel_rfl) rfl #[.pointer (some ⟨g,0,none⟩)] rfl mP ?_;(with_reducible refine (spec_l91Act.calls k g s0_0 t214 t215 t216 w0 _ ?side1 ?side2 A9.out).mono ?_);(case side1=>exact bI);(case side2=>exact bB);rintro e w13 ⟨rfl,hi,hb,hk⟩;refine ⟨_,rfl,?_⟩;replace BK212:=aQ (KeepBut.blk hk (g':=gb212) (o:=.cells #[.int .i64 0,.int .i64 0,.slice none 0 0] 29 (0,0)) (nB BK212.out) NB212_0.out (by simp));replace HK:=aQ (KeepBut.trans bK hk (.inl rfl));replace HB:=aQ (hb);replace HI0:=aQ (hi);(try clear hb);(try clear hk);(try clear hi)) | ((with_reducible refine gate_callee (f:=61) rfl ?_);refine goesL_ (some 24) rfl rfl Try.func61 (by kernel_rfl) rfl #[.pointer (some ⟨g,0,none⟩),.int .i64 (wrap64 (a1 - 1))] rfl mP ?_;(with_reducible refine (ih k (by omega) g s0_0 t216 (wrap64 (a1 - 1)) t217 t218 t219 t222 w0 _ ?side1 ?side2 A10.out).mono ?_);(case side1=>exact bI);(case side2=>exact bB);rintro e w14 ⟨v220,rfl,ho0,hi,hb,hk⟩;refine ⟨_,rfl,?_⟩;have HO221:=aQ (Kd.N_lower (Kd.N_mono (ok':=fun k_=>(w.heap.size ≤ k_)∧k_ ≠ gb212∧k_ ≠ g) ho0 (fun k_ hk_=>⟨(Nat.le_trans (keep_size (w:=w) (g:=g) (row:=none) bK) hk_),(Kd.freshB (nB BK212.out) k_ hk_),(IsS67.fresh bI k_ hk_)⟩)) (keep_size (w:=w) (g:=g) (row:=none) bK));replace BK212:=aQ (KeepBut.blk hk (g':=gb212) (o:=.cells #[.int .i64 0,.int .i64 0,.slice none 0 0] 29 (0,0)) (nB BK212.out) NB212_0.out (by simp));replace HK:=aQ (KeepBut.trans bK hk (.inl rfl));replace HB:=aQ (hb);replace HI0:=aQ (hi);(try clear hb);(try clear hk);(try clear hi);(try clear ho0);obtain ⟨Ao15,co15,eo15⟩:=Kd.N_slice HO221.out;subst eo15) | ((with_reducible refine gate_dst (N:=25) rfl ?_);refine Kd.N_lit k29 _ 29 ?hg (N':=25) ?hd (xs:=([(⟨t217,t218,t219⟩:S29)]:List (S29))) (inner:=[.int .i64 t217,.int .i64 t218,.slice Ao15 t219.length co15]) (ok:=(fun k_=>(w.heap.size ≤ k_)∧k_ ≠ gb212∧k_ ≠ g)) (okp:=(fun k_=>(w.heap.size ≤ k_)∧k_ ≠ gb212∧k_ ≠ g)) ?hr ?hp (fun _ hk=>hk) ((show ∀ k_,w14.heap.size ≤ k_ → (fun k_=>(w.heap.size ≤ k_)∧k_ ≠ gb212∧k_ ≠ g) k_ from fun k_ hk=>⟨(Nat.le_trans (keep_size (w:=w) (g:=g) (row:=none) bK) hk),Kd.freshB (nB BK212.out) k_ hk,IsS67.fresh bI k_ hk⟩) _ (Nat.le_refl _)) (Below.refl _ _) (Nat.le_refl _) (by simp) ?_;(case hd=>rfl);(case hg=>rfl);(case hr=>first | (go_simp;done) | (go_simp;rfl));(case hp=>exact (Reps.c3 (show Kd.FK k29 _ _ (⟨t217,t218,t219⟩:S29) [.int .i64 t217,.int .i64 t218,.slice Ao15 t219.length co15] from (k29_mkF _ _ (⟨t217,t218,t219⟩:S29) (Kd.N_reads' (Kd.N_mono (ok':=(fun k_=>(w.heap.size ≤ k_)∧k_ ≠ gb212∧k_ ≠ g)) (HO221.out) (fun k_ hk=>⟨hk.1,⟨hk.2.1,hk.2.2⟩⟩))).2.1 (Kd.N_F (Kd.N_mono (ok':=(fun k_=>(w.heap.size ≤ k_)∧k_ ≠ gb212∧k_ ≠ g)) (HO221.out) (fun k_ hk=>⟨hk.1,⟨hk.2.1,hk.2.2⟩⟩))))) (Reps.none _ _)));intro v224 w16 ho17 hb hg_ hnew_;clear hg_ hnew_;(first | rw [← Ny223.out] at ho17 | (simp only [Int.reduceToNat] at ho17;rw [← Ny223.out] at ho17));have n0_:=aQ (Kd.N_lower ho17 (keep_size (w:=w) (g:=g) (row:=none) bK));have n1_:=aQ (IsS67.below bI hb);have n2_:=aQ (blk_below (nB BK212.out) hb);have n3_:=aQ (KeepBut.trans bK (KeepBut.of_below hb g none) (.inl rfl));have n4_:=aQ (below_step bB hb);clear HI0;clear BK212;clear HK;clear HB;clear HO221;have HO225:=n0_;have HI0:=n1_;have BK212:=n2_;have HK:=n3_;have HB:=n4_;clear n0_ n1_ n2_ n3_ n4_;clear hb ho17;obtain ⟨Ao18,co18,eo18⟩:=Kd.N_slice HO225.out;subst eo18;have hnb19:=NB212_0.out;have hnc19:=NB0_212.out;obtain ⟨hcz20_0,hcz20_1,hcz20_2,hfz20_0,hfz20_1,hfz20_2⟩:=cz3 BK212.out))
  refine bodyPost_ret (results_cell_row rfl _ _ gb212 29 #[.int .i64 1,.int .i64 t215,.slice Ao18 y223.length co18] (0,0) _ rfl (by (with_reducible repeat (first | refine blk_drewN ?_ _ | refine blk_drew ?_ | refine blk_alloc ?_ _));refine blk_put (cs:=#[.int .i64 1,.int .i64 t215,.slice none 0 0]) ?_ 2 _ rfl;(with_reducible repeat (first | refine blk_drewN ?_ _ | refine blk_drew ?_ | refine blk_alloc ?_ _));refine blk_put (cs:=#[.int .i64 1,.int .i64 0,.slice none 0 0]) ?_ 1 _ rfl;(with_reducible repeat (first | refine blk_drewN ?_ _ | refine blk_drew ?_ | refine blk_alloc ?_ _));refine blk_put (cs:=#[.int .i64 0,.int .i64 0,.slice none 0 0]) ?_ 0 _ rfl;(with_reducible repeat (first | refine blk_drewN ?_ _ | refine blk_drew ?_ | refine blk_alloc ?_ _));exact BK212.out) Try.underlying29 rfl (by kernel_rfl)) rfl ?_
  exact ⟨_,rfl,by (with_reducible repeat (first | apply Kd.N_alloc | apply Kd.N_drewN | apply Kd.N_drew));exact Kd.N_mono (nFN (g:=gb212) HO225.out (fun k_ hk=>hk.2.1)) (fun _ hk=>hk.1),bI,bB,bK⟩
 rw [if_neg c8] at H
 have c8b0:decide (t213 < 3) = false:=decide_eq_false c8
 clear c8
 by_cases c21:t213 < 6
 ·rw [if_pos c21] at H
  have c21b0:decide (t213 < 6) = true:=decide_eq_true c21
  clear c21
  obtain ⟨⟨t226,t227⟩,A22,H⟩:=bQ H
  dsimp only at H
  obtain ⟨⟨t228,t229⟩,A23,H⟩:=bQ H
  dsimp only at H
  by_cases c24:t228 = 0;rotate_left
  ·rw [if_neg c24] at H
   have c24b0:(t228 == 0) = false:=beq_eq_false_iff_ne.mpr c24
   have c24b1:(t228 != 0) = true:=bne_iff_ne.mpr c24
   obtain ⟨⟨t245,t246,t247,t250⟩,A44,H⟩:=bQ H
   dsimp only at H
   obtain ⟨y251,hy251⟩:∃ y_:List (S29),y_ = (([(⟨t245,t246,t247⟩:S29)]:List (S29))):=⟨_,rfl⟩
   replace H:(some (2,wrap64 (1 + t226),y251,t250)) = some (r1,r2,r3,r4):=by rw [hy251];exact H
   have Ny251:=aQ hy251
   clear hy251
   simp only [Option.some.injEq,Prod.mk.injEq] at H
   obtain ⟨rfl,rfl,rfl,rfl⟩:=H
   go_enter Try.func61,Try.ntmps61
   go_wp2_with (first | ((with_reducible refine gate_dst (N:=4) rfl ?_);refine box1 (N:=4) (cs:=#[.int .i64 0,.int .i64 0,.slice none 0 0]) (t:=29) ?_;intro gb212 hg w45 hbox hb;replace HB:=aQ (below_step bB hb);have BK212:=aQ (hbox);have GW212:=aQ ((by rw [hg];exact (keep_size (w:=w) (g:=g) (row:=none) bK):w.heap.size ≤ gb212));have GE212:=aQ ((Nat.le_trans HW0.out (by rw [hg];exact (keep_size (w:=w) (g:=g) (row:=none) bK):w.heap.size ≤ gb212):w0.heap.size ≤ gb212));replace HK:=aQ (KeepBut.trans bK (KeepBut.of_below hb g none) (.inl rfl));have NB0_212:=aQ ((by rw [hg];exact Nat.ne_of_lt (IsS67.lt (show IsS67 w0 _ g s0_0 s0_1 from bI)):g ≠ gb212));have NB212_0:=aQ ((by rw [hg];exact Nat.ne_of_gt (IsS67.lt (show IsS67 w0 _ g s0_0 s0_1 from bI)):gb212 ≠ g));replace HI0:=aQ (IsS67.below bI hb);clear hb hbox hg) | ((with_reducible refine gate_callee (f:=56) rfl ?_);refine goesL_ (some 14) rfl rfl Try.func56 (by kernel_rfl) rfl #[.pointer (some ⟨g,0,none⟩),.int .i64 9] rfl mP ?_;(with_reducible refine (spec_l6Rd_pick.calls k g s0_0 s0_1 9 t213 t214 w0 _ ?side1 ?side2 A7.out).mono ?_);(case side1=>exact bI);(case side2=>exact bB);rintro e w46 ⟨rfl,hi,hb,hk⟩;refine ⟨_,rfl,?_⟩;replace BK212:=aQ (KeepBut.blk hk (g':=gb212) (o:=.cells #[.int .i64 0,.int .i64 0,.slice none 0 0] 29 (0,0)) (nB BK212.out) NB212_0.out (by simp));replace HK:=aQ (KeepBut.trans bK hk (.inl rfl));replace HB:=aQ (hb);replace HI0:=aQ (hi);(try clear hb);(try clear hk);(try clear hi)) | ((with_reducible refine gate_callee (f:=56) rfl ?_);refine goesL_ (some 31) rfl rfl Try.func56 (by kernel_rfl) rfl #[.pointer (some ⟨g,0,none⟩),.int .i64 4] rfl mP ?_;(with_reducible refine (spec_l6Rd_pick.calls k g s0_0 t214 4 t226 t227 w0 _ ?side1 ?side2 A22.out).mono ?_);(case side1=>exact bI);(case side2=>exact bB);rintro e w47 ⟨rfl,hi,hb,hk⟩;refine ⟨_,rfl,?_⟩;replace BK212:=aQ (KeepBut.blk hk (g':=gb212) (o:=.cells #[.int .i64 0,.int .i64 0,.slice none 0 0] 29 (0,0)) (nB BK212.out) NB212_0.out (by simp));replace HK:=aQ (KeepBut.trans bK hk (.inl rfl));replace HB:=aQ (hb);replace HI0:=aQ (hi);(try clear hb);(try clear hk);(try clear hi)) | ((with_reducible refine gate_callee (f:=56) rfl ?_);refine goesL_ (some 34) rfl rfl Try.func56 (by kernel_rfl) rfl #[.pointer (some ⟨g,0,none⟩),.int .i64 30] rfl mP ?_;(with_reducible refine (spec_l6Rd_pick.calls k g s0_0 t227 30 t228 t229 w0 _ ?side1 ?side2 A23.out).mono ?_);(case side1=>exact bI);(case side2=>exact bB);rintro e w48 ⟨rfl,hi,hb,hk⟩;refine ⟨_,rfl,?_⟩;replace BK212:=aQ (KeepBut.blk hk (g':=gb212) (o:=.cells #[.int .i64 0,.int .i64 0,.slice none 0 0] 29 (0,0)) (nB BK212.out) NB212_0.out (by simp));replace HK:=aQ (KeepBut.trans bK hk (.inl rfl));replace HB:=aQ (hb);replace HI0:=aQ (hi);(try clear hb);(try clear hk);(try clear hi)) | ((with_reducible refine gate_callee (f:=61) rfl ?_);refine goesL_ (some 45) rfl rfl Try.func61 (by kernel_rfl) rfl #[.pointer (some ⟨g,0,none⟩),.int .i64 (wrap64 (a1 - 1))] rfl mP ?_;(with_reducible refine (ih k (by omega) g s0_0 t229 (wrap64 (a1 - 1)) t245 t246 t247 t250 w0 _ ?side1 ?side2 A44.out).mono ?_);(case side1=>exact bI);(case side2=>exact bB);rintro e w49 ⟨v248,rfl,ho0,hi,hb,hk⟩;refine ⟨_,rfl,?_⟩;have HO249:=aQ (Kd.N_lower (Kd.N_mono (ok':=fun k_=>(w.heap.size ≤ k_)∧k_ ≠ gb212∧k_ ≠ g) ho0 (fun k_ hk_=>⟨(Nat.le_trans (keep_size (w:=w) (g:=g) (row:=none) bK) hk_),(Kd.freshB (nB BK212.out) k_ hk_),(IsS67.fresh bI k_ hk_)⟩)) (keep_size (w:=w) (g:=g) (row:=none) bK));replace BK212:=aQ (KeepBut.blk hk (g':=gb212) (o:=.cells #[.int .i64 0,.int .i64 0,.slice none 0 0] 29 (0,0)) (nB BK212.out) NB212_0.out (by simp));replace HK:=aQ (KeepBut.trans bK hk (.inl rfl));replace HB:=aQ (hb);replace HI0:=aQ (hi);(try clear hb);(try clear hk);(try clear hi);(try clear ho0);obtain ⟨Ao50,co50,eo50⟩:=Kd.N_slice HO249.out;subst eo50) | ((with_reducible refine gate_dst (N:=46) rfl ?_);refine Kd.N_lit k29 _ 29 ?hg (N':=46) ?hd (xs:=([(⟨t245,t246,t247⟩:S29)]:List (S29))) (inner:=[.int .i64 t245,.int .i64 t246,.slice Ao50 t247.length co50]) (ok:=(fun k_=>(w.heap.size ≤ k_)∧k_ ≠ gb212∧k_ ≠ g)) (okp:=(fun k_=>(w.heap.size ≤ k_)∧k_ ≠ gb212∧k_ ≠ g)) ?hr ?hp (fun _ hk=>hk) ((show ∀ k_,w49.heap.size ≤ k_ → (fun k_=>(w.heap.size ≤ k_)∧k_ ≠ gb212∧k_ ≠ g) k_ from fun k_ hk=>⟨(Nat.le_trans (keep_size (w:=w) (g:=g) (row:=none) bK) hk),Kd.freshB (nB BK212.out) k_ hk,IsS67.fresh bI k_ hk⟩) _ (Nat.le_refl _)) (Below.refl _ _) (Nat.le_refl _) (by simp) ?_;(case hd=>rfl);(case hg=>rfl);(case hr=>first | (go_simp;done) | (go_simp;rfl));(case hp=>exact (Reps.c3 (show Kd.FK k29 _ _ (⟨t245,t246,t247⟩:S29) [.int .i64 t245,.int .i64 t246,.slice Ao50 t247.length co50] from (k29_mkF _ _ (⟨t245,t246,t247⟩:S29) (Kd.N_reads' (Kd.N_mono (ok':=(fun k_=>(w.heap.size ≤ k_)∧k_ ≠ gb212∧k_ ≠ g)) (HO249.out) (fun k_ hk=>⟨hk.1,⟨hk.2.1,hk.2.2⟩⟩))).2.1 (Kd.N_F (Kd.N_mono (ok':=(fun k_=>(w.heap.size ≤ k_)∧k_ ≠ gb212∧k_ ≠ g)) (HO249.out) (fun k_ hk=>⟨hk.1,⟨hk.2.1,hk.2.2⟩⟩))))) (Reps.none _ _)));intro v252 w51 ho52 hb hg_ hnew_;clear hg_ hnew_;(first | rw [← Ny251.out] at ho52 | (simp only [Int.reduceToNat] at ho52;rw [← Ny251.out] at ho52));have n0_:=aQ (Kd.N_lower ho52 (keep_size (w:=w) (g:=g) (row:=none) bK));have n1_:=aQ (IsS67.below bI hb);have n2_:=aQ (blk_below (nB BK212.out) hb);have n3_:=aQ (KeepBut.trans bK (KeepBut.of_below hb g none) (.inl rfl));have n4_:=aQ (below_step bB hb);clear HI0;clear BK212;clear HK;clear HB;clear HO249;have HO253:=n0_;have HI0:=n1_;have BK212:=n2_;have HK:=n3_;have HB:=n4_;clear n0_ n1_ n2_ n3_ n4_;clear hb ho52;obtain ⟨Ao53,co53,eo53⟩:=Kd.N_slice HO253.out;subst eo53;have hnb54:=NB212_0.out;have hnc54:=NB0_212.out;obtain ⟨hcz55_0,hcz55_1,hcz55_2,hfz55_0,hfz55_1,hfz55_2⟩:=cz3 BK212.out))
   refine bodyPost_ret (results_cell_row rfl _ _ gb212 29 #[.int .i64 2,.int .i64 (wrap64 (1 + t226)),.slice Ao53 y251.length co53] (0,0) _ rfl (by (with_reducible repeat (first | refine blk_drewN ?_ _ | refine blk_drew ?_ | refine blk_alloc ?_ _));refine blk_put (cs:=#[.int .i64 2,.int .i64 (wrap64 (1 + t226)),.slice none 0 0]) ?_ 2 _ rfl;(with_reducible repeat (first | refine blk_drewN ?_ _ | refine blk_drew ?_ | refine blk_alloc ?_ _));refine blk_put (cs:=#[.int .i64 2,.int .i64 0,.slice none 0 0]) ?_ 1 _ rfl;(with_reducible repeat (first | refine blk_drewN ?_ _ | refine blk_drew ?_ | refine blk_alloc ?_ _));refine blk_put (cs:=#[.int .i64 0,.int .i64 0,.slice none 0 0]) ?_ 0 _ rfl;(with_reducible repeat (first | refine blk_drewN ?_ _ | refine blk_drew ?_ | refine blk_alloc ?_ _));exact BK212.out) Try.underlying29 rfl (by kernel_rfl)) rfl ?_
   exact ⟨_,rfl,by (with_reducible repeat (first | apply Kd.N_alloc | apply Kd.N_drewN | apply Kd.N_drew));exact Kd.N_mono (nFN (g:=gb212) HO253.out (fun k_ hk=>hk.2.1)) (fun _ hk=>hk.1),bI,bB,bK⟩
  rw [if_pos c24] at H
  have c24b0:(t228 == 0) = true:=beq_iff_eq.mpr c24
  have c24b1:(t228 != 0) = false:=bne_eq_false_iff_eq.mpr c24
  clear c24
  obtain ⟨y230,hy230⟩:∃ y_:List Int,y_ = (([0,10,9]:List Int)):=⟨_,rfl⟩
  replace H:((spec_l6Rd_pick.f k s0_0 t229 3).bind fun bt233=>(if 0 ≤ bt233.1 then (if bt233.1 < (y230.length:Int) then ((spec_l92Clock.f k s0_0 bt233.2 (wrap64 (a1 - 1))).bind fun bt236=>(some (2,rd y230 bt233.1,(([(⟨bt236.1,bt236.2.1,bt236.2.2.1⟩:S29)]:List (S29))),bt236.2.2.2))) else (none)) else (none))) = some (r1,r2,r3,r4):=by rw [hy230];exact H
  have Ny230:=aQ hy230
  clear hy230
  obtain ⟨⟨t233,t234⟩,A25,H⟩:=bQ H
  dsimp only at H
  by_cases c26:0 ≤ t233;rotate_left
  ·rw [if_neg c26] at H
   exact absurd H (by simp)
  rw [if_pos c26] at H
  have c26b0:decide (0 ≤ t233) = true:=decide_eq_true c26
  clear c26
  by_cases c27:t233 < (y230.length:Int);rotate_left
  ·rw [if_neg c27] at H
   exact absurd H (by simp)
  rw [if_pos c27] at H
  have c27b0:decide (t233 < (y230.length:Int)) = true:=decide_eq_true c27
  clear c27
  obtain ⟨⟨t236,t237,t238,t241⟩,A28,H⟩:=bQ H
  dsimp only at H
  obtain ⟨y242,hy242⟩:∃ y_:List (S29),y_ = (([(⟨t236,t237,t238⟩:S29)]:List (S29))):=⟨_,rfl⟩
  replace H:(some (2,rd y230 t233,y242,t241)) = some (r1,r2,r3,r4):=by rw [hy242];exact H
  have Ny242:=aQ hy242
  clear hy242
  simp only [Option.some.injEq,Prod.mk.injEq] at H
  obtain ⟨rfl,rfl,rfl,rfl⟩:=H
  go_enter Try.func61,Try.ntmps61
  go_wp2_with (first | ((with_reducible refine gate_dst (N:=4) rfl ?_);refine box1 (N:=4) (cs:=#[.int .i64 0,.int .i64 0,.slice none 0 0]) (t:=29) ?_;intro gb212 hg w29 hbox hb;replace HB:=aQ (below_step bB hb);have BK212:=aQ (hbox);have GW212:=aQ ((by rw [hg];exact (keep_size (w:=w) (g:=g) (row:=none) bK):w.heap.size ≤ gb212));have GE212:=aQ ((Nat.le_trans HW0.out (by rw [hg];exact (keep_size (w:=w) (g:=g) (row:=none) bK):w.heap.size ≤ gb212):w0.heap.size ≤ gb212));replace HK:=aQ (KeepBut.trans bK (KeepBut.of_below hb g none) (.inl rfl));have NB0_212:=aQ ((by rw [hg];exact Nat.ne_of_lt (IsS67.lt (show IsS67 w0 _ g s0_0 s0_1 from bI)):g ≠ gb212));have NB212_0:=aQ ((by rw [hg];exact Nat.ne_of_gt (IsS67.lt (show IsS67 w0 _ g s0_0 s0_1 from bI)):gb212 ≠ g));replace HI0:=aQ (IsS67.below bI hb);clear hb hbox hg) | ((with_reducible refine gate_callee (f:=56) rfl ?_);refine goesL_ (some 14) rfl rfl Try.func56 (by kernel_rfl) rfl #[.pointer (some ⟨g,0,none⟩),.int .i64 9] rfl mP ?_;(with_reducible refine (spec_l6Rd_pick.calls k g s0_0 s0_1 9 t213 t214 w0 _ ?side1 ?side2 A7.out).mono ?_);(case side1=>exact bI);(case side2=>exact bB);rintro e w30 ⟨rfl,hi,hb,hk⟩;refine ⟨_,rfl,?_⟩;replace BK212:=aQ (KeepBut.blk hk (g':=gb212) (o:=.cells #[.int .i64 0,.int .i64 0,.slice none 0 0] 29 (0,0)) (nB BK212.out) NB212_0.out (by simp));replace HK:=aQ (KeepBut.trans bK hk (.inl rfl));replace HB:=aQ (hb);replace HI0:=aQ (hi);(try clear hb);(try clear hk);(try clear hi)) | ((with_reducible refine gate_callee (f:=56) rfl ?_);refine goesL_ (some 31) rfl rfl Try.func56 (by kernel_rfl) rfl #[.pointer (some ⟨g,0,none⟩),.int .i64 4] rfl mP ?_;(with_reducible refine (spec_l6Rd_pick.calls k g s0_0 t214 4 t226 t227 w0 _ ?side1 ?side2 A22.out).mono ?_);(case side1=>exact bI);(case side2=>exact bB);rintro e w31 ⟨rfl,hi,hb,hk⟩;refine ⟨_,rfl,?_⟩;replace BK212:=aQ (KeepBut.blk hk (g':=gb212) (o:=.cells #[.int .i64 0,.int .i64 0,.slice none 0 0] 29 (0,0)) (nB BK212.out) NB212_0.out (by simp));replace HK:=aQ (KeepBut.trans bK hk (.inl rfl));replace HB:=aQ (hb);replace HI0:=aQ (hi);(try clear hb);(try clear hk);(try clear hi)) | ((with_reducible refine gate_callee (f:=56) rfl ?_);refine goesL_ (some 34) rfl rfl Try.func56 (by kernel_rfl) rfl #[.pointer (some ⟨g,0,none⟩),.int .i64 30] rfl mP ?_;(with_reducible refine (spec_l6Rd_pick.calls k g s0_0 t227 30 t228 t229 w0 _ ?side1 ?side2 A23.out).mono ?_);(case side1=>exact bI);(case side2=>exact bB);rintro e w32 ⟨rfl,hi,hb,hk⟩;refine ⟨_,rfl,?_⟩;replace BK212:=aQ (KeepBut.blk hk (g':=gb212) (o:=.cells #[.int .i64 0,.int .i64 0,.slice none 0 0] 29 (0,0)) (nB BK212.out) NB212_0.out (by simp));replace HK:=aQ (KeepBut.trans bK hk (.inl rfl));replace HB:=aQ (hb);replace HI0:=aQ (hi);(try clear hb);(try clear hk);(try clear hi)) | ((with_reducible refine gate_dst (N:=36) rfl ?_);refine Kd.R_lit (Kd.int .i64) _ 3 ?hg (N:=36) ?hd (xs:=([0,10,9]:List Int)) (inner:=[.int .i64 0,.int .i64 10,.int .i64 9]) (ok:=fun _=>True) (okp:=fun _=>True) ?hr ?hp (fun _ hk=>hk) trivial (Below.refl _ _) (Nat.le_refl _) (by simp) ?_;(case hd=>rfl);(case hg=>rfl);(case hr=>first | (go_simp;done) | (go_simp;rfl));(case hp=>exact (Reps.one (show Kd.M (Kd.int .i64) _ _ _ 0 [.int .i64 0] from rfl) (Reps.one (show Kd.M (Kd.int .i64) _ _ _ 10 [.int .i64 10] from rfl) (Reps.one (show Kd.M (Kd.int .i64) _ _ _ 9 [.int .i64 9] from rfl) (Reps.none _ _)))));intro v231 w33 ho34 hb hg_ hnew_;clear hg_ hnew_;(first | rw [← Ny230.out] at ho34 | (simp only [Int.reduceToNat] at ho34;rw [← Ny230.out] at ho34));have HO232:=aQ (Kd.R_lower (Kd.R_newM (M:=fun k_=>(w.heap.size ≤ k_)) ho34 (keep_size (w:=w) (g:=g) (row:=none) bK) (fun k_ h_=>h_)) (keep_size (w:=w) (g:=g) (row:=none) bK));replace HI0:=aQ (IsS67.below bI hb);replace BK212:=aQ (blk_below (nB BK212.out) hb);replace HK:=aQ (KeepBut.trans bK (KeepBut.of_below hb g none) (.inl rfl));replace HB:=aQ (below_step bB hb);clear hb ho34) | ((with_reducible refine gate_callee (f:=56) rfl ?_);refine goesL_ (some 38) rfl rfl Try.func56 (by kernel_rfl) rfl #[.pointer (some ⟨g,0,none⟩),.int .i64 3] rfl mP ?_;(with_reducible refine (spec_l6Rd_pick.calls k g s0_0 t229 3 t233 t234 w0 _ ?side1 ?side2 A25.out).mono ?_);(case side1=>exact bI);(case side2=>exact bB);rintro e w35 ⟨rfl,hi,hb,hk⟩;refine ⟨_,rfl,?_⟩;replace BK212:=aQ (KeepBut.blk hk (g':=gb212) (o:=.cells #[.int .i64 0,.int .i64 0,.slice none 0 0] 29 (0,0)) (nB BK212.out) NB212_0.out (by simp));replace HO232:=aQ (Kd.R_mono (Kd.R_keep (IsS67.apart (show IsS67 w0 _ g s0_0 t229 from bI) (nR HO232.out) (by decide)) hk (fun _ h=>h.2)) (fun _ h=>h.1));replace HK:=aQ (KeepBut.trans bK hk (.inl rfl));replace HB:=aQ (hb);replace HI0:=aQ (hi);(try clear hb);(try clear hk);(try clear hi);obtain ⟨Ao36,co36,eo36⟩:=Kd.R_slice HO232.out;subst eo36;have p235:0 ≤ (t233:Int):=of_decide_eq_true (by first | (with_reducible assumption) | assumption);have q235:t233 < (y230.length:Int):=of_decide_eq_true (by first | (with_reducible assumption) | assumption);obtain ⟨ad235,e235,hx235_0⟩:=Kd.at_int (Kd.R_reads' HO232.out).2.2 t233 p235 q235;cases e235;replace p235:=eq_true p235;replace q235:=eq_true q235) | ((with_reducible refine gate_callee (f:=61) rfl ?_);refine goesL_ (some 45) rfl rfl Try.func61 (by kernel_rfl) rfl #[.pointer (some ⟨g,0,none⟩),.int .i64 (wrap64 (a1 - 1))] rfl mP ?_;(with_reducible refine (ih k (by omega) g s0_0 t234 (wrap64 (a1 - 1)) t236 t237 t238 t241 w0 _ ?side1 ?side2 A28.out).mono ?_);(case side1=>exact bI);(case side2=>exact bB);rintro e w37 ⟨v239,rfl,ho0,hi,hb,hk⟩;refine ⟨_,rfl,?_⟩;have HO240:=aQ (Kd.N_lower (Kd.N_mono (ok':=fun k_=>(w.heap.size ≤ k_)∧some k_ ≠ (.slice (some ad235) y230.length co36:Value).ownBlock∧k_ ≠ gb212∧k_ ≠ g) ho0 (fun k_ hk_=>⟨(Nat.le_trans (keep_size (w:=w) (g:=g) (row:=none) bK) hk_),(Kd.fresh' (Kd.R_lt (nR HO232.out)) k_ hk_),(Kd.freshB (nB BK212.out) k_ hk_),(IsS67.fresh bI k_ hk_)⟩)) (keep_size (w:=w) (g:=g) (row:=none) bK));replace BK212:=aQ (KeepBut.blk hk (g':=gb212) (o:=.cells #[.int .i64 0,.int .i64 0,.slice none 0 0] 29 (0,0)) (nB BK212.out) NB212_0.out (by simp));replace HO232:=aQ (Kd.R_mono (Kd.R_keep (IsS67.apart (show IsS67 w0 _ g s0_0 t234 from bI) (nR HO232.out) (by decide)) hk (fun _ h=>h.2)) (fun _ h=>h.1));replace HK:=aQ (KeepBut.trans bK hk (.inl rfl));replace HB:=aQ (hb);replace HI0:=aQ (hi);(try clear hb);(try clear hk);(try clear hi);(try clear ho0);obtain ⟨Ao38,co38,eo38⟩:=Kd.N_slice HO240.out;subst eo38) | ((with_reducible refine gate_dst (N:=46) rfl ?_);refine Kd.N_lit k29 _ 29 ?hg (N':=46) ?hd (xs:=([(⟨t236,t237,t238⟩:S29)]:List (S29))) (inner:=[.int .i64 t236,.int .i64 t237,.slice Ao38 t238.length co38]) (ok:=(fun k_=>(w.heap.size ≤ k_)∧some k_ ≠ (.slice (some ad235) y230.length co36:Value).ownBlock∧k_ ≠ gb212∧k_ ≠ g)) (okp:=(fun k_=>(w.heap.size ≤ k_)∧some k_ ≠ (.slice (some ad235) y230.length co36:Value).ownBlock∧k_ ≠ gb212∧k_ ≠ g)) ?hr ?hp (fun _ hk=>hk) ((show ∀ k_,w37.heap.size ≤ k_ → (fun k_=>(w.heap.size ≤ k_)∧some k_ ≠ (.slice (some ad235) y230.length co36:Value).ownBlock∧k_ ≠ gb212∧k_ ≠ g) k_ from fun k_ hk=>⟨(Nat.le_trans (keep_size (w:=w) (g:=g) (row:=none) bK) hk),Kd.fresh' (Kd.R_lt (nR HO232.out)) k_ hk,Kd.freshB (nB BK212.out) k_ hk,IsS67.fresh bI k_ hk⟩) _ (Nat.le_refl _)) (Below.refl _ _) (Nat.le_refl _) (by simp) ?_;(case hd=>rfl);(case hg=>rfl);(case hr=>first | (go_simp;done) | (go_simp;rfl));(case hp=>exact (Reps.c3 (show Kd.FK k29 _ _ (⟨t236,t237,t238⟩:S29) [.int .i64 t236,.int .i64 t237,.slice Ao38 t238.length co38] from (k29_mkF _ _ (⟨t236,t237,t238⟩:S29) (Kd.N_reads' (Kd.N_mono (ok':=(fun k_=>(w.heap.size ≤ k_)∧some k_ ≠ (.slice (some ad235) y230.length co36:Value).ownBlock∧k_ ≠ gb212∧k_ ≠ g)) (HO240.out) (fun k_ hk=>⟨hk.1,⟨hk.2.1,⟨hk.2.2.1,hk.2.2.2⟩⟩⟩))).2.1 (Kd.N_F (Kd.N_mono (ok':=(fun k_=>(w.heap.size ≤ k_)∧some k_ ≠ (.slice (some ad235) y230.length co36:Value).ownBlock∧k_ ≠ gb212∧k_ ≠ g)) (HO240.out) (fun k_ hk=>⟨hk.1,⟨hk.2.1,⟨hk.2.2.1,hk.2.2.2⟩⟩⟩))))) (Reps.none _ _)));intro v243 w39 ho40 hb hg_ hnew_;clear hg_ hnew_;(first | rw [← Ny242.out] at ho40 | (simp only [Int.reduceToNat] at ho40;rw [← Ny242.out] at ho40));have n0_:=aQ (Kd.R_below (nR HO232.out) hb);have n1_:=aQ (Kd.N_lower ho40 (keep_size (w:=w) (g:=g) (row:=none) bK));have n2_:=aQ (IsS67.below bI hb);have n3_:=aQ (blk_below (nB BK212.out) hb);have n4_:=aQ (KeepBut.trans bK (KeepBut.of_below hb g none) (.inl rfl));have n5_:=aQ (below_step bB hb);clear HO232;clear HI0;clear BK212;clear HK;clear HB;clear HO240;have HO232:=n0_;have HO244:=n1_;have HI0:=n2_;have BK212:=n3_;have HK:=n4_;have HB:=n5_;clear n0_ n1_ n2_ n3_ n4_ n5_;clear hb ho40;obtain ⟨Ao41,co41,eo41⟩:=Kd.N_slice HO244.out;subst eo41;have hnb42:=NB212_0.out;have hnc42:=NB0_212.out;obtain ⟨hcz43_0,hcz43_1,hcz43_2,hfz43_0,hfz43_1,hfz43_2⟩:=cz3 BK212.out))
  refine bodyPost_ret (results_cell_row rfl _ _ gb212 29 #[.int .i64 2,.int .i64 (rd y230 t233),.slice Ao41 y242.length co41] (0,0) _ rfl (by (with_reducible repeat (first | refine blk_drewN ?_ _ | refine blk_drew ?_ | refine blk_alloc ?_ _));refine blk_put (cs:=#[.int .i64 2,.int .i64 (rd y230 t233),.slice none 0 0]) ?_ 2 _ rfl;(with_reducible repeat (first | refine blk_drewN ?_ _ | refine blk_drew ?_ | refine blk_alloc ?_ _));refine blk_put (cs:=#[.int .i64 2,.int .i64 0,.slice none 0 0]) ?_ 1 _ rfl;(with_reducible repeat (first | refine blk_drewN ?_ _ | refine blk_drew ?_ | refine blk_alloc ?_ _));refine blk_put (cs:=#[.int .i64 0,.int .i64 0,.slice none 0 0]) ?_ 0 _ rfl;(with_reducible repeat (first | refine blk_drewN ?_ _ | refine blk_drew ?_ | refine blk_alloc ?_ _));exact BK212.out) Try.underlying29 rfl (by kernel_rfl)) rfl ?_
  exact ⟨_,rfl,by (with_reducible repeat (first | apply Kd.N_alloc | apply Kd.N_drewN | apply Kd.N_drew));exact Kd.N_mono (nFN (g:=gb212) HO244.out (fun k_ hk=>hk.2.2.1)) (fun _ hk=>hk.1),bI,bB,bK⟩
 rw [if_neg c21] at H
 have c21b0:decide (t213 < 6) = false:=decide_eq_false c21
 clear c21
 by_cases c56:t213 = 6
 ·rw [if_pos c56] at H
  have c56b0:(t213 == 6) = true:=beq_iff_eq.mpr c56
  have c56b1:(t213 != 6) = false:=bne_eq_false_iff_eq.mpr c56
  clear c56
  simp only [Option.some.injEq,Prod.mk.injEq] at H
  obtain ⟨rfl,rfl,rfl,rfl⟩:=H
  go_enter Try.func61,Try.ntmps61
  go_wp2_with (first | ((with_reducible refine gate_dst (N:=4) rfl ?_);refine box1 (N:=4) (cs:=#[.int .i64 0,.int .i64 0,.slice none 0 0]) (t:=29) ?_;intro gb212 hg w57 hbox hb;replace HB:=aQ (below_step bB hb);have BK212:=aQ (hbox);have GW212:=aQ ((by rw [hg];exact (keep_size (w:=w) (g:=g) (row:=none) bK):w.heap.size ≤ gb212));have GE212:=aQ ((Nat.le_trans HW0.out (by rw [hg];exact (keep_size (w:=w) (g:=g) (row:=none) bK):w.heap.size ≤ gb212):w0.heap.size ≤ gb212));replace HK:=aQ (KeepBut.trans bK (KeepBut.of_below hb g none) (.inl rfl));have NB0_212:=aQ ((by rw [hg];exact Nat.ne_of_lt (IsS67.lt (show IsS67 w0 _ g s0_0 s0_1 from bI)):g ≠ gb212));have NB212_0:=aQ ((by rw [hg];exact Nat.ne_of_gt (IsS67.lt (show IsS67 w0 _ g s0_0 s0_1 from bI)):gb212 ≠ g));replace HI0:=aQ (IsS67.below bI hb);clear hb hbox hg) | ((with_reducible refine gate_callee (f:=56) rfl ?_);refine goesL_ (some 14) rfl rfl Try.func56 (by kernel_rfl) rfl #[.pointer (some ⟨g,0,none⟩),.int .i64 9] rfl mP ?_;(with_reducible refine (spec_l6Rd_pick.calls k g s0_0 s0_1 9 t213 t214 w0 _ ?side1 ?side2 A7.out).mono ?_);(case side1=>exact bI);(case side2=>exact bB);rintro e w58 ⟨rfl,hi,hb,hk⟩;refine ⟨_,rfl,?_⟩;replace BK212:=aQ (KeepBut.blk hk (g':=gb212) (o:=.cells #[.int .i64 0,.int .i64 0,.slice none 0 0] 29 (0,0)) (nB BK212.out) NB212_0.out (by simp));replace HK:=aQ (KeepBut.trans bK hk (.inl rfl));replace HB:=aQ (hb);replace HI0:=aQ (hi);(try clear hb);(try clear hk);(try clear hi);have hnb59:=NB212_0.out;have hnc59:=NB0_212.out;obtain ⟨hcz60_0,hcz60_1,hcz60_2,hfz60_0,hfz60_1,hfz60_2⟩:=cz3 BK212.out))
  refine bodyPost_ret (results_cell_row rfl _ _ gb212 29 #[.int .i64 0,.int .i64 0,.slice none 0 0] (0,0) _ rfl (by (with_reducible repeat (first | refine blk_drewN ?_ _ | refine blk_drew ?_ | refine blk_alloc ?_ _));refine blk_put (cs:=#[.int .i64 0,.int .i64 0,.slice none 0 0]) ?_ 2 _ rfl;(with_reducible repeat (first | refine blk_drewN ?_ _ | refine blk_drew ?_ | refine blk_alloc ?_ _));refine blk_put (cs:=#[.int .i64 0,.int .i64 0,.slice none 0 0]) ?_ 1 _ rfl;(with_reducible repeat (first | refine blk_drewN ?_ _ | refine blk_drew ?_ | refine blk_alloc ?_ _));refine blk_put (cs:=#[.int .i64 0,.int .i64 0,.slice none 0 0]) ?_ 0 _ rfl;(with_reducible repeat (first | refine blk_drewN ?_ _ | refine blk_drew ?_ | refine blk_alloc ?_ _));exact BK212.out) Try.underlying29 rfl (by kernel_rfl)) rfl ?_
  exact ⟨_,rfl,by first | exact Kd.R_nil _ _ _ _ _ | exact Kd.N_nil _ _ _ _ _ | exact Kd.V_nil _ _ _ _ _ | exact Kd.Q_nil _ _ _ _ _ | exact Kd.S_nil _ _ _ _ _,bI,bB,bK⟩
 rw [if_neg c56] at H
 have c56b0:(t213 == 6) = false:=beq_eq_false_iff_ne.mpr c56
 have c56b1:(t213 != 6) = true:=bne_iff_ne.mpr c56
 by_cases c61:t213 = 8;rotate_left
 ·rw [if_neg c61] at H
  have c61b0:(t213 == 8) = false:=beq_eq_false_iff_ne.mpr c61
  have c61b1:(t213 != 8) = true:=bne_iff_ne.mpr c61
  obtain ⟨⟨t270,t271,t272,t275⟩,A82,H⟩:=bQ H
  dsimp only at H
  obtain ⟨⟨t277,t278,t279,t282⟩,A83,H⟩:=bQ H
  dsimp only at H
  obtain ⟨y283,hy283⟩:∃ y_:List (S29),y_ = (([(⟨t270,t271,t272⟩:S29),(⟨t277,t278,t279⟩:S29)]:List (S29))):=⟨_,rfl⟩
  replace H:(some (3,0,y283,t282)) = some (r1,r2,r3,r4):=by rw [hy283];exact H
  have Ny283:=aQ hy283
  clear hy283
  simp only [Option.some.injEq,Prod.mk.injEq] at H
  obtain ⟨rfl,rfl,rfl,rfl⟩:=H
  go_enter Try.func61,Try.ntmps61
  try go_wp2_with (first | ((with_reducible refine gate_dst (N:=4) rfl ?_);refine box1 (N:=4) (cs:=#[.int .i64 0,.int .i64 0,.slice none 0 0]) (t:=29) ?_;intro gb212 hg w84 hbox hb;replace HB:=aQ (below_step bB hb);have BK212:=aQ (hbox);have GW212:=aQ ((by rw [hg];exact (keep_size (w:=w) (g:=g) (row:=none) bK):w.heap.size ≤ gb212));have GE212:=aQ ((Nat.le_trans HW0.out (by rw [hg];exact (keep_size (w:=w) (g:=g) (row:=none) bK):w.heap.size ≤ gb212):w0.heap.size ≤ gb212));replace HK:=aQ (KeepBut.trans bK (KeepBut.of_below hb g none) (.inl rfl));have NB0_212:=aQ ((by rw [hg];exact Nat.ne_of_lt (IsS67.lt (show IsS67 w0 _ g s0_0 s0_1 from bI)):g ≠ gb212));have NB212_0:=aQ ((by rw [hg];exact Nat.ne_of_gt (IsS67.lt (show IsS67 w0 _ g s0_0 s0_1 from bI)):gb212 ≠ g));replace HI0:=aQ (IsS67.below bI hb);clear hb hbox hg) | ((with_reducible refine gate_callee (f:=56) rfl ?_);refine goesL_ (some 14) rfl rfl Try.func56 (by kernel_rfl) rfl #[.pointer (some ⟨g,0,none⟩),.int .i64 9] rfl mP ?_;(with_reducible refine (spec_l6Rd_pick.calls k g s0_0 s0_1 9 t213 t214 w0 _ ?side1 ?side2 A7.out).mono ?_);(case side1=>exact bI);(case side2=>exact bB);rintro e w85 ⟨rfl,hi,hb,hk⟩;refine ⟨_,rfl,?_⟩;replace BK212:=aQ (KeepBut.blk hk (g':=gb212) (o:=.cells #[.int .i64 0,.int .i64 0,.slice none 0 0] 29 (0,0)) (nB BK212.out) NB212_0.out (by simp));replace HK:=aQ (KeepBut.trans bK hk (.inl rfl));replace HB:=aQ (hb);replace HI0:=aQ (hi);(try clear hb);(try clear hk);(try clear hi)) | ((with_reducible refine gate_callee (f:=61) rfl ?_);refine goesL_ (some 57) rfl rfl Try.func61 (by kernel_rfl) rfl #[.pointer (some ⟨g,0,none⟩),.int .i64 (wrap64 (a1 - 1))] rfl mP ?_;(with_reducible refine (ih k (by omega) g s0_0 t214 (wrap64 (a1 - 1)) t270 t271 t272 t275 w0 _ ?side1 ?side2 A82.out).mono ?_);(case side1=>exact bI);(case side2=>exact bB);rintro e w86 ⟨v273,rfl,ho0,hi,hb,hk⟩;refine ⟨_,rfl,?_⟩;have HO274:=aQ (Kd.N_lower (Kd.N_mono (ok':=fun k_=>(w.heap.size ≤ k_)∧k_ ≠ gb212∧k_ ≠ g) ho0 (fun k_ hk_=>⟨(Nat.le_trans (keep_size (w:=w) (g:=g) (row:=none) bK) hk_),(Kd.freshB (nB BK212.out) k_ hk_),(IsS67.fresh bI k_ hk_)⟩)) (keep_size (w:=w) (g:=g) (row:=none) bK));replace BK212:=aQ (KeepBut.blk hk (g':=gb212) (o:=.cells #[.int .i64 0,.int .i64 0,.slice none 0 0] 29 (0,0)) (nB BK212.out) NB212_0.out (by simp));replace HK:=aQ (KeepBut.trans bK hk (.inl rfl));replace HB:=aQ (hb);replace HI0:=aQ (hi);(try clear hb);(try clear hk);(try clear hi);(try clear ho0)) | ((with_reducible refine gate_dst (N:=9) rfl ?_);refine box1 (N:=9) (cs:=#[.int .i64 0,.int .i64 0,.slice none 0 0]) (t:=29) ?_;intro gb276 hg w87 hbox hb;replace HO274:=aQ (Kd.N_below (Kd.N_elderB (nN HO274.out) gb276 (Nat.le_of_eq hg.symm)) hb);replace HB:=aQ (below_step bB hb);have BK276:=aQ (hbox);have GW276:=aQ ((by rw [hg];exact (keep_size (w:=w) (g:=g) (row:=none) bK):w.heap.size ≤ gb276));have GE276:=aQ ((Nat.le_trans HW0.out (by rw [hg];exact (keep_size (w:=w) (g:=g) (row:=none) bK):w.heap.size ≤ gb276):w0.heap.size ≤ gb276));replace HK:=aQ (KeepBut.trans bK (KeepBut.of_below hb g none) (.inl rfl));have NB212_276:=aQ ((by rw [hg];exact Nat.ne_of_lt (blk_lt (nB BK212.out)):gb212 ≠ gb276));have NB276_212:=aQ NB212_276.out.symm;replace BK212:=aQ (blk_below (nB BK212.out) hb);have NB0_276:=aQ ((by rw [hg];exact Nat.ne_of_lt (IsS67.lt (show IsS67 w0 _ g s0_0 t275 from bI)):g ≠ gb276));have NB276_0:=aQ ((by rw [hg];exact Nat.ne_of_gt (IsS67.lt (show IsS67 w0 _ g s0_0 t275 from bI)):gb276 ≠ g));replace HI0:=aQ (IsS67.below bI hb);clear hb hbox hg;have hnb88:=NB276_212.out;have hnc88:=NB212_276.out;have hnb89:=NB276_0.out;have hnc89:=NB0_276.out;obtain ⟨hcz90_0,hcz90_1,hcz90_2,hfz90_0,hfz90_1,hfz90_2⟩:=cz3 BK276.out;obtain ⟨Ao91,co91,eo91⟩:=Kd.N_slice HO274.out;subst eo91))
  have n0_:Aside0 (Kd.N k29 29 (((w87.setCell ⟨gb276,0,none⟩ (.int .i64 t270)).setCell ⟨gb276,1,none⟩ (.int .i64 t271)).setCell ⟨gb276,2,none⟩ (.slice Ao91 t272.length co91)) w.heap.size (fun k_=>(w.heap.size ≤ k_)∧k_ ≠ gb212∧k_ ≠ g∧k_ ≠ gb276) (.slice Ao91 t272.length co91) t272):=⟨Kd.N_mono (nFN (g:=gb276) HO274.out (fun k_ hk=>hk.2)) (fun _ hk=>⟨hk.1.1,⟨hk.1.2.1,⟨hk.1.2.2,hk.2⟩⟩⟩)⟩
  have n1_:Aside0 ((((w87.setCell ⟨gb276,0,none⟩ (.int .i64 t270)).setCell ⟨gb276,1,none⟩ (.int .i64 t271)).setCell ⟨gb276,2,none⟩ (.slice Ao91 t272.length co91)).heap[gb212]? = some (.cells #[.int .i64 0,.int .i64 0,.slice none 0 0] 29 (0,0))):=⟨bF⟩
  have n2_:Aside0 ((((w87.setCell ⟨gb276,0,none⟩ (.int .i64 t270)).setCell ⟨gb276,1,none⟩ (.int .i64 t271)).setCell ⟨gb276,2,none⟩ (.slice Ao91 t272.length co91)).heap[gb276]? = some (.cells #[.int .i64 t270,.int .i64 t271,.slice Ao91 t272.length co91] 29 (0,0))):=⟨by (with_reducible repeat (first | refine blk_drewN ?_ _ | refine blk_drew ?_ | refine blk_alloc ?_ _));refine blk_put (cs:=#[.int .i64 t270,.int .i64 t271,.slice none 0 0]) ?_ 2 _ rfl;(with_reducible repeat (first | refine blk_drewN ?_ _ | refine blk_drew ?_ | refine blk_alloc ?_ _));refine blk_put (cs:=#[.int .i64 t270,.int .i64 0,.slice none 0 0]) ?_ 1 _ rfl;(with_reducible repeat (first | refine blk_drewN ?_ _ | refine blk_drew ?_ | refine blk_alloc ?_ _));refine blk_put (cs:=#[.int .i64 0,.int .i64 0,.slice none 0 0]) ?_ 0 _ rfl;(with_reducible repeat (first | refine blk_drewN ?_ _ | refine blk_drew ?_ | refine blk_alloc ?_ _));exact BK276.out⟩
  have n3_:Aside0 (IsS67 w0 (((w87.setCell ⟨gb276,0,none⟩ (.int .i64 t270)).setCell ⟨gb276,1,none⟩ (.int .i64 t271)).setCell ⟨gb276,2,none⟩ (.slice Ao91 t272.length co91)) g s0_0 t275):=⟨bI⟩
  have n4_:Aside0 (KeepBut w (((w87.setCell ⟨gb276,0,none⟩ (.int .i64 t270)).setCell ⟨gb276,1,none⟩ (.int .i64 t271)).setCell ⟨gb276,2,none⟩ (.slice Ao91 t272.length co91)) g none):=⟨bK⟩
  have n5_:Aside0 (Below w0.heap.size w0 (((w87.setCell ⟨gb276,0,none⟩ (.int .i64 t270)).setCell ⟨gb276,1,none⟩ (.int .i64 t271)).setCell ⟨gb276,2,none⟩ (.slice Ao91 t272.length co91))):=⟨bB⟩
  (try clear HO274)
  (try clear BK212)
  (try clear BK276)
  (try clear HI0)
  (try clear HK)
  (try clear HB)
  generalize (((w87.setCell ⟨gb276,0,none⟩ (.int .i64 t270)).setCell ⟨gb276,1,none⟩ (.int .i64 t271)).setCell ⟨gb276,2,none⟩ (.slice Ao91 t272.length co91)) = w92 at n0_ n1_ n2_ n3_ n4_ n5_ ⊢
  have HO274:=n0_
  have BK212:=n1_
  have BK276:=n2_
  have HI0:=n3_
  have HK:=n4_
  have HB:=n5_
  clear n0_ n1_ n2_ n3_ n4_ n5_
  replace HO274:=aQ (Kd.N_drew HO274.out)
  replace BK212:=aQ (blk_drew BK212.out)
  replace BK276:=aQ (blk_drew BK276.out)
  replace HI0:=aQ (IsS67.drew HI0.out)
  replace HK:=aQ (keep_drew HK.out)
  replace HB:=aQ (below_drew1 HB.out)
  refine start_ (n:=9) (S:=fun w'=>w'.cell? ⟨gb276,0,none⟩ = some (.int .i64 t270)∧w'.cell? ⟨gb276,1,none⟩ = some (.int .i64 t271)∧w'.cell? ⟨gb276,2,none⟩ = some (.slice Ao91 t272.length co91)) (ds:=[]) #[false,false,false,false,false,false,false,false,false] (by kernel_rfl) rfl rfl ⟨(blk_cell BK276.out 0).trans rfl,(blk_cell BK276.out 1).trans rfl,(blk_cell BK276.out 2).trans rfl⟩ (fun hHeld=>?_);refine with_tabW spec_l92Clock.tab18 spec_l92Clock.bits18 (fun HT_ HW_=>?_)
  generalize w92.drew = w93 at HO274 BK212 BK276 HI0 HK HB hHeld ⊢
  refine pur (i:=0) (N:=some 58) #[true,false,false,false,false,false,false,false,false] ?_
  refine pur (i:=2) (N:=some 60) #[true,false,true,false,false,false,false,false,false] ?_
  refine pur (i:=3) (N:=some 61) #[true,false,true,true,false,false,false,false,false] ?_
  refine pur (i:=4) (N:=some 62) #[true,false,true,true,true,false,false,false,false] ?_
  refine tak (i:=1) (N:=some 59) #[true,true,true,true,true,false,false,false,false] ?_
  refine one_ (i:=5) (N:=some 63) #[true,true,true,true,true,true,false,false,false] rfl rfl (one_of HT_.out (by kernel_rfl)) (by decide) (fun K hK=>?_)
  refine goes1 Try.func61 #[.pointer (some ⟨g,0,none⟩),.int .i64 (wrap64 (a1 - 1))] ?_
  with_reducible refine (ih k (by omega) g s0_0 t275 (wrap64 (a1 - 1)) t277 t278 t279 t282 w0 _ ?side1 ?side2 A83.out).mono ?_
  (case side1=>exact bI)
  (case side2=>exact bB)
  rintro e w94 ⟨v280,rfl,ho0,hi,hb,hk⟩
  refine ⟨_,rfl,?_⟩
  have HO281:=aQ (Kd.N_lower (Kd.N_mono (ok':=fun k_=>(w.heap.size ≤ k_)∧some k_ ≠ (.slice Ao91 t272.length co91:Value).ownBlock∧k_ ≠ gb212∧k_ ≠ gb276∧k_ ≠ g) ho0 (fun k_ hk_=>⟨(Nat.le_trans (keep_size (w:=w) (g:=g) (row:=none) bK) hk_),(Kd.fresh' (Kd.N_lt (nN HO274.out)) k_ hk_),(Kd.freshB (nB BK212.out) k_ hk_),(Kd.freshB (nB BK276.out) k_ hk_),(IsS67.fresh bI k_ hk_)⟩)) (keep_size (w:=w) (g:=g) (row:=none) bK))
  replace BK212:=aQ (KeepBut.blk hk (g':=gb212) (o:=.cells #[.int .i64 0,.int .i64 0,.slice none 0 0] 29 (0,0)) (nB BK212.out) NB212_0.out (by simp))
  replace HO274:=aQ (Kd.N_mono (Kd.N_told (Kd.N_oldK (Kd.N_mono (ok:=fun k_=>(((w.heap.size ≤ k_))∧(k_ ≠ gb212∧(k_ ≠ g∧k_ ≠ gb276)))) (nN HO274.out) (fun k_ hk_=>(⟨hk_,hk_.2.2.1⟩:_∧k_ ≠ g))) hk) (Kd.N_base ho0)) (fun _ h_=>h_.1))
  replace BK276:=aQ (KeepBut.blk hk (g':=gb276) (o:=.cells #[.int .i64 t270,.int .i64 t271,.slice Ao91 t272.length co91] 29 (0,0)) (nB BK276.out) NB276_0.out (by simp))
  replace HK:=aQ (KeepBut.trans bK hk (.inl rfl))
  replace HB:=aQ (hb)
  replace HI0:=aQ (hi)
  (try clear hb)
  (try clear hk)
  (try clear hi)
  (try clear ho0)
  obtain ⟨Ao95,co95,eo95⟩:=Kd.N_slice HO281.out
  (first | subst eo95 | (injection eo95 with f1_ f2_ f3_;have f4_:=f1_.symm;have f5_:=f3_.symm;clear f1_ f2_ f3_;subst f4_;subst f5_))
  refine hK.out _ _ ⟨(blk_cell BK276.out 0).trans rfl,(blk_cell BK276.out 1).trans rfl,(blk_cell BK276.out 2).trans rfl⟩ (fun hHeld=>?_)
  clear hK K
  refine nrm (N:=some 63) ?_
  refine one_ (i:=6) (N:=some 64) #[true,true,true,true,true,true,true,false,false] rfl rfl (one_of HT_.out (by kernel_rfl)) (by decide) (fun K hK=>?_)
  refine Kd.N_lit_step k29 _ 29 ?hg (N':=64) ?hd (xs:=([(⟨t270,t271,t272⟩:S29),(⟨t277,t278,t279⟩:S29)]:List (S29))) (inner:=[.int .i64 t270,.int .i64 t271,.slice Ao91 t272.length co91,.int .i64 t277,.int .i64 t278,.slice Ao95 t279.length co95]) (ok:=(fun k_=>(w.heap.size ≤ k_)∧k_ ≠ gb212∧k_ ≠ gb276∧k_ ≠ g)) (okp:=(fun k_=>(w.heap.size ≤ k_)∧k_ ≠ gb212∧k_ ≠ gb276∧k_ ≠ g)) ?hr ?hp (fun _ hk=>hk) ((show ∀ k_,w94.heap.size ≤ k_ → (fun k_=>(w.heap.size ≤ k_)∧k_ ≠ gb212∧k_ ≠ gb276∧k_ ≠ g) k_ from fun k_ hk=>⟨(Nat.le_trans (keep_size (w:=w) (g:=g) (row:=none) bK) hk),Kd.freshB (nB BK212.out) k_ hk,Kd.freshB (nB BK276.out) k_ hk,IsS67.fresh bI k_ hk⟩) _ (Nat.le_refl _)) (Below.refl _ _) (Nat.le_refl _) (by simp) ?_;(case hd=>rfl);(case hg=>rfl);(case hr=>first | (go_simp;done) | (go_simp;rfl));(case hp=>exact (Reps.c3 (show Kd.FK k29 _ _ (⟨t270,t271,t272⟩:S29) [.int .i64 t270,.int .i64 t271,.slice Ao91 t272.length co91] from (k29_mkF _ _ (⟨t270,t271,t272⟩:S29) (Kd.N_reads' (Kd.N_mono (ok':=(fun k_=>(w.heap.size ≤ k_)∧k_ ≠ gb212∧k_ ≠ gb276∧k_ ≠ g)) (HO274.out) (fun k_ hk=>⟨hk.1.1,⟨hk.1.2.1,⟨hk.1.2.2.2,hk.1.2.2.1⟩⟩⟩))).2.1 (Kd.N_F (Kd.N_mono (ok':=(fun k_=>(w.heap.size ≤ k_)∧k_ ≠ gb212∧k_ ≠ gb276∧k_ ≠ g)) (HO274.out) (fun k_ hk=>⟨hk.1.1,⟨hk.1.2.1,⟨hk.1.2.2.2,hk.1.2.2.1⟩⟩⟩))))) (Reps.c3 (show Kd.FK k29 _ _ (⟨t277,t278,t279⟩:S29) [.int .i64 t277,.int .i64 t278,.slice Ao95 t279.length co95] from (k29_mkF _ _ (⟨t277,t278,t279⟩:S29) (Kd.N_reads' (Kd.N_mono (ok':=(fun k_=>(w.heap.size ≤ k_)∧k_ ≠ gb212∧k_ ≠ gb276∧k_ ≠ g)) (HO281.out) (fun k_ hk=>⟨hk.1,⟨hk.2.2.1,⟨hk.2.2.2.1,hk.2.2.2.2⟩⟩⟩))).2.1 (Kd.N_F (Kd.N_mono (ok':=(fun k_=>(w.heap.size ≤ k_)∧k_ ≠ gb212∧k_ ≠ gb276∧k_ ≠ g)) (HO281.out) (fun k_ hk=>⟨hk.1,⟨hk.2.2.1,⟨hk.2.2.2.1,hk.2.2.2.2⟩⟩⟩))))) (Reps.none _ _))))
  intro v284 w96 ho97 hb hg_ hnew_
  clear hg_ hnew_
  (first | rw [← Ny283.out] at ho97 | (simp only [Int.reduceToNat] at ho97;rw [← Ny283.out] at ho97))
  have n0_:=aQ (Kd.N_lower ho97 (keep_size (w:=w) (g:=g) (row:=none) bK))
  have n1_:=aQ (IsS67.below bI hb)
  have n2_:=aQ (blk_below (nB BK212.out) hb)
  have n3_:=aQ (blk_below (nB BK276.out) hb)
  have n4_:=aQ (KeepBut.trans bK (KeepBut.of_below hb g none) (.inl rfl))
  have n5_:=aQ (below_step bB hb)
  clear HI0 BK212 BK276 HK HB HO274 HO281
  have HO285:=n0_
  have HI0:=n1_
  have BK212:=n2_
  have BK276:=n3_
  have HK:=n4_
  have HB:=n5_
  clear n0_ n1_ n2_ n3_ n4_ n5_
  clear hb ho97
  obtain ⟨Ao98,co98,eo98⟩:=Kd.N_slice HO285.out
  (first | subst eo98 | (injection eo98 with f1_ f2_ f3_;have f4_:=f1_.symm;have f5_:=f3_.symm;clear f1_ f2_ f3_;subst f4_;subst f5_))
  refine hK.out _ _ ⟨(blk_cell BK276.out 0).trans rfl,(blk_cell BK276.out 1).trans rfl,(blk_cell BK276.out 2).trans rfl⟩ (fun hHeld=>?_)
  clear hK K
  refine nrm (N:=some 64) ?_
  refine pur (i:=7) (N:=some 65) #[true,true,true,true,true,true,true,true,false] ?_
  refine one_ (i:=8) (N:=none) #[true,true,true,true,true,true,true,true,true] rfl rfl (one_of HT_.out (by kernel_rfl)) (by decide) (fun K hK=>?_)
  have hs99:w96.cell? ⟨gb212,0,none⟩ = some (.int .i64 0):=(blk_cell BK212.out 0).trans rfl
  have hfs99:=blk_frozen BK212.out 0
  have hns99_1:=NB276_212.out
  have hms99_1:=NB212_276.out
  have hs100:w96.cell? ⟨gb212,1,none⟩ = some (.int .i64 0):=(blk_cell BK212.out 1).trans rfl
  have hfs100:=blk_frozen BK212.out 1
  have hns100_1:=NB276_212.out
  have hms100_1:=NB212_276.out
  have hs101:w96.cell? ⟨gb212,2,none⟩ = some (.slice none 0 0):=(blk_cell BK212.out 2).trans rfl
  have hfs101:=blk_frozen BK212.out 2
  have hns101_1:=NB276_212.out
  have hms101_1:=NB212_276.out
  refine skip_ (w1:=?_) (by rfl) rfl ?_ ?_
  rotate_left
  ·go_simp
   rfl
  refine hK.out _ _ ⟨((cell_far (p:=⟨gb212,_,none⟩) NB276_212.out _).trans (((cell_far (p:=⟨gb212,_,none⟩) NB276_212.out _).trans (((cell_far (p:=⟨gb212,_,none⟩) NB276_212.out _).trans (hHeld.1)))))),((cell_far (p:=⟨gb212,_,none⟩) NB276_212.out _).trans (((cell_far (p:=⟨gb212,_,none⟩) NB276_212.out _).trans (((cell_far (p:=⟨gb212,_,none⟩) NB276_212.out _).trans (hHeld.2.1)))))),((cell_far (p:=⟨gb212,_,none⟩) NB276_212.out _).trans (((cell_far (p:=⟨gb212,_,none⟩) NB276_212.out _).trans (((cell_far (p:=⟨gb212,_,none⟩) NB276_212.out _).trans (hHeld.2.2))))))⟩ (fun hHeld=>?_)
  clear hK K
  refine done_ (done_of HT_.out (by kernel_rfl)) ?_
  try go_wp2
  refine bodyPost_ret (results_cell_row rfl _ _ gb212 29 #[.int .i64 3,.int .i64 0,.slice Ao98 y283.length co98] (0,0) _ rfl (by (with_reducible repeat (first | refine blk_drewN ?_ _ | refine blk_drew ?_ | refine blk_alloc ?_ _));refine blk_put (cs:=#[.int .i64 3,.int .i64 0,.slice none 0 0]) ?_ 2 _ rfl;(with_reducible repeat (first | refine blk_drewN ?_ _ | refine blk_drew ?_ | refine blk_alloc ?_ _));refine blk_put (cs:=#[.int .i64 3,.int .i64 0,.slice none 0 0]) ?_ 1 _ rfl;(with_reducible repeat (first | refine blk_drewN ?_ _ | refine blk_drew ?_ | refine blk_alloc ?_ _));refine blk_put (cs:=#[.int .i64 0,.int .i64 0,.slice none 0 0]) ?_ 0 _ rfl;(with_reducible repeat (first | refine blk_drewN ?_ _ | refine blk_drew ?_ | refine blk_alloc ?_ _));exact BK212.out) Try.underlying29 rfl (by kernel_rfl)) rfl ?_
  exact ⟨_,rfl,by (with_reducible repeat (first | apply Kd.N_alloc | apply Kd.N_drewN | apply Kd.N_drew));exact Kd.N_mono (nFN (g:=gb212) HO285.out (fun k_ hk=>hk.2.1)) (fun _ hk=>hk.1),bI,bB,bK⟩
 rw [if_pos c61] at H
 have c61b0:(t213 == 8) = true:=beq_iff_eq.mpr c61
 have c61b1:(t213 != 8) = false:=bne_eq_false_iff_eq.mpr c61
 clear c61
 obtain ⟨⟨t254,t255,t256,t259⟩,A62,H⟩:=bQ H
 dsimp only at H
 obtain ⟨⟨t261,t262,t263,t266⟩,A63,H⟩:=bQ H
 dsimp only at H
 obtain ⟨y267,hy267⟩:∃ y_:List (S29),y_ = (([(⟨t254,t255,t256⟩:S29),(⟨t261,t262,t263⟩:S29)]:List (S29))):=⟨_,rfl⟩
 replace H:(some (4,0,y267,t266)) = some (r1,r2,r3,r4):=by rw [hy267];exact H
 have Ny267:=aQ hy267
 clear hy267
 simp only [Option.some.injEq,Prod.mk.injEq] at H
 obtain ⟨rfl,rfl,rfl,rfl⟩:=H
 go_enter Try.func61,Try.ntmps61
 try go_wp2_with (first | ((with_reducible refine gate_dst (N:=4) rfl ?_);refine box1 (N:=4) (cs:=#[.int .i64 0,.int .i64 0,.slice none 0 0]) (t:=29) ?_;intro gb212 hg w64 hbox hb;replace HB:=aQ (below_step bB hb);have BK212:=aQ (hbox);have GW212:=aQ ((by rw [hg];exact (keep_size (w:=w) (g:=g) (row:=none) bK):w.heap.size ≤ gb212));have GE212:=aQ ((Nat.le_trans HW0.out (by rw [hg];exact (keep_size (w:=w) (g:=g) (row:=none) bK):w.heap.size ≤ gb212):w0.heap.size ≤ gb212));replace HK:=aQ (KeepBut.trans bK (KeepBut.of_below hb g none) (.inl rfl));have NB0_212:=aQ ((by rw [hg];exact Nat.ne_of_lt (IsS67.lt (show IsS67 w0 _ g s0_0 s0_1 from bI)):g ≠ gb212));have NB212_0:=aQ ((by rw [hg];exact Nat.ne_of_gt (IsS67.lt (show IsS67 w0 _ g s0_0 s0_1 from bI)):gb212 ≠ g));replace HI0:=aQ (IsS67.below bI hb);clear hb hbox hg) | ((with_reducible refine gate_callee (f:=56) rfl ?_);refine goesL_ (some 14) rfl rfl Try.func56 (by kernel_rfl) rfl #[.pointer (some ⟨g,0,none⟩),.int .i64 9] rfl mP ?_;(with_reducible refine (spec_l6Rd_pick.calls k g s0_0 s0_1 9 t213 t214 w0 _ ?side1 ?side2 A7.out).mono ?_);(case side1=>exact bI);(case side2=>exact bB);rintro e w65 ⟨rfl,hi,hb,hk⟩;refine ⟨_,rfl,?_⟩;replace BK212:=aQ (KeepBut.blk hk (g':=gb212) (o:=.cells #[.int .i64 0,.int .i64 0,.slice none 0 0] 29 (0,0)) (nB BK212.out) NB212_0.out (by simp));replace HK:=aQ (KeepBut.trans bK hk (.inl rfl));replace HB:=aQ (hb);replace HI0:=aQ (hi);(try clear hb);(try clear hk);(try clear hi)) | ((with_reducible refine gate_callee (f:=61) rfl ?_);refine goesL_ (some 57) rfl rfl Try.func61 (by kernel_rfl) rfl #[.pointer (some ⟨g,0,none⟩),.int .i64 (wrap64 (a1 - 1))] rfl mP ?_;(with_reducible refine (ih k (by omega) g s0_0 t214 (wrap64 (a1 - 1)) t254 t255 t256 t259 w0 _ ?side1 ?side2 A62.out).mono ?_);(case side1=>exact bI);(case side2=>exact bB);rintro e w66 ⟨v257,rfl,ho0,hi,hb,hk⟩;refine ⟨_,rfl,?_⟩;have HO258:=aQ (Kd.N_lower (Kd.N_mono (ok':=fun k_=>(w.heap.size ≤ k_)∧k_ ≠ gb212∧k_ ≠ g) ho0 (fun k_ hk_=>⟨(Nat.le_trans (keep_size (w:=w) (g:=g) (row:=none) bK) hk_),(Kd.freshB (nB BK212.out) k_ hk_),(IsS67.fresh bI k_ hk_)⟩)) (keep_size (w:=w) (g:=g) (row:=none) bK));replace BK212:=aQ (KeepBut.blk hk (g':=gb212) (o:=.cells #[.int .i64 0,.int .i64 0,.slice none 0 0] 29 (0,0)) (nB BK212.out) NB212_0.out (by simp));replace HK:=aQ (KeepBut.trans bK hk (.inl rfl));replace HB:=aQ (hb);replace HI0:=aQ (hi);(try clear hb);(try clear hk);(try clear hi);(try clear ho0)) | ((with_reducible refine gate_dst (N:=9) rfl ?_);refine box1 (N:=9) (cs:=#[.int .i64 0,.int .i64 0,.slice none 0 0]) (t:=29) ?_;intro gb260 hg w67 hbox hb;replace HO258:=aQ (Kd.N_below (Kd.N_elderB (nN HO258.out) gb260 (Nat.le_of_eq hg.symm)) hb);replace HB:=aQ (below_step bB hb);have BK260:=aQ (hbox);have GW260:=aQ ((by rw [hg];exact (keep_size (w:=w) (g:=g) (row:=none) bK):w.heap.size ≤ gb260));have GE260:=aQ ((Nat.le_trans HW0.out (by rw [hg];exact (keep_size (w:=w) (g:=g) (row:=none) bK):w.heap.size ≤ gb260):w0.heap.size ≤ gb260));replace HK:=aQ (KeepBut.trans bK (KeepBut.of_below hb g none) (.inl rfl));have NB212_260:=aQ ((by rw [hg];exact Nat.ne_of_lt (blk_lt (nB BK212.out)):gb212 ≠ gb260));have NB260_212:=aQ NB212_260.out.symm;replace BK212:=aQ (blk_below (nB BK212.out) hb);have NB0_260:=aQ ((by rw [hg];exact Nat.ne_of_lt (IsS67.lt (show IsS67 w0 _ g s0_0 t259 from bI)):g ≠ gb260));have NB260_0:=aQ ((by rw [hg];exact Nat.ne_of_gt (IsS67.lt (show IsS67 w0 _ g s0_0 t259 from bI)):gb260 ≠ g));replace HI0:=aQ (IsS67.below bI hb);clear hb hbox hg;have hnb68:=NB260_212.out;have hnc68:=NB212_260.out;have hnb69:=NB260_0.out;have hnc69:=NB0_260.out;obtain ⟨hcz70_0,hcz70_1,hcz70_2,hfz70_0,hfz70_1,hfz70_2⟩:=cz3 BK260.out;obtain ⟨Ao71,co71,eo71⟩:=Kd.N_slice HO258.out;subst eo71))
 have n0_:Aside0 (Kd.N k29 29 (((w67.setCell ⟨gb260,0,none⟩ (.int .i64 t254)).setCell ⟨gb260,1,none⟩ (.int .i64 t255)).setCell ⟨gb260,2,none⟩ (.slice Ao71 t256.length co71)) w.heap.size (fun k_=>(w.heap.size ≤ k_)∧k_ ≠ gb212∧k_ ≠ g∧k_ ≠ gb260) (.slice Ao71 t256.length co71) t256):=⟨Kd.N_mono (nFN (g:=gb260) HO258.out (fun k_ hk=>hk.2)) (fun _ hk=>⟨hk.1.1,⟨hk.1.2.1,⟨hk.1.2.2,hk.2⟩⟩⟩)⟩
 have n1_:Aside0 ((((w67.setCell ⟨gb260,0,none⟩ (.int .i64 t254)).setCell ⟨gb260,1,none⟩ (.int .i64 t255)).setCell ⟨gb260,2,none⟩ (.slice Ao71 t256.length co71)).heap[gb212]? = some (.cells #[.int .i64 0,.int .i64 0,.slice none 0 0] 29 (0,0))):=⟨bF⟩
 have n2_:Aside0 ((((w67.setCell ⟨gb260,0,none⟩ (.int .i64 t254)).setCell ⟨gb260,1,none⟩ (.int .i64 t255)).setCell ⟨gb260,2,none⟩ (.slice Ao71 t256.length co71)).heap[gb260]? = some (.cells #[.int .i64 t254,.int .i64 t255,.slice Ao71 t256.length co71] 29 (0,0))):=⟨by (with_reducible repeat (first | refine blk_drewN ?_ _ | refine blk_drew ?_ | refine blk_alloc ?_ _));refine blk_put (cs:=#[.int .i64 t254,.int .i64 t255,.slice none 0 0]) ?_ 2 _ rfl;(with_reducible repeat (first | refine blk_drewN ?_ _ | refine blk_drew ?_ | refine blk_alloc ?_ _));refine blk_put (cs:=#[.int .i64 t254,.int .i64 0,.slice none 0 0]) ?_ 1 _ rfl;(with_reducible repeat (first | refine blk_drewN ?_ _ | refine blk_drew ?_ | refine blk_alloc ?_ _));refine blk_put (cs:=#[.int .i64 0,.int .i64 0,.slice none 0 0]) ?_ 0 _ rfl;(with_reducible repeat (first | refine blk_drewN ?_ _ | refine blk_drew ?_ | refine blk_alloc ?_ _));exact BK260.out⟩
 have n3_:Aside0 (IsS67 w0 (((w67.setCell ⟨gb260,0,none⟩ (.int .i64 t254)).setCell ⟨gb260,1,none⟩ (.int .i64 t255)).setCell ⟨gb260,2,none⟩ (.slice Ao71 t256.length co71)) g s0_0 t259):=⟨bI⟩
 have n4_:Aside0 (KeepBut w (((w67.setCell ⟨gb260,0,none⟩ (.int .i64 t254)).setCell ⟨gb260,1,none⟩ (.int .i64 t255)).setCell ⟨gb260,2,none⟩ (.slice Ao71 t256.length co71)) g none):=⟨bK⟩
 have n5_:Aside0 (Below w0.heap.size w0 (((w67.setCell ⟨gb260,0,none⟩ (.int .i64 t254)).setCell ⟨gb260,1,none⟩ (.int .i64 t255)).setCell ⟨gb260,2,none⟩ (.slice Ao71 t256.length co71))):=⟨bB⟩
 (try clear HO258)
 (try clear BK212)
 (try clear BK260)
 (try clear HI0)
 (try clear HK)
 (try clear HB)
 generalize (((w67.setCell ⟨gb260,0,none⟩ (.int .i64 t254)).setCell ⟨gb260,1,none⟩ (.int .i64 t255)).setCell ⟨gb260,2,none⟩ (.slice Ao71 t256.length co71)) = w72 at n0_ n1_ n2_ n3_ n4_ n5_ ⊢
 have HO258:=n0_
 have BK212:=n1_
 have BK260:=n2_
 have HI0:=n3_
 have HK:=n4_
 have HB:=n5_
 clear n0_ n1_ n2_ n3_ n4_ n5_
 replace HO258:=aQ (Kd.N_drew HO258.out)
 replace BK212:=aQ (blk_drew BK212.out)
 replace BK260:=aQ (blk_drew BK260.out)
 replace HI0:=aQ (IsS67.drew HI0.out)
 replace HK:=aQ (keep_drew HK.out)
 replace HB:=aQ (below_drew1 HB.out)
 refine start_ (n:=9) (S:=fun w'=>w'.cell? ⟨gb260,0,none⟩ = some (.int .i64 t254)∧w'.cell? ⟨gb260,1,none⟩ = some (.int .i64 t255)∧w'.cell? ⟨gb260,2,none⟩ = some (.slice Ao71 t256.length co71)) (ds:=[]) #[false,false,false,false,false,false,false,false,false] (by kernel_rfl) rfl rfl ⟨(blk_cell BK260.out 0).trans rfl,(blk_cell BK260.out 1).trans rfl,(blk_cell BK260.out 2).trans rfl⟩ (fun hHeld=>?_);refine with_tabW spec_l92Clock.tab18 spec_l92Clock.bits18 (fun HT_ HW_=>?_)
 generalize w72.drew = w73 at HO258 BK212 BK260 HI0 HK HB hHeld ⊢
 refine pur (i:=0) (N:=some 58) #[true,false,false,false,false,false,false,false,false] ?_
 refine pur (i:=2) (N:=some 60) #[true,false,true,false,false,false,false,false,false] ?_
 refine pur (i:=3) (N:=some 61) #[true,false,true,true,false,false,false,false,false] ?_
 refine pur (i:=4) (N:=some 62) #[true,false,true,true,true,false,false,false,false] ?_
 refine tak (i:=1) (N:=some 59) #[true,true,true,true,true,false,false,false,false] ?_
 refine one_ (i:=5) (N:=some 63) #[true,true,true,true,true,true,false,false,false] rfl rfl (one_of HT_.out (by kernel_rfl)) (by decide) (fun K hK=>?_)
 refine goes1 Try.func61 #[.pointer (some ⟨g,0,none⟩),.int .i64 (wrap64 (a1 - 1))] ?_
 with_reducible refine (ih k (by omega) g s0_0 t259 (wrap64 (a1 - 1)) t261 t262 t263 t266 w0 _ ?side1 ?side2 A63.out).mono ?_
 (case side1=>exact bI)
 (case side2=>exact bB)
 rintro e w74 ⟨v264,rfl,ho0,hi,hb,hk⟩
 refine ⟨_,rfl,?_⟩
 have HO265:=aQ (Kd.N_lower (Kd.N_mono (ok':=fun k_=>(w.heap.size ≤ k_)∧some k_ ≠ (.slice Ao71 t256.length co71:Value).ownBlock∧k_ ≠ gb212∧k_ ≠ gb260∧k_ ≠ g) ho0 (fun k_ hk_=>⟨(Nat.le_trans (keep_size (w:=w) (g:=g) (row:=none) bK) hk_),(Kd.fresh' (Kd.N_lt (nN HO258.out)) k_ hk_),(Kd.freshB (nB BK212.out) k_ hk_),(Kd.freshB (nB BK260.out) k_ hk_),(IsS67.fresh bI k_ hk_)⟩)) (keep_size (w:=w) (g:=g) (row:=none) bK))
 replace BK212:=aQ (KeepBut.blk hk (g':=gb212) (o:=.cells #[.int .i64 0,.int .i64 0,.slice none 0 0] 29 (0,0)) (nB BK212.out) NB212_0.out (by simp))
 replace HO258:=aQ (Kd.N_mono (Kd.N_told (Kd.N_oldK (Kd.N_mono (ok:=fun k_=>(((w.heap.size ≤ k_))∧(k_ ≠ gb212∧(k_ ≠ g∧k_ ≠ gb260)))) (nN HO258.out) (fun k_ hk_=>(⟨hk_,hk_.2.2.1⟩:_∧k_ ≠ g))) hk) (Kd.N_base ho0)) (fun _ h_=>h_.1))
 replace BK260:=aQ (KeepBut.blk hk (g':=gb260) (o:=.cells #[.int .i64 t254,.int .i64 t255,.slice Ao71 t256.length co71] 29 (0,0)) (nB BK260.out) NB260_0.out (by simp))
 replace HK:=aQ (KeepBut.trans bK hk (.inl rfl))
 replace HB:=aQ (hb)
 replace HI0:=aQ (hi)
 (try clear hb)
 (try clear hk)
 (try clear hi)
 (try clear ho0)
 obtain ⟨Ao75,co75,eo75⟩:=Kd.N_slice HO265.out
 (first | subst eo75 | (injection eo75 with f1_ f2_ f3_;have f4_:=f1_.symm;have f5_:=f3_.symm;clear f1_ f2_ f3_;subst f4_;subst f5_))
 refine hK.out _ _ ⟨(blk_cell BK260.out 0).trans rfl,(blk_cell BK260.out 1).trans rfl,(blk_cell BK260.out 2).trans rfl⟩ (fun hHeld=>?_)
 clear hK K
 refine nrm (N:=some 63) ?_
 refine one_ (i:=6) (N:=some 64) #[true,true,true,true,true,true,true,false,false] rfl rfl (one_of HT_.out (by kernel_rfl)) (by decide) (fun K hK=>?_)
 refine Kd.N_lit_step k29 _ 29 ?hg (N':=64) ?hd (xs:=([(⟨t254,t255,t256⟩:S29),(⟨t261,t262,t263⟩:S29)]:List (S29))) (inner:=[.int .i64 t254,.int .i64 t255,.slice Ao71 t256.length co71,.int .i64 t261,.int .i64 t262,.slice Ao75 t263.length co75]) (ok:=(fun k_=>(w.heap.size ≤ k_)∧k_ ≠ gb212∧k_ ≠ gb260∧k_ ≠ g)) (okp:=(fun k_=>(w.heap.size ≤ k_)∧k_ ≠ gb212∧k_ ≠ gb260∧k_ ≠ g)) ?hr ?hp (fun _ hk=>hk) ((show ∀ k_,w74.heap.size ≤ k_ → (fun k_=>(w.heap.size ≤ k_)∧k_ ≠ gb212∧k_ ≠ gb260∧k_ ≠ g) k_ from fun k_ hk=>⟨(Nat.le_trans (keep_size (w:=w) (g:=g) (row:=none) bK) hk),Kd.freshB (nB BK212.out) k_ hk,Kd.freshB (nB BK260.out) k_ hk,IsS67.fresh bI k_ hk⟩) _ (Nat.le_refl _)) (Below.refl _ _) (Nat.le_refl _) (by simp) ?_;(case hd=>rfl);(case hg=>rfl);(case hr=>first | (go_simp;done) | (go_simp;rfl));(case hp=>exact (Reps.c3 (show Kd.FK k29 _ _ (⟨t254,t255,t256⟩:S29) [.int .i64 t254,.int .i64 t255,.slice Ao71 t256.length co71] from (k29_mkF _ _ (⟨t254,t255,t256⟩:S29) (Kd.N_reads' (Kd.N_mono (ok':=(fun k_=>(w.heap.size ≤ k_)∧k_ ≠ gb212∧k_ ≠ gb260∧k_ ≠ g)) (HO258.out) (fun k_ hk=>⟨hk.1.1,⟨hk.1.2.1,⟨hk.1.2.2.2,hk.1.2.2.1⟩⟩⟩))).2.1 (Kd.N_F (Kd.N_mono (ok':=(fun k_=>(w.heap.size ≤ k_)∧k_ ≠ gb212∧k_ ≠ gb260∧k_ ≠ g)) (HO258.out) (fun k_ hk=>⟨hk.1.1,⟨hk.1.2.1,⟨hk.1.2.2.2,hk.1.2.2.1⟩⟩⟩))))) (Reps.c3 (show Kd.FK k29 _ _ (⟨t261,t262,t263⟩:S29) [.int .i64 t261,.int .i64 t262,.slice Ao75 t263.length co75] from (k29_mkF _ _ (⟨t261,t262,t263⟩:S29) (Kd.N_reads' (Kd.N_mono (ok':=(fun k_=>(w.heap.size ≤ k_)∧k_ ≠ gb212∧k_ ≠ gb260∧k_ ≠ g)) (HO265.out) (fun k_ hk=>⟨hk.1,⟨hk.2.2.1,⟨hk.2.2.2.1,hk.2.2.2.2⟩⟩⟩))).2.1 (Kd.N_F (Kd.N_mono (ok':=(fun k_=>(w.heap.size ≤ k_)∧k_ ≠ gb212∧k_ ≠ gb260∧k_ ≠ g)) (HO265.out) (fun k_ hk=>⟨hk.1,⟨hk.2.2.1,⟨hk.2.2.2.1,hk.2.2.2.2⟩⟩⟩))))) (Reps.none _ _))))
 intro v268 w76 ho77 hb hg_ hnew_
 clear hg_ hnew_
 (first | rw [← Ny267.out] at ho77 | (simp only [Int.reduceToNat] at ho77;rw [← Ny267.out] at ho77))
 have n0_:=aQ (Kd.N_lower ho77 (keep_size (w:=w) (g:=g) (row:=none) bK))
 have n1_:=aQ (IsS67.below bI hb)
 have n2_:=aQ (blk_below (nB BK212.out) hb)
 have n3_:=aQ (blk_below (nB BK260.out) hb)
 have n4_:=aQ (KeepBut.trans bK (KeepBut.of_below hb g none) (.inl rfl))
 have n5_:=aQ (below_step bB hb)
 clear HI0 BK212 BK260 HK HB HO258 HO265
 have HO269:=n0_
 have HI0:=n1_
 have BK212:=n2_
 have BK260:=n3_
 have HK:=n4_
 have HB:=n5_
 clear n0_ n1_ n2_ n3_ n4_ n5_
 clear hb ho77
 obtain ⟨Ao78,co78,eo78⟩:=Kd.N_slice HO269.out
 (first | subst eo78 | (injection eo78 with f1_ f2_ f3_;have f4_:=f1_.symm;have f5_:=f3_.symm;clear f1_ f2_ f3_;subst f4_;subst f5_))
 refine hK.out _ _ ⟨(blk_cell BK260.out 0).trans rfl,(blk_cell BK260.out 1).trans rfl,(blk_cell BK260.out 2).trans rfl⟩ (fun hHeld=>?_)
 clear hK K
 refine nrm (N:=some 64) ?_
 refine pur (i:=7) (N:=some 65) #[true,true,true,true,true,true,true,true,false] ?_
 refine one_ (i:=8) (N:=none) #[true,true,true,true,true,true,true,true,true] rfl rfl (one_of HT_.out (by kernel_rfl)) (by decide) (fun K hK=>?_)
 have hs79:w76.cell? ⟨gb212,0,none⟩ = some (.int .i64 0):=(blk_cell BK212.out 0).trans rfl
 have hfs79:=blk_frozen BK212.out 0
 have hns79_1:=NB260_212.out
 have hms79_1:=NB212_260.out
 have hs80:w76.cell? ⟨gb212,1,none⟩ = some (.int .i64 0):=(blk_cell BK212.out 1).trans rfl
 have hfs80:=blk_frozen BK212.out 1
 have hns80_1:=NB260_212.out
 have hms80_1:=NB212_260.out
 have hs81:w76.cell? ⟨gb212,2,none⟩ = some (.slice none 0 0):=(blk_cell BK212.out 2).trans rfl
 have hfs81:=blk_frozen BK212.out 2
 have hns81_1:=NB260_212.out
 have hms81_1:=NB212_260.out
 refine skip_ (w1:=?_) (by rfl) rfl ?_ ?_
 rotate_left
 ·go_simp
  rfl
 refine hK.out _ _ ⟨((cell_far (p:=⟨gb212,_,none⟩) NB260_212.out _).trans (((cell_far (p:=⟨gb212,_,none⟩) NB260_212.out _).trans (((cell_far (p:=⟨gb212,_,none⟩) NB260_212.out _).trans (hHeld.1)))))),((cell_far (p:=⟨gb212,_,none⟩) NB260_212.out _).trans (((cell_far (p:=⟨gb212,_,none⟩) NB260_212.out _).trans (((cell_far (p:=⟨gb212,_,none⟩) NB260_212.out _).trans (hHeld.2.1)))))),((cell_far (p:=⟨gb212,_,none⟩) NB260_212.out _).trans (((cell_far (p:=⟨gb212,_,none⟩) NB260_212.out _).trans (((cell_far (p:=⟨gb212,_,none⟩) NB260_212.out _).trans (hHeld.2.2))))))⟩ (fun hHeld=>?_)
 clear hK K
 refine done_ (done_of HT_.out (by kernel_rfl)) ?_
 try go_wp2
 refine bodyPost_ret (results_cell_row rfl _ _ gb212 29 #[.int .i64 4,.int .i64 0,.slice Ao78 y267.length co78] (0,0) _ rfl (by (with_reducible repeat (first | refine blk_drewN ?_ _ | refine blk_drew ?_ | refine blk_alloc ?_ _));refine blk_put (cs:=#[.int .i64 4,.int .i64 0,.slice none 0 0]) ?_ 2 _ rfl;(with_reducible repeat (first | refine blk_drewN ?_ _ | refine blk_drew ?_ | refine blk_alloc ?_ _));refine blk_put (cs:=#[.int .i64 4,.int .i64 0,.slice none 0 0]) ?_ 1 _ rfl;(with_reducible repeat (first | refine blk_drewN ?_ _ | refine blk_drew ?_ | refine blk_alloc ?_ _));refine blk_put (cs:=#[.int .i64 0,.int .i64 0,.slice none 0 0]) ?_ 0 _ rfl;(with_reducible repeat (first | refine blk_drewN ?_ _ | refine blk_drew ?_ | refine blk_alloc ?_ _));exact BK212.out) Try.underlying29 rfl (by kernel_rfl)) rfl ?_
 exact ⟨_,rfl,by (with_reducible repeat (first | apply Kd.N_alloc | apply Kd.N_drewN | apply Kd.N_drew));exact Kd.N_mono (nFN (g:=gb212) HO269.out (fun k_ hk=>hk.2.1)) (fun _ hk=>hk.1),bI,bB,bK⟩
end Go.Proofs.Ytnkgcjdlfenepaa.P
