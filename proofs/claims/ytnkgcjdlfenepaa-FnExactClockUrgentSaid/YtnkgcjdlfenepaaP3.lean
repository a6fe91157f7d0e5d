/- What the Go functions that the laws reach compute, and that their calls come to just that: told by a program of this session (aprint.py). No condition. -/
import Derived.Test.YtnkgcjdlfenepaaP0
import Derived.Test.YtnkgcjdlfenepaaP1
import Derived.Test.YtnkgcjdlfenepaaP2
import Derived.Test.YtnkgcjdlfenepaaCut
namespace Go.Proofs.Ytnkgcjdlfenepaa.P
open Go.RowKit Go.Proofs.YtnkgcjdlfenepaaW.PrintWords Go.Proofs.YtnkgcjdlfenepaaW.PrintLast Go.Proofs.YtnkgcjdlfenepaaW.PrintMore
attribute [local go_sem] max2_int min2_int max_two min_two max_three min_three max_four min_four
set_option linter.unusedVariables false
set_option linter.unusedSimpArgs false
def spec_l17Pass.f:Nat → Int → Int → List (S29) → Option (Int × Int × (List (S29)) × Bool)
 | 0,_,_,_=>none
 | k + 1,a0_0,a0_1,l0_2=>if a0_0 = 0 then (some (0,0,([]:List (S29)),true)) else (if a0_0 = 1 then ((spec_l17Copy.f k a0_0 a0_1 l0_2).bind fun bt521=>(some (bt521.1,bt521.2.1,bt521.2.2,(a0_1 != 0)))) else (if a0_0 = 2 then (if a0_1 = 1 then (if 0 < (l0_2.length:Int) then ((spec_l17Copy.f k ((rd_T29 l0_2 0).f0) ((rd_T29 l0_2 0).f1) ((rd_T29 l0_2 0).f2)).bind fun bt527=>(some (bt527.1,bt527.2.1,bt527.2.2,true))) else (none)) else (if 0 < (l0_2.length:Int) then ((spec_l17Copy.f k ((rd_T29 l0_2 0).f0) ((rd_T29 l0_2 0).f1) ((rd_T29 l0_2 0).f2)).bind fun bt533=>(some (a0_0,wrap64 (a0_1 - 1),(([(⟨bt533.1,bt533.2.1,bt533.2.2⟩:S29)]:List (S29))),true))) else (none))) else (if 0 < (l0_2.length:Int) then ((spec_l17Pass.f k ((rd_T29 l0_2 0).f0) ((rd_T29 l0_2 0).f1) ((rd_T29 l0_2 0).f2)).bind fun bt542=>(if 1 < (l0_2.length:Int) then ((spec_l17Pass.f k ((rd_T29 l0_2 1).f0) ((rd_T29 l0_2 1).f1) ((rd_T29 l0_2 1).f2)).bind fun bt550=>(if bt542.2.2.2 = true then (if bt550.2.2.2 = true then (if a0_0 = 4 then ((spec_l17Meet.f k ((rd_T29 l0_2 0).f0) ((rd_T29 l0_2 0).f1) ((rd_T29 l0_2 0).f2) ((rd_T29 l0_2 1).f0) ((rd_T29 l0_2 1).f1) ((rd_T29 l0_2 1).f2)).bind fun t559=>(if t559 = true then (some (0,0,([]:List (S29)),false)) else ((spec_l17Two.f a0_0 bt542.1 bt542.2.1 bt542.2.2.1 bt550.1 bt550.2.1 bt550.2.2.1).bind fun bt560=>(some (bt560.1,bt560.2.1,bt560.2.2,true))))) else ((spec_l17Two.f a0_0 bt542.1 bt542.2.1 bt542.2.2.1 bt550.1 bt550.2.1 bt550.2.2.1).bind fun bt565=>(some (bt565.1,bt565.2.1,bt565.2.2,true)))) else (some (0,0,([]:List (S29)),false))) else (some (0,0,([]:List (S29)),false)))) else (none))) else (none))))
theorem spec_l17Pass.mono_l:∀ k,(∀ y0 y1 y2,LeO (spec_l17Pass.f k y0 y1 y2) (spec_l17Pass.f (k + 1) y0 y1 y2))
 | 0=>fun _ _ _ r h=>by simp [spec_l17Pass.f] at h
 | k + 1=>by
  have ih0:=spec_l17Pass.mono_l k
  ·intro y0 y1 y2
   unfold spec_l17Pass.f
   repeat' first
   | (with_reducible exact ih0 _ _ _)
   | (with_reducible exact spec_l17Copy.mono _ _ _ _)
   | (with_reducible exact spec_l17Meet.mono _ _ _ _ _ _ _)
   | (with_reducible exact LeO.refl _)
   | (with_reducible exact LeO.none _)
   | (with_reducible refine LeO.ite ?_ ?_)
   | (with_reducible refine LeO.bind ?_ (fun _=>?_))
   | exact ih0 _ _ _
   | exact spec_l17Copy.mono _ _ _ _
   | exact spec_l17Meet.mono _ _ _ _ _ _ _
   | exact LeO.none _
   | refine LeO.ite ?_ ?_
   | refine LeO.bind ?_ (fun _=>?_)
theorem spec_l17Pass.mono:∀ a0 a1 a2 k,LeO (spec_l17Pass.f k a0 a1 a2) (spec_l17Pass.f (k + 1) a0 a1 a2):=by
 intro a0 a1 a2 k
 have ih0:=spec_l17Pass.mono_l k
 exact ih0 a0 a1 a2
def spec_l17Pass.T9:Bool × List (List Nat × List Nat):=(true,[([],[]),([0],[0]),([],[]),([2],[2]),([3],[3]),([],[]),([5],[5]),([6],[6]),([7],[7]),([8],[8]),([9],[9]),([1,4,10],[1,4,10]),([11,9,0,1,2,3,4,5,6,7,8,9,10,11],[11]),([12,0,1,2,3,4,5,6,7,8,9,10,11,12],[])])
def spec_l17Pass.B9:List Nat:=[0,1,0,4,12,0,32,96,224,480,992,2047,4095,8191]
theorem spec_l17Pass.tab9:rtab .any (opsOf Try.f50 9) = spec_l17Pass.T9:=by kernel_rfl
theorem spec_l17Pass.bits9:waitsOk spec_l17Pass.T9.2 spec_l17Pass.B9 = true:=by kernel_rfl
def spec_l17Pass.T12:Bool × List (List Nat × List Nat):=(true,[([],[]),([0],[0]),([1],[1]),([2],[2]),([3,2],[2,3]),([2,4],[2,4]),([5,2],[5]),([6],[6]),([7,6],[6,7]),([8,6],[6,8]),([9,6,6],[6,9]),([10],[10]),([11,10],[10,11]),([12,10],[10,12]),([13,10],[10,13]),([10],[10]),([15,10],[10,15]),([16,10],[10,16]),([17,10],[10,17]),([14,18,10,10],[10,14,18]),([10,19,6],[6,10,19]),([6,20],[6,20])])
def spec_l17Pass.B12:List Nat:=[0,1,3,7,15,31,63,127,255,511,1023,2047,4095,8191,16383,2047,34815,100351,231423,524287,1048575,2097151]
theorem spec_l17Pass.tab12:rtab .any (opsOf Try.f50 12) = spec_l17Pass.T12:=by kernel_rfl
theorem spec_l17Pass.bits12:waitsOk spec_l17Pass.T12.2 spec_l17Pass.B12 = true:=by kernel_rfl
set_option maxHeartbeats 8000000 in
set_option maxRecDepth 100000 in
theorem spec_l17Pass.calls (k:Nat):∀ (a0_0:Int) (a0_1:Int) (A0_2:Option Addr) (c0_2:Nat) (l0_2:List (S29)) (r1:Int) (r2:Int) (r3:List (S29)) (r4:Bool) (w:World) (hr0_2:Kd.C k29 w A0_2 l0_2.length l0_2) (hc0_2:l0_2.length ≤ c0_2) (h:spec_l17Pass.f k a0_0 a0_1 l0_2 = some (r1,r2,r3,r4)),
  Calls Try.prog 50 #[.agg #[.int .i64 a0_0,.int .i64 a0_1,.slice A0_2 l0_2.length c0_2]] w fun e w'=>∃ v2_:Value,e = .returned (.tuple #[.agg #[.int .i64 r1,.int .i64 r2,v2_],.bool r4])∧Kd.N k29 29 w' w.heap.size (fun k_=>(w.heap.size ≤ k_)) v2_ r3∧Below w.heap.size w w':=by
 induction k using Nat.strongRecOn with
 | _ k ih =>
 intro a0_0 a0_1 A0_2 c0_2 l0_2 r1 r2 r3 r4 w hr0_2 hc0_2 h
 cases k with
 | zero=>exact absurd h (by simp [spec_l17Pass.f])
 | succ k =>
 simp only [spec_l17Pass.f] at h
 have hu29:=Try.underlying29
 have HR0_2:=aQ hr0_2
 have HC0_2:=aQ hc0_2
 clear hr0_2 hc0_2
 have HB:=aQ (Below.refl w.heap.size w)
 have H:=h
 clear h
 by_cases c2:a0_0 = 0
 ·rw [if_pos c2] at H
  have c2b0:(a0_0 == 0) = true:=beq_iff_eq.mpr c2
  have c2b1:(a0_0 != 0) = false:=bne_eq_false_iff_eq.mpr c2
  clear c2
  simp only [Option.some.injEq,Prod.mk.injEq] at H
  obtain ⟨rfl,rfl,rfl,rfl⟩:=H
  go_enter Try.func50,Try.ntmps50
  go_wp2_with (first | ((with_reducible refine gate_dst (N:=1) rfl ?_);refine box1 (N:=1) (cs:=#[.int .i64 a0_0,.int .i64 a0_1,.slice A0_2 l0_2.length c0_2]) (t:=29) ?_;intro gb519 hg w3 hbox hb;have BK519:=aQ (hbox);have GW519:=aQ ((by rw [hg];exact (below_size bB):w.heap.size ≤ gb519));have GE519:=aQ ((by rw [hg];exact (below_size bB):w.heap.size ≤ gb519));replace HB:=aQ (below_step bB hb);clear hb hbox hg) | ((with_reducible refine gate_dst (N:=2) rfl ?_);refine box1 (N:=2) (cs:=#[.int .i64 0,.int .i64 0,.slice none 0 0]) (t:=29) ?_;intro gb520 hg w4 hbox hb;have BK520:=aQ (hbox);have GW520:=aQ ((by rw [hg];exact (below_size bB):w.heap.size ≤ gb520));have GE520:=aQ ((by rw [hg];exact (below_size bB):w.heap.size ≤ gb520));replace HB:=aQ (below_step bB hb);have NB519_520:=aQ ((by rw [hg];exact Nat.ne_of_lt (blk_lt (g:=gb519) (o:=.cells #[.int .i64 a0_0,.int .i64 a0_1,.slice A0_2 l0_2.length c0_2] 29 (0,0)) (nB BK519.out)):gb519 ≠ gb520));have NB520_519:=aQ ((by rw [hg];exact Nat.ne_of_gt (blk_lt (g:=gb519) (o:=.cells #[.int .i64 a0_0,.int .i64 a0_1,.slice A0_2 l0_2.length c0_2] 29 (0,0)) (nB BK519.out)):gb520 ≠ gb519));replace BK519:=aQ (blk_below (g:=gb519) (o:=.cells #[.int .i64 a0_0,.int .i64 a0_1,.slice A0_2 l0_2.length c0_2] 29 (0,0)) (nB BK519.out) hb);clear hb hbox hg;have hnb5:=NB519_520.out;have hnc5:=NB520_519.out;have hcz6_0:w4.cell? ⟨gb519,0,none⟩ = some (.int .i64 a0_0):=(blk_cell BK519.out 0).trans rfl;have hcz6_1:w4.cell? ⟨gb519,1,none⟩ = some (.int .i64 a0_1):=(blk_cell BK519.out 1).trans rfl;have hcz6_2:w4.cell? ⟨gb519,2,none⟩ = some (.slice A0_2 l0_2.length c0_2):=(blk_cell BK519.out 2).trans rfl;have hfz6_0:=blk_frozen BK519.out 0;have hfz6_1:=blk_frozen BK519.out 1;have hfz6_2:=blk_frozen BK519.out 2;have hcz7_0:w4.cell? ⟨gb520,0,none⟩ = some (.int .i64 0):=(blk_cell BK520.out 0).trans rfl;have hcz7_1:w4.cell? ⟨gb520,1,none⟩ = some (.int .i64 0):=(blk_cell BK520.out 1).trans rfl;have hcz7_2:w4.cell? ⟨gb520,2,none⟩ = some (.slice none 0 0):=(blk_cell BK520.out 2).trans rfl;have hfz7_0:=blk_frozen BK520.out 0;have hfz7_1:=blk_frozen BK520.out 1;have hfz7_2:=blk_frozen BK520.out 2))
  refine bodyPost_ret (results_ct rfl _ _ gb520 29 #[.int .i64 0,.int .i64 0,.slice none 0 0] (0,0) _ rfl bP Try.underlying29 rfl (by kernel_rfl)) rfl ?_
  exact ⟨_,rfl,by first | exact Kd.R_nil _ _ _ _ _ | exact Kd.N_nil _ _ _ _ _ | exact Kd.V_nil _ _ _ _ _ | exact Kd.Q_nil _ _ _ _ _ | exact Kd.S_nil _ _ _ _ _,bB⟩
 rw [if_neg c2] at H
 have c2b0:(a0_0 == 0) = false:=beq_eq_false_iff_ne.mpr c2
 have c2b1:(a0_0 != 0) = true:=bne_iff_ne.mpr c2
 by_cases c8:a0_0 = 1
 ·rw [if_pos c8] at H
  have c8b0:(a0_0 == 1) = true:=beq_iff_eq.mpr c8
  have c8b1:(a0_0 != 1) = false:=bne_eq_false_iff_eq.mpr c8
  clear c8
  obtain ⟨⟨t521,t522,t523⟩,A9,H⟩:=bQ H
  dsimp only at H
  simp only [Option.some.injEq,Prod.mk.injEq] at H
  obtain ⟨rfl,rfl,rfl,rfl⟩:=H
  go_enter Try.func50,Try.ntmps50
  try go_wp2_with (first | ((with_reducible refine gate_dst (N:=1) rfl ?_);refine box1 (N:=1) (cs:=#[.int .i64 a0_0,.int .i64 a0_1,.slice A0_2 l0_2.length c0_2]) (t:=29) ?_;intro gb519 hg w10 hbox hb;have BK519:=aQ (hbox);have GW519:=aQ ((by rw [hg];exact (below_size bB):w.heap.size ≤ gb519));have GE519:=aQ ((by rw [hg];exact (below_size bB):w.heap.size ≤ gb519));replace HB:=aQ (below_step bB hb);clear hb hbox hg) | ((with_reducible refine gate_dst (N:=2) rfl ?_);refine box1 (N:=2) (cs:=#[.int .i64 0,.int .i64 0,.slice none 0 0]) (t:=29) ?_;intro gb520 hg w11 hbox hb;have BK520:=aQ (hbox);have GW520:=aQ ((by rw [hg];exact (below_size bB):w.heap.size ≤ gb520));have GE520:=aQ ((by rw [hg];exact (below_size bB):w.heap.size ≤ gb520));replace HB:=aQ (below_step bB hb);have NB519_520:=aQ ((by rw [hg];exact Nat.ne_of_lt (blk_lt (g:=gb519) (o:=.cells #[.int .i64 a0_0,.int .i64 a0_1,.slice A0_2 l0_2.length c0_2] 29 (0,0)) (nB BK519.out)):gb519 ≠ gb520));have NB520_519:=aQ ((by rw [hg];exact Nat.ne_of_gt (blk_lt (g:=gb519) (o:=.cells #[.int .i64 a0_0,.int .i64 a0_1,.slice A0_2 l0_2.length c0_2] 29 (0,0)) (nB BK519.out)):gb520 ≠ gb519));replace BK519:=aQ (blk_below (g:=gb519) (o:=.cells #[.int .i64 a0_0,.int .i64 a0_1,.slice A0_2 l0_2.length c0_2] 29 (0,0)) (nB BK519.out) hb);clear hb hbox hg;have hnb12:=NB519_520.out;have hnc12:=NB520_519.out;have hcz13_0:w11.cell? ⟨gb519,0,none⟩ = some (.int .i64 a0_0):=(blk_cell BK519.out 0).trans rfl;have hcz13_1:w11.cell? ⟨gb519,1,none⟩ = some (.int .i64 a0_1):=(blk_cell BK519.out 1).trans rfl;have hcz13_2:w11.cell? ⟨gb519,2,none⟩ = some (.slice A0_2 l0_2.length c0_2):=(blk_cell BK519.out 2).trans rfl;have hfz13_0:=blk_frozen BK519.out 0;have hfz13_1:=blk_frozen BK519.out 1;have hfz13_2:=blk_frozen BK519.out 2))
  replace BK519:=aQ (blk_drew BK519.out)
  replace BK520:=aQ (blk_drew BK520.out)
  replace HB:=aQ (below_drew1 HB.out)
  refine start_ (n:=7) (S:=fun w'=>w'.cell? ⟨gb519,0,none⟩ = some (.int .i64 a0_0)∧w'.cell? ⟨gb519,1,none⟩ = some (.int .i64 a0_1)∧w'.cell? ⟨gb519,2,none⟩ = some (.slice A0_2 l0_2.length c0_2)) (ds:=[]) #[false,false,false,false,false,false,false] (by kernel_rfl) rfl rfl ⟨(blk_cell BK519.out 0).trans rfl,(blk_cell BK519.out 1).trans rfl,(blk_cell BK519.out 2).trans rfl⟩ (fun hHeld=>?_)
  generalize w11.drew = w14 at BK519 BK520 HB hHeld ⊢
  refine pure_ (i:=2) (N:=some 17) (v:=?_) (a':=?_) #[false,false,true,false,false,false,false] rfl rfl (by kernel_rfl) (fun _ _ _ h=>h) (Or.inl ⟨by rfl,?_⟩) ?_ ?_
  rotate_left;·intro w';go_simp;with_reducible rfl
  rotate_left;·simp only [Act.put,List.setIfInBounds_toArray,List.set_cons_zero,List.set_cons_succ,i64_w,i32_w];rfl
  refine take_ (i:=0) (N:=some 15) (v:=?_) (a':=?_) #[true,false,true,false,false,false,false] rfl rfl (by kernel_rfl) (fun _ _ _ h=>h) (Or.inl ⟨by rfl,?_⟩) hHeld ?_ ?_
  rotate_left;·rintro w' ⟨s0,s1,s2⟩;go_simp;with_reducible rfl
  rotate_left;·simp only [Act.put,List.setIfInBounds_toArray,List.set_cons_zero,List.set_cons_succ,i64_w,i32_w];rfl
  refine take_ (i:=3) (N:=some 18) (v:=?_) (a':=?_) #[true,false,true,true,false,false,false] rfl rfl (by kernel_rfl) (fun _ _ _ h=>h) (Or.inl ⟨by rfl,?_⟩) hHeld ?_ ?_
  rotate_left;·rintro w' ⟨s0,s1,s2⟩;go_simp;with_reducible rfl
  rotate_left;·simp only [Act.put,List.setIfInBounds_toArray,List.set_cons_zero,List.set_cons_succ,i64_w,i32_w];rfl
  refine pure_ (i:=4) (N:=some 19) (v:=?_) (a':=?_) #[true,false,true,true,true,false,false] rfl rfl (by kernel_rfl) (fun _ _ _ h=>h) (Or.inl ⟨by rfl,?_⟩) ?_ ?_
  rotate_left;·intro w';go_simp;with_reducible rfl
  rotate_left;·simp only [Act.put,List.setIfInBounds_toArray,List.set_cons_zero,List.set_cons_succ,i64_w,i32_w];rfl
  refine one_ (i:=1) (N:=some 16) #[true,true,true,true,true,false,false] rfl rfl (by kernel_rfl) (by decide) (fun K hK=>?_)
  refine goes1 Try.func52 #[.agg #[.int .i64 a0_0,.int .i64 a0_1,.slice A0_2 l0_2.length c0_2]] ?_
  with_reducible refine (spec_l17Copy.calls k a0_0 a0_1 _ _ l0_2 t521 t522 t523 _ ?side1 ?side2 A9.out).mono ?_
  (case side1=>repeat (first | exact (Kd.C_below HR0_2.out HB.out) | (with_reducible refine Kd.C_alloc ?_ _) | (with_reducible refine Kd.C_drewN ?_ _) | (with_reducible refine Kd.C_drew ?_)))
  (case side2=>exact HC0_2.out)
  rintro e w15 ⟨v524,rfl,ho0,hb⟩
  refine ⟨_,rfl,?_⟩
  have HO525:=aQ (Kd.N_lower (Kd.N_mono (ok':=fun k_=>(w.heap.size ≤ k_)∧k_ ≠ gb519∧k_ ≠ gb520) ho0 (fun k_ hk_=>⟨(Nat.le_trans (below_size bB) hk_),(Kd.freshB (g:=gb519) (o:=.cells #[.int .i64 a0_0,.int .i64 a0_1,.slice A0_2 l0_2.length c0_2] 29 (0,0)) (nB BK519.out) k_ hk_),(Kd.freshB (g:=gb520) (o:=.cells #[.int .i64 0,.int .i64 0,.slice none 0 0] 29 (0,0)) (nB BK520.out) k_ hk_)⟩)) (below_size bB))
  replace BK519:=aQ (blk_below (g:=gb519) (o:=.cells #[.int .i64 a0_0,.int .i64 a0_1,.slice A0_2 l0_2.length c0_2] 29 (0,0)) (nB BK519.out) hb)
  replace BK520:=aQ (blk_below (g:=gb520) (o:=.cells #[.int .i64 0,.int .i64 0,.slice none 0 0] 29 (0,0)) (nB BK520.out) hb)
  replace HB:=aQ (below_step bB hb)
  (try clear hb)
  (try clear ho0)
  obtain ⟨Ao18,co18,eo18⟩:=Kd.N_slice HO525.out
  (first | subst eo18 | (injection eo18 with f1_ f2_ f3_;have f4_:=f1_.symm;have f5_:=f3_.symm;clear f1_ f2_ f3_;subst f4_;subst f5_))
  refine hK.out _ _ ⟨(blk_cell BK519.out 0).trans rfl,(blk_cell BK519.out 1).trans rfl,(blk_cell BK519.out 2).trans rfl⟩ (fun hHeld=>?_)
  clear hK K
  refine nrm (N:=some 16) ?_
  refine one_ (i:=5) (N:=none) #[true,true,true,true,true,true,false] rfl rfl (by kernel_rfl) (by decide) (fun K hK=>?_)
  have hs16:w15.cell? ⟨gb520,0,none⟩ = some (.int .i64 0):=(blk_cell BK520.out 0).trans rfl
  have hfs16:=blk_frozen BK520.out 0
  have hns16_0:=NB519_520.out
  have hms16_0:=NB520_519.out
  have hs17:w15.cell? ⟨gb520,1,none⟩ = some (.int .i64 0):=(blk_cell BK520.out 1).trans rfl
  have hfs17:=blk_frozen BK520.out 1
  have hns17_0:=NB519_520.out
  have hms17_0:=NB520_519.out
  have hs19:w15.cell? ⟨gb520,2,none⟩ = some (.slice none 0 0):=(blk_cell BK520.out 2).trans rfl
  have hfs19:=blk_frozen BK520.out 2
  have hns19_0:=NB519_520.out
  have hms19_0:=NB520_519.out
  refine skip_ (w1:=?_) (by rfl) rfl ?_ ?_
  rotate_left
  ·go_simp
   rfl
  refine hK.out _ _ ⟨((cell_far (p:=⟨gb520,_,none⟩) NB519_520.out _).trans (((cell_far (p:=⟨gb520,_,none⟩) NB519_520.out _).trans (((cell_far (p:=⟨gb520,_,none⟩) NB519_520.out _).trans (hHeld.1)))))),((cell_far (p:=⟨gb520,_,none⟩) NB519_520.out _).trans (((cell_far (p:=⟨gb520,_,none⟩) NB519_520.out _).trans (((cell_far (p:=⟨gb520,_,none⟩) NB519_520.out _).trans (hHeld.2.1)))))),((cell_far (p:=⟨gb520,_,none⟩) NB519_520.out _).trans (((cell_far (p:=⟨gb520,_,none⟩) NB519_520.out _).trans (((cell_far (p:=⟨gb520,_,none⟩) NB519_520.out _).trans (hHeld.2.2))))))⟩ (fun hHeld=>?_)
  clear hK K
  refine pure_ (i:=6) (N:=some 3) (v:=?_) (a':=?_) #[true,true,true,true,true,true,true] rfl rfl (by kernel_rfl) (fun _ _ _ h=>h) (Or.inl ⟨by rfl,?_⟩) ?_ ?_
  rotate_left;·intro w';go_simp;with_reducible rfl
  rotate_left;·simp only [Act.put,List.setIfInBounds_toArray,List.set_cons_zero,List.set_cons_succ,i64_w,i32_w];rfl
  refine done_ (by kernel_rfl) ?_
  try go_wp2
  refine bodyPost_ret (results_ct rfl _ _ gb520 29 #[.int .i64 t521,.int .i64 t522,.slice Ao18 t523.length co18] (0,0) _ rfl bP Try.underlying29 rfl (by kernel_rfl)) rfl ?_
  exact ⟨_,rfl,by (with_reducible repeat (first | apply Kd.N_alloc | apply Kd.N_drewN | apply Kd.N_drew));exact Kd.N_mono (nFN (g:=gb520) HO525.out (fun k_ hk=>hk.2.2)) (fun _ hk=>hk.1),bB⟩
 rw [if_neg c8] at H
 have c8b0:(a0_0 == 1) = false:=beq_eq_false_iff_ne.mpr c8
 have c8b1:(a0_0 != 1) = true:=bne_iff_ne.mpr c8
 by_cases c20:a0_0 = 2
 ·rw [if_pos c20] at H
  have c20b0:(a0_0 == 2) = true:=beq_iff_eq.mpr c20
  have c20b1:(a0_0 != 2) = false:=bne_eq_false_iff_eq.mpr c20
  clear c20
  by_cases c21:a0_1 = 1
  ·rw [if_pos c21] at H
   have c21b0:(a0_1 == 1) = true:=beq_iff_eq.mpr c21
   have c21b1:(a0_1 != 1) = false:=bne_eq_false_iff_eq.mpr c21
   clear c21
   by_cases c22:0 < (l0_2.length:Int);rotate_left
   ·rw [if_neg c22] at H
    exact absurd H (by simp)
   rw [if_pos c22] at H
   have c22b0:decide (0 < (l0_2.length:Int)) = true:=decide_eq_true c22
   have c22b1:decide (0 < l0_2.length) = true:=decide_eq_true (by omega)
   clear c22
   obtain ⟨⟨t527,t528,t529⟩,A23,H⟩:=bQ H
   dsimp only at H
   simp only [Option.some.injEq,Prod.mk.injEq] at H
   obtain ⟨rfl,rfl,rfl,rfl⟩:=H
   go_enter Try.func50,Try.ntmps50
   go_wp2_with (first | ((with_reducible refine gate_dst (N:=1) rfl ?_);refine box1 (N:=1) (cs:=#[.int .i64 a0_0,.int .i64 a0_1,.slice A0_2 l0_2.length c0_2]) (t:=29) ?_;intro gb519 hg w24 hbox hb;have BK519:=aQ (hbox);have GW519:=aQ ((by rw [hg];exact (below_size bB):w.heap.size ≤ gb519));have GE519:=aQ ((by rw [hg];exact (below_size bB):w.heap.size ≤ gb519));replace HB:=aQ (below_step bB hb);clear hb hbox hg) | ((with_reducible refine gate_dst (N:=2) rfl ?_);refine box1 (N:=2) (cs:=#[.int .i64 0,.int .i64 0,.slice none 0 0]) (t:=29) ?_;intro gb520 hg w25 hbox hb;have BK520:=aQ (hbox);have GW520:=aQ ((by rw [hg];exact (below_size bB):w.heap.size ≤ gb520));have GE520:=aQ ((by rw [hg];exact (below_size bB):w.heap.size ≤ gb520));replace HB:=aQ (below_step bB hb);have NB519_520:=aQ ((by rw [hg];exact Nat.ne_of_lt (blk_lt (g:=gb519) (o:=.cells #[.int .i64 a0_0,.int .i64 a0_1,.slice A0_2 l0_2.length c0_2] 29 (0,0)) (nB BK519.out)):gb519 ≠ gb520));have NB520_519:=aQ ((by rw [hg];exact Nat.ne_of_gt (blk_lt (g:=gb519) (o:=.cells #[.int .i64 a0_0,.int .i64 a0_1,.slice A0_2 l0_2.length c0_2] 29 (0,0)) (nB BK519.out)):gb520 ≠ gb519));replace BK519:=aQ (blk_below (g:=gb519) (o:=.cells #[.int .i64 a0_0,.int .i64 a0_1,.slice A0_2 l0_2.length c0_2] 29 (0,0)) (nB BK519.out) hb);clear hb hbox hg;have hnb26:=NB519_520.out;have hnc26:=NB520_519.out;have hcz27_0:w25.cell? ⟨gb519,0,none⟩ = some (.int .i64 a0_0):=(blk_cell BK519.out 0).trans rfl;have hcz27_1:w25.cell? ⟨gb519,1,none⟩ = some (.int .i64 a0_1):=(blk_cell BK519.out 1).trans rfl;have hcz27_2:w25.cell? ⟨gb519,2,none⟩ = some (.slice A0_2 l0_2.length c0_2):=(blk_cell BK519.out 2).trans rfl;have hfz27_0:=blk_frozen BK519.out 0;have hfz27_1:=blk_frozen BK519.out 1;have hfz27_2:=blk_frozen BK519.out 2;have p526:0 ≤ (0:Int):=(by omega);have q526:0 < (l0_2.length:Int):=of_decide_eq_true (by first | (with_reducible assumption) | assumption);obtain ⟨ad526,A526_2,c526_2,e526,hx526_0,hx526_1,hx526_2,hl526_2,hi526_2⟩:=at_T29 HR0_2.out 0 p526 q526;cases e526;have qi526:(0 < l0_2.length) = True:=eq_true (by omega);(try rw [show ((0:Int)).toNat = 0 from rfl] at hx526_0);(try rw [show 0 * 3 = 0 from rfl] at hx526_0);(try rw [Addr.add_zero'] at hx526_0);(try rw [show ((0:Int)).toNat = 0 from rfl] at hx526_1);(try rw [show 0 * 3 = 0 from rfl] at hx526_1);(try rw [Addr.add_zero'] at hx526_1);(try rw [show ((0:Int)).toNat = 0 from rfl] at hx526_2);(try rw [show 0 * 3 = 0 from rfl] at hx526_2);(try rw [Addr.add_zero'] at hx526_2);replace hx526_0:=(HB.out.cell (World.block_lt_of_cell? w _ hx526_0)).trans hx526_0;replace hx526_1:=(HB.out.cell (World.block_lt_of_cell? w _ hx526_1)).trans hx526_1;replace hx526_2:=(HB.out.cell (World.block_lt_of_cell? w _ hx526_2)).trans hx526_2;have HR526_2:=aQ hi526_2;have HC526_2:=aQ hl526_2;clear hi526_2 hl526_2;replace p526:=eq_true p526;replace q526:=eq_true q526) | ((with_reducible refine gate_callee (f:=52) rfl ?_);refine goesL_ (some 29) rfl rfl Try.func52 (by kernel_rfl) rfl #[.agg #[.int .i64 ((rd_T29 l0_2 0).f0),.int .i64 ((rd_T29 l0_2 0).f1),.slice A526_2 ((rd_T29 l0_2 0).f2).length c526_2]] rfl mP ?_;(with_reducible refine (spec_l17Copy.calls k ((rd_T29 l0_2 0).f0) ((rd_T29 l0_2 0).f1) _ _ ((rd_T29 l0_2 0).f2) t527 t528 t529 _ ?side1 ?side2 A23.out).mono ?_);(case side1=>repeat (first | exact (Kd.C_below HR526_2.out HB.out) | (with_reducible refine Kd.C_alloc ?_ _) | (with_reducible refine Kd.C_drewN ?_ _) | (with_reducible refine Kd.C_drew ?_)));(case side2=>exact HC526_2.out);rintro e w28 ⟨v530,rfl,ho0,hb⟩;refine ⟨_,rfl,?_⟩;have HO531:=aQ (Kd.N_lower (Kd.N_mono (ok':=fun k_=>(w.heap.size ≤ k_)∧k_ ≠ gb519∧k_ ≠ gb520) ho0 (fun k_ hk_=>⟨(Nat.le_trans (below_size bB) hk_),(Kd.freshB (g:=gb519) (o:=.cells #[.int .i64 a0_0,.int .i64 a0_1,.slice (some ad526) l0_2.length c0_2] 29 (0,0)) (nB BK519.out) k_ hk_),(Kd.freshB (g:=gb520) (o:=.cells #[.int .i64 0,.int .i64 0,.slice none 0 0] 29 (0,0)) (nB BK520.out) k_ hk_)⟩)) (below_size bB));replace BK519:=aQ (blk_below (g:=gb519) (o:=.cells #[.int .i64 a0_0,.int .i64 a0_1,.slice (some ad526) l0_2.length c0_2] 29 (0,0)) (nB BK519.out) hb);replace BK520:=aQ (blk_below (g:=gb520) (o:=.cells #[.int .i64 0,.int .i64 0,.slice none 0 0] 29 (0,0)) (nB BK520.out) hb);replace HB:=aQ (below_step bB hb);(try clear hb);(try clear ho0);have hcz29_0:w28.cell? ⟨gb520,0,none⟩ = some (.int .i64 0):=(blk_cell BK520.out 0).trans rfl;have hcz29_1:w28.cell? ⟨gb520,1,none⟩ = some (.int .i64 0):=(blk_cell BK520.out 1).trans rfl;have hcz29_2:w28.cell? ⟨gb520,2,none⟩ = some (.slice none 0 0):=(blk_cell BK520.out 2).trans rfl;have hfz29_0:=blk_frozen BK520.out 0;have hfz29_1:=blk_frozen BK520.out 1;have hfz29_2:=blk_frozen BK520.out 2;obtain ⟨Ao30,co30,eo30⟩:=Kd.N_slice HO531.out;subst eo30))
   refine bodyPost_ret (results_ct rfl _ _ gb520 29 #[.int .i64 t527,.int .i64 t528,.slice Ao30 t529.length co30] (0,0) _ rfl bP Try.underlying29 rfl (by kernel_rfl)) rfl ?_
   exact ⟨_,rfl,by (with_reducible repeat (first | apply Kd.N_alloc | apply Kd.N_drewN | apply Kd.N_drew));exact Kd.N_mono (nFN (g:=gb520) HO531.out (fun k_ hk=>hk.2.2)) (fun _ hk=>hk.1),bB⟩
  rw [if_neg c21] at H
  have c21b0:(a0_1 == 1) = false:=beq_eq_false_iff_ne.mpr c21
  have c21b1:(a0_1 != 1) = true:=bne_iff_ne.mpr c21
  by_cases c31:0 < (l0_2.length:Int);rotate_left
  ·rw [if_neg c31] at H
   exact absurd H (by simp)
  rw [if_pos c31] at H
  have c31b0:decide (0 < (l0_2.length:Int)) = true:=decide_eq_true c31
  have c31b1:decide (0 < l0_2.length) = true:=decide_eq_true (by omega)
  clear c31
  obtain ⟨⟨t533,t534,t535⟩,A32,H⟩:=bQ H
  dsimp only at H
  obtain ⟨y538,hy538⟩:∃ y_:List (S29),y_ = (([(⟨t533,t534,t535⟩:S29)]:List (S29))):=⟨_,rfl⟩
  replace H:(some (a0_0,wrap64 (a0_1 - 1),y538,true)) = some (r1,r2,r3,r4):=by rw [hy538];exact H
  have Ny538:=aQ hy538
  clear hy538
  simp only [Option.some.injEq,Prod.mk.injEq] at H
  obtain ⟨rfl,rfl,rfl,rfl⟩:=H
  go_enter Try.func50,Try.ntmps50
  try go_wp2_with (first | ((with_reducible refine gate_dst (N:=1) rfl ?_);refine box1 (N:=1) (cs:=#[.int .i64 a0_0,.int .i64 a0_1,.slice A0_2 l0_2.length c0_2]) (t:=29) ?_;intro gb519 hg w33 hbox hb;have BK519:=aQ (hbox);have GW519:=aQ ((by rw [hg];exact (below_size bB):w.heap.size ≤ gb519));have GE519:=aQ ((by rw [hg];exact (below_size bB):w.heap.size ≤ gb519));replace HB:=aQ (below_step bB hb);clear hb hbox hg) | ((with_reducible refine gate_dst (N:=2) rfl ?_);refine box1 (N:=2) (cs:=#[.int .i64 0,.int .i64 0,.slice none 0 0]) (t:=29) ?_;intro gb520 hg w34 hbox hb;have BK520:=aQ (hbox);have GW520:=aQ ((by rw [hg];exact (below_size bB):w.heap.size ≤ gb520));have GE520:=aQ ((by rw [hg];exact (below_size bB):w.heap.size ≤ gb520));replace HB:=aQ (below_step bB hb);have NB519_520:=aQ ((by rw [hg];exact Nat.ne_of_lt (blk_lt (g:=gb519) (o:=.cells #[.int .i64 a0_0,.int .i64 a0_1,.slice A0_2 l0_2.length c0_2] 29 (0,0)) (nB BK519.out)):gb519 ≠ gb520));have NB520_519:=aQ ((by rw [hg];exact Nat.ne_of_gt (blk_lt (g:=gb519) (o:=.cells #[.int .i64 a0_0,.int .i64 a0_1,.slice A0_2 l0_2.length c0_2] 29 (0,0)) (nB BK519.out)):gb520 ≠ gb519));replace BK519:=aQ (blk_below (g:=gb519) (o:=.cells #[.int .i64 a0_0,.int .i64 a0_1,.slice A0_2 l0_2.length c0_2] 29 (0,0)) (nB BK519.out) hb);clear hb hbox hg;have hnb35:=NB519_520.out;have hnc35:=NB520_519.out;have hcz36_0:w34.cell? ⟨gb519,0,none⟩ = some (.int .i64 a0_0):=(blk_cell BK519.out 0).trans rfl;have hcz36_1:w34.cell? ⟨gb519,1,none⟩ = some (.int .i64 a0_1):=(blk_cell BK519.out 1).trans rfl;have hcz36_2:w34.cell? ⟨gb519,2,none⟩ = some (.slice A0_2 l0_2.length c0_2):=(blk_cell BK519.out 2).trans rfl;have hfz36_0:=blk_frozen BK519.out 0;have hfz36_1:=blk_frozen BK519.out 1;have hfz36_2:=blk_frozen BK519.out 2))
  replace BK519:=aQ (blk_drew BK519.out)
  replace BK520:=aQ (blk_drew BK520.out)
  replace HB:=aQ (below_drew1 HB.out)
  have p532:0 ≤ (0:Int):=(by omega)
  have q532:0 < (l0_2.length:Int):=of_decide_eq_true (by first | (with_reducible assumption) | assumption)
  obtain ⟨ad532,A532_2,c532_2,e532,hx532_0,hx532_1,hx532_2,hl532_2,hi532_2⟩:=at_T29 HR0_2.out 0 p532 q532
  have hw532_2:=hx532_2
  (try rw [show ((0:Int)).toNat = 0 from rfl] at hw532_2)
  (try rw [show 0 * 3 = 0 from rfl] at hw532_2)
  (try rw [Addr.add_zero'] at hw532_2)
  have hw532_1:=hx532_1
  (try rw [show ((0:Int)).toNat = 0 from rfl] at hw532_1)
  (try rw [show 0 * 3 = 0 from rfl] at hw532_1)
  (try rw [Addr.add_zero'] at hw532_1)
  have hw532_0:=hx532_0
  (try rw [show ((0:Int)).toNat = 0 from rfl] at hw532_0)
  (try rw [show 0 * 3 = 0 from rfl] at hw532_0)
  (try rw [Addr.add_zero'] at hw532_0)
  cases e532
  have qi532:(0 < l0_2.length) = True:=eq_true (by omega)
  (try rw [show ((0:Int)).toNat = 0 from rfl] at hx532_0)
  (try rw [show 0 * 3 = 0 from rfl] at hx532_0)
  (try rw [Addr.add_zero'] at hx532_0)
  (try rw [show ((0:Int)).toNat = 0 from rfl] at hx532_1)
  (try rw [show 0 * 3 = 0 from rfl] at hx532_1)
  (try rw [Addr.add_zero'] at hx532_1)
  (try rw [show ((0:Int)).toNat = 0 from rfl] at hx532_2)
  (try rw [show 0 * 3 = 0 from rfl] at hx532_2)
  (try rw [Addr.add_zero'] at hx532_2)
  replace hx532_0:=(HB.out.cell (World.block_lt_of_cell? w _ hx532_0)).trans hx532_0
  replace hx532_1:=(HB.out.cell (World.block_lt_of_cell? w _ hx532_1)).trans hx532_1
  replace hx532_2:=(HB.out.cell (World.block_lt_of_cell? w _ hx532_2)).trans hx532_2
  have HR532_2:=aQ hi532_2
  have HC532_2:=aQ hl532_2
  clear hi532_2 hl532_2
  replace p532:=eq_true p532
  replace q532:=eq_true q532
  refine start_ (n:=14) (S:=fun w'=>w'.cell? ⟨gb519,0,none⟩ = some (.int .i64 a0_0)∧w'.cell? ⟨gb519,1,none⟩ = some (.int .i64 a0_1)∧w'.cell? ⟨gb519,2,none⟩ = some (.slice (some ad532) l0_2.length c0_2)∧w'.cell? ad532 = some (.int .i64 ((rd_T29 l0_2 0).f0))∧w'.cell? ⟨ad532.block,ad532.off + 1,none⟩ = some (.int .i64 ((rd_T29 l0_2 0).f1))∧w'.cell? ⟨ad532.block,ad532.off + 2,none⟩ = some (.slice A532_2 ((rd_T29 l0_2 0).f2).length c532_2)) (ds:=[]) #[false,false,false,false,false,false,false,false,false,false,false,false,false,false] (by kernel_rfl) rfl rfl ⟨(blk_cell BK519.out 0).trans rfl,(blk_cell BK519.out 1).trans rfl,(blk_cell BK519.out 2).trans rfl,((HB.out.cell (World.block_lt_of_cell? w _ hw532_0)).trans hw532_0),((HB.out.cell (World.block_lt_of_cell? w _ hw532_1)).trans hw532_1),((HB.out.cell (World.block_lt_of_cell? w _ hw532_2)).trans hw532_2)⟩ (fun hHeld=>?_);refine with_tabW spec_l17Pass.tab9 spec_l17Pass.bits9 (fun HT_ HW_=>?_)
  generalize w34.drew = w37 at BK519 BK520 HB HR532_2 hx532_0 hx532_1 hx532_2 hHeld ⊢
  refine pur (i:=0) (N:=some 30) #[true,false,false,false,false,false,false,false,false,false,false,false,false,false] ?_
  refine pur (i:=2) (N:=some 32) #[true,false,true,false,false,false,false,false,false,false,false,false,false,false] ?_
  refine pur (i:=5) (N:=some 35) #[true,false,true,false,false,true,false,false,false,false,false,false,false,false] ?_
  refine tak (i:=1) (N:=some 31) #[true,true,true,false,false,true,false,false,false,false,false,false,false,false] ?_
  refine tak (i:=3) (N:=some 33) #[true,true,true,true,false,true,false,false,false,false,false,false,false,false] ?_
  refine pur (i:=4) (N:=some 34) #[true,true,true,true,true,true,false,false,false,false,false,false,false,false] ?_
  refine tak (i:=6) (N:=some 36) #[true,true,true,true,true,true,true,false,false,false,false,false,false,false] ?_
  refine pur (i:=7) (N:=some 37) #[true,true,true,true,true,true,true,true,false,false,false,false,false,false] ?_
  refine tak (i:=8) (N:=some 38) #[true,true,true,true,true,true,true,true,true,false,false,false,false,false] ?_
  refine one_ (i:=9) (N:=some 39) #[true,true,true,true,true,true,true,true,true,true,false,false,false,false] rfl rfl (one_of HT_.out (by kernel_rfl)) (by decide) (fun K hK=>?_)
  refine goes1 Try.func52 #[.agg #[.int .i64 ((rd_T29 l0_2 0).f0),.int .i64 ((rd_T29 l0_2 0).f1),.slice A532_2 ((rd_T29 l0_2 0).f2).length c532_2]] ?_
  with_reducible refine (spec_l17Copy.calls k ((rd_T29 l0_2 0).f0) ((rd_T29 l0_2 0).f1) _ _ ((rd_T29 l0_2 0).f2) t533 t534 t535 _ ?side1 ?side2 A32.out).mono ?_
  (case side1=>repeat (first | exact (Kd.C_below HR532_2.out HB.out) | (with_reducible refine Kd.C_alloc ?_ _) | (with_reducible refine Kd.C_drewN ?_ _) | (with_reducible refine Kd.C_drew ?_)))
  (case side2=>exact HC532_2.out)
  rintro e w38 ⟨v536,rfl,ho0,hb⟩
  refine ⟨_,rfl,?_⟩
  have HO537:=aQ (Kd.N_lower (Kd.N_mono (ok':=fun k_=>(w.heap.size ≤ k_)∧k_ ≠ gb519∧k_ ≠ gb520) ho0 (fun k_ hk_=>⟨(Nat.le_trans (below_size bB) hk_),(Kd.freshB (g:=gb519) (o:=.cells #[.int .i64 a0_0,.int .i64 a0_1,.slice (some ad532) l0_2.length c0_2] 29 (0,0)) (nB BK519.out) k_ hk_),(Kd.freshB (g:=gb520) (o:=.cells #[.int .i64 0,.int .i64 0,.slice none 0 0] 29 (0,0)) (nB BK520.out) k_ hk_)⟩)) (below_size bB))
  replace BK519:=aQ (blk_below (g:=gb519) (o:=.cells #[.int .i64 a0_0,.int .i64 a0_1,.slice (some ad532) l0_2.length c0_2] 29 (0,0)) (nB BK519.out) hb)
  replace BK520:=aQ (blk_below (g:=gb520) (o:=.cells #[.int .i64 0,.int .i64 0,.slice none 0 0] 29 (0,0)) (nB BK520.out) hb)
  replace HB:=aQ (below_step bB hb)
  (try clear hb)
  (try clear ho0)
  obtain ⟨Ao39,co39,eo39⟩:=Kd.N_slice HO537.out
  (first | subst eo39 | (injection eo39 with f1_ f2_ f3_;have f4_:=f1_.symm;have f5_:=f3_.symm;clear f1_ f2_ f3_;subst f4_;subst f5_))
  refine hK.out _ _ ⟨(blk_cell BK519.out 0).trans rfl,(blk_cell BK519.out 1).trans rfl,(blk_cell BK519.out 2).trans rfl,((HB.out.cell (World.block_lt_of_cell? w _ hw532_0)).trans hw532_0),((HB.out.cell (World.block_lt_of_cell? w _ hw532_1)).trans hw532_1),((HB.out.cell (World.block_lt_of_cell? w _ hw532_2)).trans hw532_2)⟩ (fun hHeld=>?_)
  clear hK K
  refine nrm (N:=some 39) ?_
  refine one_ (i:=10) (N:=some 40) #[true,true,true,true,true,true,true,true,true,true,true,false,false,false] rfl rfl (one_of HT_.out (by kernel_rfl)) (by decide) (fun K hK=>?_)
  refine Kd.N_lit_step k29 _ 29 ?hg (N':=40) ?hd (xs:=([(⟨t533,t534,t535⟩:S29)]:List (S29))) (inner:=[.int .i64 t533,.int .i64 t534,.slice Ao39 t535.length co39]) (ok:=(fun k_=>(w.heap.size ≤ k_)∧k_ ≠ gb519∧k_ ≠ gb520)) (okp:=(fun k_=>(w.heap.size ≤ k_)∧k_ ≠ gb519∧k_ ≠ gb520)) ?hr ?hp (fun _ hk=>hk) ((show ∀ k_,w38.heap.size ≤ k_ → (fun k_=>(w.heap.size ≤ k_)∧k_ ≠ gb519∧k_ ≠ gb520) k_ from fun k_ hk=>⟨(Nat.le_trans (below_size bB) hk),Kd.freshB (g:=gb519) (o:=.cells #[.int .i64 a0_0,.int .i64 a0_1,.slice (some ad532) l0_2.length c0_2] 29 (0,0)) (nB BK519.out) k_ hk,Kd.freshB (g:=gb520) (o:=.cells #[.int .i64 0,.int .i64 0,.slice none 0 0] 29 (0,0)) (nB BK520.out) k_ hk⟩) _ (Nat.le_refl _)) (Below.refl _ _) (Nat.le_refl _) (by simp) ?_;(case hd=>rfl);(case hg=>rfl);(case hr=>first | (go_simp;done) | (go_simp;rfl));(case hp=>exact (Reps.c3 (show Kd.FK k29 _ _ (⟨t533,t534,t535⟩:S29) [.int .i64 t533,.int .i64 t534,.slice Ao39 t535.length co39] from (k29_mkF _ _ (⟨t533,t534,t535⟩:S29) (Kd.N_reads' (Kd.N_mono (ok':=(fun k_=>(w.heap.size ≤ k_)∧k_ ≠ gb519∧k_ ≠ gb520)) (HO537.out) (fun k_ hk=>⟨hk.1,⟨hk.2.1,hk.2.2⟩⟩))).2.1 (Kd.N_F (Kd.N_mono (ok':=(fun k_=>(w.heap.size ≤ k_)∧k_ ≠ gb519∧k_ ≠ gb520)) (HO537.out) (fun k_ hk=>⟨hk.1,⟨hk.2.1,hk.2.2⟩⟩))))) (Reps.none _ _)))
  intro v539 w40 ho41 hb hg_ hnew_
  clear hg_ hnew_
  (first | rw [← Ny538.out] at ho41 | (simp only [Int.reduceToNat] at ho41;rw [← Ny538.out] at ho41))
  have n0_:=aQ (Kd.N_lower ho41 (below_size bB))
  have n1_:=aQ (blk_below (g:=gb519) (o:=.cells #[.int .i64 a0_0,.int .i64 a0_1,.slice (some ad532) l0_2.length c0_2] 29 (0,0)) (nB BK519.out) hb)
  have n2_:=aQ (blk_below (g:=gb520) (o:=.cells #[.int .i64 0,.int .i64 0,.slice none 0 0] 29 (0,0)) (nB BK520.out) hb)
  have n3_:=aQ (below_step bB hb)
  clear BK519 BK520 HB HO537
  have HO540:=n0_
  have BK519:=n1_
  have BK520:=n2_
  have HB:=n3_
  clear n0_ n1_ n2_ n3_
  clear hb ho41
  obtain ⟨Ao42,co42,eo42⟩:=Kd.N_slice HO540.out
  (first | subst eo42 | (injection eo42 with f1_ f2_ f3_;have f4_:=f1_.symm;have f5_:=f3_.symm;clear f1_ f2_ f3_;subst f4_;subst f5_))
  refine hK.out _ _ ⟨(blk_cell BK519.out 0).trans rfl,(blk_cell BK519.out 1).trans rfl,(blk_cell BK519.out 2).trans rfl,((HB.out.cell (World.block_lt_of_cell? w _ hw532_0)).trans hw532_0),((HB.out.cell (World.block_lt_of_cell? w _ hw532_1)).trans hw532_1),((HB.out.cell (World.block_lt_of_cell? w _ hw532_2)).trans hw532_2)⟩ (fun hHeld=>?_)
  clear hK K
  refine nrm (N:=some 40) ?_
  refine pur (i:=11) (N:=some 41) #[true,true,true,true,true,true,true,true,true,true,true,true,false,false] ?_
  refine one_ (i:=12) (N:=none) #[true,true,true,true,true,true,true,true,true,true,true,true,true,false] rfl rfl (one_of HT_.out (by kernel_rfl)) (by decide) (fun K hK=>?_)
  have hs43:w40.cell? ⟨gb520,0,none⟩ = some (.int .i64 0):=(blk_cell BK520.out 0).trans rfl
  have hfs43:=blk_frozen BK520.out 0
  have hns43_0:=NB519_520.out
  have hms43_0:=NB520_519.out
  have hs44:w40.cell? ⟨gb520,1,none⟩ = some (.int .i64 0):=(blk_cell BK520.out 1).trans rfl
  have hfs44:=blk_frozen BK520.out 1
  have hns44_0:=NB519_520.out
  have hms44_0:=NB520_519.out
  have hs45:w40.cell? ⟨gb520,2,none⟩ = some (.slice none 0 0):=(blk_cell BK520.out 2).trans rfl
  have hfs45:=blk_frozen BK520.out 2
  have hns45_0:=NB519_520.out
  have hms45_0:=NB520_519.out
  refine skip_ (w1:=?_) (by rfl) rfl ?_ ?_
  rotate_left
  ·go_simp
   rfl
  refine hK.out _ _ ⟨((cell_far (p:=⟨gb520,_,none⟩) NB519_520.out _).trans (((cell_far (p:=⟨gb520,_,none⟩) NB519_520.out _).trans (((cell_far (p:=⟨gb520,_,none⟩) NB519_520.out _).trans (hHeld.1)))))),((cell_far (p:=⟨gb520,_,none⟩) NB519_520.out _).trans (((cell_far (p:=⟨gb520,_,none⟩) NB519_520.out _).trans (((cell_far (p:=⟨gb520,_,none⟩) NB519_520.out _).trans (hHeld.2.1)))))),((cell_far (p:=⟨gb520,_,none⟩) NB519_520.out _).trans (((cell_far (p:=⟨gb520,_,none⟩) NB519_520.out _).trans (((cell_far (p:=⟨gb520,_,none⟩) NB519_520.out _).trans (hHeld.2.2.1)))))),((cell_far (p:=⟨gb520,_,none⟩) (by first | exact Nat.ne_of_lt (Nat.lt_of_lt_of_le (by have:=World.block_lt_of_cell? _ _ hw532_0;first | rwa [add_block] at this | exact this) GW520.out) | (rw [add_block];exact Nat.ne_of_lt (Nat.lt_of_lt_of_le (by have:=World.block_lt_of_cell? _ _ hw532_0;first | rwa [add_block] at this | exact this) GW520.out)) | (show (Addr.add _ _).block ≠ _;rw [add_block];exact Nat.ne_of_lt (Nat.lt_of_lt_of_le (by have:=World.block_lt_of_cell? _ _ hw532_0;first | rwa [add_block] at this | exact this) GW520.out)) | (dsimp only;exact Nat.ne_of_lt (Nat.lt_of_lt_of_le (by have:=World.block_lt_of_cell? _ _ hw532_0;first | rwa [add_block] at this | exact this) GW520.out))) _).trans (((cell_far (p:=⟨gb520,_,none⟩) (by first | exact Nat.ne_of_lt (Nat.lt_of_lt_of_le (by have:=World.block_lt_of_cell? _ _ hw532_0;first | rwa [add_block] at this | exact this) GW520.out) | (rw [add_block];exact Nat.ne_of_lt (Nat.lt_of_lt_of_le (by have:=World.block_lt_of_cell? _ _ hw532_0;first | rwa [add_block] at this | exact this) GW520.out)) | (show (Addr.add _ _).block ≠ _;rw [add_block];exact Nat.ne_of_lt (Nat.lt_of_lt_of_le (by have:=World.block_lt_of_cell? _ _ hw532_0;first | rwa [add_block] at this | exact this) GW520.out)) | (dsimp only;exact Nat.ne_of_lt (Nat.lt_of_lt_of_le (by have:=World.block_lt_of_cell? _ _ hw532_0;first | rwa [add_block] at this | exact this) GW520.out))) _).trans (((cell_far (p:=⟨gb520,_,none⟩) (by first | exact Nat.ne_of_lt (Nat.lt_of_lt_of_le (by have:=World.block_lt_of_cell? _ _ hw532_0;first | rwa [add_block] at this | exact this) GW520.out) | (rw [add_block];exact Nat.ne_of_lt (Nat.lt_of_lt_of_le (by have:=World.block_lt_of_cell? _ _ hw532_0;first | rwa [add_block] at this | exact this) GW520.out)) | (show (Addr.add _ _).block ≠ _;rw [add_block];exact Nat.ne_of_lt (Nat.lt_of_lt_of_le (by have:=World.block_lt_of_cell? _ _ hw532_0;first | rwa [add_block] at this | exact this) GW520.out)) | (dsimp only;exact Nat.ne_of_lt (Nat.lt_of_lt_of_le (by have:=World.block_lt_of_cell? _ _ hw532_0;first | rwa [add_block] at this | exact this) GW520.out))) _).trans (hHeld.2.2.2.1)))))),((cell_far (p:=⟨gb520,_,none⟩) (by first | exact Nat.ne_of_lt (Nat.lt_of_lt_of_le (by have:=World.block_lt_of_cell? _ _ hw532_1;first | rwa [add_block] at this | exact this) GW520.out) | (rw [add_block];exact Nat.ne_of_lt (Nat.lt_of_lt_of_le (by have:=World.block_lt_of_cell? _ _ hw532_1;first | rwa [add_block] at this | exact this) GW520.out)) | (show (Addr.add _ _).block ≠ _;rw [add_block];exact Nat.ne_of_lt (Nat.lt_of_lt_of_le (by have:=World.block_lt_of_cell? _ _ hw532_1;first | rwa [add_block] at this | exact this) GW520.out)) | (dsimp only;exact Nat.ne_of_lt (Nat.lt_of_lt_of_le (by have:=World.block_lt_of_cell? _ _ hw532_1;first | rwa [add_block] at this | exact this) GW520.out))) _).trans (((cell_far (p:=⟨gb520,_,none⟩) (by first | exact Nat.ne_of_lt (Nat.lt_of_lt_of_le (by have:=World.block_lt_of_cell? _ _ hw532_1;first | rwa [add_block] at this | exact this) GW520.out) | (rw [add_block];exact Nat.ne_of_lt (Nat.lt_of_lt_of_le (by have:=World.block_lt_of_cell? _ _ hw532_1;first | rwa [add_block] at this | exact this) GW520.out)) | (show (Addr.add _ _).block ≠ _;rw [add_block];exact Nat.ne_of_lt (Nat.lt_of_lt_of_le (by have:=World.block_lt_of_cell? _ _ hw532_1;first | rwa [add_block] at this | exact this) GW520.out)) | (dsimp only;exact Nat.ne_of_lt (Nat.lt_of_lt_of_le (by have:=World.block_lt_of_cell? _ _ hw532_1;first | rwa [add_block] at this | exact this) GW520.out))) _).trans (((cell_far (p:=⟨gb520,_,none⟩) (by first | exact Nat.ne_of_lt (Nat.lt_of_lt_of_le (by have:=World.block_lt_of_cell? _ _ hw532_1;first | rwa [add_block] at this | exact this) GW520.out) | (rw [add_block];exact Nat.ne_of_lt (Nat.lt_of_lt_of_le (by have:=World.block_lt_of_cell? _ _ hw532_1;first | rwa [add_block] at this | exact this) GW520.out)) | (show (Addr.add _ _).block ≠ _;rw [add_block];exact Nat.ne_of_lt (Nat.lt_of_lt_of_le (by have:=World.block_lt_of_cell? _ _ hw532_1;first | rwa [add_block] at this | exact this) GW520.out)) | (dsimp only;exact Nat.ne_of_lt (Nat.lt_of_lt_of_le (by have:=World.block_lt_of_cell? _ _ hw532_1;first | rwa [add_block] at this | exact this) GW520.out))) _).trans (hHeld.2.2.2.2.1)))))),((cell_far (p:=⟨gb520,_,none⟩) (by first | exact Nat.ne_of_lt (Nat.lt_of_lt_of_le (by have:=World.block_lt_of_cell? _ _ hw532_2;first | rwa [add_block] at this | exact this) GW520.out) | (rw [add_block];exact Nat.ne_of_lt (Nat.lt_of_lt_of_le (by have:=World.block_lt_of_cell? _ _ hw532_2;first | rwa [add_block] at this | exact this) GW520.out)) | (show (Addr.add _ _).block ≠ _;rw [add_block];exact Nat.ne_of_lt (Nat.lt_of_lt_of_le (by have:=World.block_lt_of_cell? _ _ hw532_2;first | rwa [add_block] at this | exact this) GW520.out)) | (dsimp only;exact Nat.ne_of_lt (Nat.lt_of_lt_of_le (by have:=World.block_lt_of_cell? _ _ hw532_2;first | rwa [add_block] at this | exact this) GW520.out))) _).trans (((cell_far (p:=⟨gb520,_,none⟩) (by first | exact Nat.ne_of_lt (Nat.lt_of_lt_of_le (by have:=World.block_lt_of_cell? _ _ hw532_2;first | rwa [add_block] at this | exact this) GW520.out) | (rw [add_block];exact Nat.ne_of_lt (Nat.lt_of_lt_of_le (by have:=World.block_lt_of_cell? _ _ hw532_2;first | rwa [add_block] at this | exact this) GW520.out)) | (show (Addr.add _ _).block ≠ _;rw [add_block];exact Nat.ne_of_lt (Nat.lt_of_lt_of_le (by have:=World.block_lt_of_cell? _ _ hw532_2;first | rwa [add_block] at this | exact this) GW520.out)) | (dsimp only;exact Nat.ne_of_lt (Nat.lt_of_lt_of_le (by have:=World.block_lt_of_cell? _ _ hw532_2;first | rwa [add_block] at this | exact this) GW520.out))) _).trans (((cell_far (p:=⟨gb520,_,none⟩) (by first | exact Nat.ne_of_lt (Nat.lt_of_lt_of_le (by have:=World.block_lt_of_cell? _ _ hw532_2;first | rwa [add_block] at this | exact this) GW520.out) | (rw [add_block];exact Nat.ne_of_lt (Nat.lt_of_lt_of_le (by have:=World.block_lt_of_cell? _ _ hw532_2;first | rwa [add_block] at this | exact this) GW520.out)) | (show (Addr.add _ _).block ≠ _;rw [add_block];exact Nat.ne_of_lt (Nat.lt_of_lt_of_le (by have:=World.block_lt_of_cell? _ _ hw532_2;first | rwa [add_block] at this | exact this) GW520.out)) | (dsimp only;exact Nat.ne_of_lt (Nat.lt_of_lt_of_le (by have:=World.block_lt_of_cell? _ _ hw532_2;first | rwa [add_block] at this | exact this) GW520.out))) _).trans (hHeld.2.2.2.2.2))))))⟩ (fun hHeld=>?_)
  clear hK K
  refine pur (i:=13) (N:=some 3) #[true,true,true,true,true,true,true,true,true,true,true,true,true,true] ?_
  refine done_ (done_of HT_.out (by kernel_rfl)) ?_
  try go_wp2
  refine bodyPost_ret (results_ct rfl _ _ gb520 29 #[.int .i64 a0_0,.int .i64 (wrap64 (a0_1 - 1)),.slice Ao42 y538.length co42] (0,0) _ rfl bP Try.underlying29 rfl (by kernel_rfl)) rfl ?_
  exact ⟨_,rfl,by (with_reducible repeat (first | apply Kd.N_alloc | apply Kd.N_drewN | apply Kd.N_drew));exact Kd.N_mono (nFN (g:=gb520) HO540.out (fun k_ hk=>hk.2.2)) (fun _ hk=>hk.1),bB⟩
 rw [if_neg c20] at H
 have c20b0:(a0_0 == 2) = false:=beq_eq_false_iff_ne.mpr c20
 have c20b1:(a0_0 != 2) = true:=bne_iff_ne.mpr c20
 by_cases c46:0 < (l0_2.length:Int);rotate_left
 ·rw [if_neg c46] at H
  exact absurd H (by simp)
 rw [if_pos c46] at H
 have c46b0:decide (0 < (l0_2.length:Int)) = true:=decide_eq_true c46
 have c46b1:decide (0 < l0_2.length) = true:=decide_eq_true (by omega)
 clear c46
 obtain ⟨⟨t542,t543,t544,t547⟩,A47,H⟩:=bQ H
 dsimp only at H
 by_cases c48:1 < (l0_2.length:Int);rotate_left
 ·rw [if_neg c48] at H
  exact absurd H (by simp)
 rw [if_pos c48] at H
 have c48b0:decide (1 < (l0_2.length:Int)) = true:=decide_eq_true c48
 have c48b1:decide (1 < l0_2.length) = true:=decide_eq_true (by omega)
 clear c48
 obtain ⟨⟨t550,t551,t552,t555⟩,A49,H⟩:=bQ H
 dsimp only at H
 by_cases c50:t547 = true
 ·subst c50
  have H1:(if t555 = true then (if a0_0 = 4 then ((spec_l17Meet.f k ((rd_T29 l0_2 0).f0) ((rd_T29 l0_2 0).f1) ((rd_T29 l0_2 0).f2) ((rd_T29 l0_2 1).f0) ((rd_T29 l0_2 1).f1) ((rd_T29 l0_2 1).f2)).bind fun t559=>(if t559 = true then (some (0,0,([]:List (S29)),false)) else ((spec_l17Two.f a0_0 t542 t543 t544 t550 t551 t552).bind fun bt560=>(some (bt560.1,bt560.2.1,bt560.2.2,true))))) else ((spec_l17Two.f a0_0 t542 t543 t544 t550 t551 t552).bind fun bt565=>(some (bt565.1,bt565.2.1,bt565.2.2,true)))) else (some (0,0,([]:List (S29)),false))) = some (r1,r2,r3,r4):=by rw [if_pos rfl] at H;exact H
  clear H
  have H:=H1
  clear H1
  by_cases c51:t555 = true
  ·subst c51
   have H1:(if a0_0 = 4 then ((spec_l17Meet.f k ((rd_T29 l0_2 0).f0) ((rd_T29 l0_2 0).f1) ((rd_T29 l0_2 0).f2) ((rd_T29 l0_2 1).f0) ((rd_T29 l0_2 1).f1) ((rd_T29 l0_2 1).f2)).bind fun t559=>(if t559 = true then (some (0,0,([]:List (S29)),false)) else ((spec_l17Two.f a0_0 t542 t543 t544 t550 t551 t552).bind fun bt560=>(some (bt560.1,bt560.2.1,bt560.2.2,true))))) else ((spec_l17Two.f a0_0 t542 t543 t544 t550 t551 t552).bind fun bt565=>(some (bt565.1,bt565.2.1,bt565.2.2,true)))) = some (r1,r2,r3,r4):=by rw [if_pos rfl] at H;exact H
   clear H
   have H:=H1
   clear H1
   by_cases c52:a0_0 = 4;rotate_left
   ·rw [if_neg c52] at H
    have c52b0:(a0_0 == 4) = false:=beq_eq_false_iff_ne.mpr c52
    have c52b1:(a0_0 != 4) = true:=bne_iff_ne.mpr c52
    obtain ⟨⟨t565,t566,t567⟩,A105,H⟩:=bQ H
    dsimp only at H
    simp only [Option.some.injEq,Prod.mk.injEq] at H
    obtain ⟨rfl,rfl,rfl,rfl⟩:=H
    go_enter Try.func50,Try.ntmps50
    try go_wp2_with (first | ((with_reducible refine gate_dst (N:=1) rfl ?_);refine box1 (N:=1) (cs:=#[.int .i64 a0_0,.int .i64 a0_1,.slice A0_2 l0_2.length c0_2]) (t:=29) ?_;intro gb519 hg w106 hbox hb;have BK519:=aQ (hbox);have GW519:=aQ ((by rw [hg];exact (below_size bB):w.heap.size ≤ gb519));have GE519:=aQ ((by rw [hg];exact (below_size bB):w.heap.size ≤ gb519));replace HB:=aQ (below_step bB hb);clear hb hbox hg) | ((with_reducible refine gate_dst (N:=2) rfl ?_);refine box1 (N:=2) (cs:=#[.int .i64 0,.int .i64 0,.slice none 0 0]) (t:=29) ?_;intro gb520 hg w107 hbox hb;have BK520:=aQ (hbox);have GW520:=aQ ((by rw [hg];exact (below_size bB):w.heap.size ≤ gb520));have GE520:=aQ ((by rw [hg];exact (below_size bB):w.heap.size ≤ gb520));replace HB:=aQ (below_step bB hb);have NB519_520:=aQ ((by rw [hg];exact Nat.ne_of_lt (blk_lt (g:=gb519) (o:=.cells #[.int .i64 a0_0,.int .i64 a0_1,.slice A0_2 l0_2.length c0_2] 29 (0,0)) (nB BK519.out)):gb519 ≠ gb520));have NB520_519:=aQ ((by rw [hg];exact Nat.ne_of_gt (blk_lt (g:=gb519) (o:=.cells #[.int .i64 a0_0,.int .i64 a0_1,.slice A0_2 l0_2.length c0_2] 29 (0,0)) (nB BK519.out)):gb520 ≠ gb519));replace BK519:=aQ (blk_below (g:=gb519) (o:=.cells #[.int .i64 a0_0,.int .i64 a0_1,.slice A0_2 l0_2.length c0_2] 29 (0,0)) (nB BK519.out) hb);clear hb hbox hg;have hnb108:=NB519_520.out;have hnc108:=NB520_519.out;have hcz109_0:w107.cell? ⟨gb519,0,none⟩ = some (.int .i64 a0_0):=(blk_cell BK519.out 0).trans rfl;have hcz109_1:w107.cell? ⟨gb519,1,none⟩ = some (.int .i64 a0_1):=(blk_cell BK519.out 1).trans rfl;have hcz109_2:w107.cell? ⟨gb519,2,none⟩ = some (.slice A0_2 l0_2.length c0_2):=(blk_cell BK519.out 2).trans rfl;have hfz109_0:=blk_frozen BK519.out 0;have hfz109_1:=blk_frozen BK519.out 1;have hfz109_2:=blk_frozen BK519.out 2;have p541:0 ≤ (0:Int):=(by omega);have q541:0 < (l0_2.length:Int):=of_decide_eq_true (by first | (with_reducible assumption) | assumption);obtain ⟨ad541,A541_2,c541_2,e541,hx541_0,hx541_1,hx541_2,hl541_2,hi541_2⟩:=at_T29 HR0_2.out 0 p541 q541;cases e541;have qi541:(0 < l0_2.length) = True:=eq_true (by omega);(try rw [show ((0:Int)).toNat = 0 from rfl] at hx541_0);(try rw [show 0 * 3 = 0 from rfl] at hx541_0);(try rw [Addr.add_zero'] at hx541_0);(try rw [show ((0:Int)).toNat = 0 from rfl] at hx541_1);(try rw [show 0 * 3 = 0 from rfl] at hx541_1);(try rw [Addr.add_zero'] at hx541_1);(try rw [show ((0:Int)).toNat = 0 from rfl] at hx541_2);(try rw [show 0 * 3 = 0 from rfl] at hx541_2);(try rw [Addr.add_zero'] at hx541_2);replace hx541_0:=(HB.out.cell (World.block_lt_of_cell? w _ hx541_0)).trans hx541_0;replace hx541_1:=(HB.out.cell (World.block_lt_of_cell? w _ hx541_1)).trans hx541_1;replace hx541_2:=(HB.out.cell (World.block_lt_of_cell? w _ hx541_2)).trans hx541_2;have HR541_2:=aQ hi541_2;have HC541_2:=aQ hl541_2;clear hi541_2 hl541_2;replace p541:=eq_true p541;replace q541:=eq_true q541) | ((with_reducible refine gate_callee (f:=50) rfl ?_);refine goesL_ (some 47) rfl rfl Try.func50 (by kernel_rfl) rfl #[.agg #[.int .i64 ((rd_T29 l0_2 0).f0),.int .i64 ((rd_T29 l0_2 0).f1),.slice A541_2 ((rd_T29 l0_2 0).f2).length c541_2]] rfl mP ?_;(with_reducible refine (ih k (by omega) ((rd_T29 l0_2 0).f0) ((rd_T29 l0_2 0).f1) _ _ ((rd_T29 l0_2 0).f2) t542 t543 t544 true _ ?side1 ?side2 A47.out).mono ?_);(case side1=>repeat (first | exact (Kd.C_below HR541_2.out HB.out) | (with_reducible refine Kd.C_alloc ?_ _) | (with_reducible refine Kd.C_drewN ?_ _) | (with_reducible refine Kd.C_drew ?_)));(case side2=>exact HC541_2.out);rintro e w110 ⟨v545,rfl,ho0,hb⟩;refine ⟨_,rfl,?_⟩;have HO546:=aQ (Kd.N_lower (Kd.N_mono (ok':=fun k_=>(w.heap.size ≤ k_)∧k_ ≠ gb519∧k_ ≠ gb520) ho0 (fun k_ hk_=>⟨(Nat.le_trans (below_size bB) hk_),(Kd.freshB (g:=gb519) (o:=.cells #[.int .i64 a0_0,.int .i64 a0_1,.slice (some ad541) l0_2.length c0_2] 29 (0,0)) (nB BK519.out) k_ hk_),(Kd.freshB (g:=gb520) (o:=.cells #[.int .i64 0,.int .i64 0,.slice none 0 0] 29 (0,0)) (nB BK520.out) k_ hk_)⟩)) (below_size bB));replace BK519:=aQ (blk_below (g:=gb519) (o:=.cells #[.int .i64 a0_0,.int .i64 a0_1,.slice (some ad541) l0_2.length c0_2] 29 (0,0)) (nB BK519.out) hb);replace BK520:=aQ (blk_below (g:=gb520) (o:=.cells #[.int .i64 0,.int .i64 0,.slice none 0 0] 29 (0,0)) (nB BK520.out) hb);replace HB:=aQ (below_step bB hb);(try clear hb);(try clear ho0)) | ((with_reducible refine gate_dst (N:=4) rfl ?_);refine box1 (N:=4) (cs:=#[.int .i64 0,.int .i64 0,.slice none 0 0]) (t:=29) ?_;intro gb548 hg w111 hbox hb;replace HO546:=aQ (Kd.N_below (Kd.N_elderB (nN HO546.out) gb548 (Nat.le_of_eq hg.symm)) hb);have BK548:=aQ (hbox);have GW548:=aQ ((by rw [hg];exact (below_size bB):w.heap.size ≤ gb548));have GE548:=aQ ((by rw [hg];exact (below_size bB):w.heap.size ≤ gb548));replace HB:=aQ (below_step bB hb);have NB519_548:=aQ ((by rw [hg];exact Nat.ne_of_lt (blk_lt (g:=gb519) (o:=.cells #[.int .i64 a0_0,.int .i64 a0_1,.slice (some ad541) l0_2.length c0_2] 29 (0,0)) (nB BK519.out)):gb519 ≠ gb548));have NB548_519:=aQ ((by rw [hg];exact Nat.ne_of_gt (blk_lt (g:=gb519) (o:=.cells #[.int .i64 a0_0,.int .i64 a0_1,.slice (some ad541) l0_2.length c0_2] 29 (0,0)) (nB BK519.out)):gb548 ≠ gb519));replace BK519:=aQ (blk_below (g:=gb519) (o:=.cells #[.int .i64 a0_0,.int .i64 a0_1,.slice (some ad541) l0_2.length c0_2] 29 (0,0)) (nB BK519.out) hb);have NB520_548:=aQ ((by rw [hg];exact Nat.ne_of_lt (blk_lt (g:=gb520) (o:=.cells #[.int .i64 0,.int .i64 0,.slice none 0 0] 29 (0,0)) (nB BK520.out)):gb520 ≠ gb548));have NB548_520:=aQ ((by rw [hg];exact Nat.ne_of_gt (blk_lt (g:=gb520) (o:=.cells #[.int .i64 0,.int .i64 0,.slice none 0 0] 29 (0,0)) (nB BK520.out)):gb548 ≠ gb520));replace BK520:=aQ (blk_below (g:=gb520) (o:=.cells #[.int .i64 0,.int .i64 0,.slice none 0 0] 29 (0,0)) (nB BK520.out) hb);clear hb hbox hg;have hnb112:=NB548_519.out;have hnc112:=NB519_548.out;have hnb113:=NB548_520.out;have hnc113:=NB520_548.out;have hcz114_0:w111.cell? ⟨gb548,0,none⟩ = some (.int .i64 0):=(blk_cell BK548.out 0).trans rfl;have hcz114_1:w111.cell? ⟨gb548,1,none⟩ = some (.int .i64 0):=(blk_cell BK548.out 1).trans rfl;have hcz114_2:w111.cell? ⟨gb548,2,none⟩ = some (.slice none 0 0):=(blk_cell BK548.out 2).trans rfl;have hfz114_0:=blk_frozen BK548.out 0;have hfz114_1:=blk_frozen BK548.out 1;have hfz114_2:=blk_frozen BK548.out 2;obtain ⟨Ao115,co115,eo115⟩:=Kd.N_slice HO546.out;subst eo115;have hcz116_0:w111.cell? ⟨gb519,0,none⟩ = some (.int .i64 a0_0):=(blk_cell BK519.out 0).trans rfl;have hcz116_1:w111.cell? ⟨gb519,1,none⟩ = some (.int .i64 a0_1):=(blk_cell BK519.out 1).trans rfl;have hcz116_2:w111.cell? ⟨gb519,2,none⟩ = some (.slice (some ad541) l0_2.length c0_2):=(blk_cell BK519.out 2).trans rfl;have hfz116_0:=blk_frozen BK519.out 0;have hfz116_1:=blk_frozen BK519.out 1;have hfz116_2:=blk_frozen BK519.out 2;have p549:0 ≤ (1:Int):=(by omega);have q549:1 < (l0_2.length:Int):=of_decide_eq_true (by first | (with_reducible assumption) | assumption);obtain ⟨ad549,A549_2,c549_2,e549,hx549_0,hx549_1,hx549_2,hl549_2,hi549_2⟩:=at_T29 HR0_2.out 1 p549 q549;obtain rfl:ad541 = ad549:=(by injection e549);(try simp only [show (1:Int).toNat = 1 from rfl,Nat.reduceMul,Nat.reduceEqDiff,Go.Addr.add,↓reduceIte] at hx549_0);(try simp only [show (1:Int).toNat = 1 from rfl,Nat.reduceMul,Nat.reduceEqDiff,Go.Addr.add,↓reduceIte] at hx549_1);(try simp only [show (1:Int).toNat = 1 from rfl,Nat.reduceMul,Nat.reduceEqDiff,Go.Addr.add,↓reduceIte] at hx549_2);have qi549:(1 < l0_2.length) = True:=eq_true (by omega);(try rw [show ((1:Int)).toNat = 1 from rfl] at hx549_0);(try rw [show 1 * 3 = 3 from rfl] at hx549_0);(try rw [show ((1:Int)).toNat = 1 from rfl] at hx549_1);(try rw [show 1 * 3 = 3 from rfl] at hx549_1);(try rw [show ((1:Int)).toNat = 1 from rfl] at hx549_2);(try rw [show 1 * 3 = 3 from rfl] at hx549_2);have hn549_0:ad541.block ≠ gb548:=Nat.ne_of_lt (Nat.lt_of_lt_of_le (by have:=World.block_lt_of_cell? _ _ hx549_0;first | rwa [add_block] at this | exact this) GW548.out);have hn549_1:ad541.block ≠ gb548:=Nat.ne_of_lt (Nat.lt_of_lt_of_le (by have:=World.block_lt_of_cell? _ _ hx549_0;first | rwa [add_block] at this | exact this) GW548.out);have hn549_2:ad541.block ≠ gb548:=Nat.ne_of_lt (Nat.lt_of_lt_of_le (by have:=World.block_lt_of_cell? _ _ hx549_0;first | rwa [add_block] at this | exact this) GW548.out);replace hx549_0:=(HB.out.cell (World.block_lt_of_cell? w _ hx549_0)).trans hx549_0;replace hx549_1:=(HB.out.cell (World.block_lt_of_cell? w _ hx549_1)).trans hx549_1;replace hx549_2:=(HB.out.cell (World.block_lt_of_cell? w _ hx549_2)).trans hx549_2;have HR549_2:=aQ hi549_2;have HC549_2:=aQ hl549_2;clear hi549_2 hl549_2;replace hx549_0:=(cell_far (p:=⟨gb548,0,none⟩) (by first | (rw [add_block];exact hn549_0) | (show (Addr.add _ _).block ≠ _;rw [add_block];exact hn549_0) | exact hn549_0) (.int .i64 t542)).trans hx549_0;replace hx549_1:=(cell_far (p:=⟨gb548,0,none⟩) (by first | (rw [add_block];exact hn549_0) | (show (Addr.add _ _).block ≠ _;rw [add_block];exact hn549_0) | exact hn549_0) (.int .i64 t542)).trans hx549_1;replace hx549_2:=(cell_far (p:=⟨gb548,0,none⟩) (by first | (rw [add_block];exact hn549_0) | (show (Addr.add _ _).block ≠ _;rw [add_block];exact hn549_0) | exact hn549_0) (.int .i64 t542)).trans hx549_2;replace hx549_0:=(cell_far (p:=⟨gb548,1,none⟩) (by first | (rw [add_block];exact hn549_1) | (show (Addr.add _ _).block ≠ _;rw [add_block];exact hn549_1) | exact hn549_1) (.int .i64 t543)).trans hx549_0;replace hx549_1:=(cell_far (p:=⟨gb548,1,none⟩) (by first | (rw [add_block];exact hn549_1) | (show (Addr.add _ _).block ≠ _;rw [add_block];exact hn549_1) | exact hn549_1) (.int .i64 t543)).trans hx549_1;replace hx549_2:=(cell_far (p:=⟨gb548,1,none⟩) (by first | (rw [add_block];exact hn549_1) | (show (Addr.add _ _).block ≠ _;rw [add_block];exact hn549_1) | exact hn549_1) (.int .i64 t543)).trans hx549_2;replace hx549_0:=(cell_far (p:=⟨gb548,2,none⟩) (by first | (rw [add_block];exact hn549_2) | (show (Addr.add _ _).block ≠ _;rw [add_block];exact hn549_2) | exact hn549_2) (.slice Ao115 t544.length co115)).trans hx549_0;replace hx549_1:=(cell_far (p:=⟨gb548,2,none⟩) (by first | (rw [add_block];exact hn549_2) | (show (Addr.add _ _).block ≠ _;rw [add_block];exact hn549_2) | exact hn549_2) (.slice Ao115 t544.length co115)).trans hx549_1;replace hx549_2:=(cell_far (p:=⟨gb548,2,none⟩) (by first | (rw [add_block];exact hn549_2) | (show (Addr.add _ _).block ≠ _;rw [add_block];exact hn549_2) | exact hn549_2) (.slice Ao115 t544.length co115)).trans hx549_2;clear hn549_0;clear hn549_1;clear hn549_2;replace p549:=eq_true p549;replace q549:=eq_true q549) | ((with_reducible refine gate_callee (f:=50) rfl ?_);refine goesL_ (some 55) rfl rfl Try.func50 (by kernel_rfl) rfl #[.agg #[.int .i64 ((rd_T29 l0_2 1).f0),.int .i64 ((rd_T29 l0_2 1).f1),.slice A549_2 ((rd_T29 l0_2 1).f2).length c549_2]] rfl mP ?_;(with_reducible refine (ih k (by omega) ((rd_T29 l0_2 1).f0) ((rd_T29 l0_2 1).f1) _ _ ((rd_T29 l0_2 1).f2) t550 t551 t552 true _ ?side1 ?side2 A49.out).mono ?_);(case side1=>exact Kd.C_below HR549_2.out bB);(case side2=>exact HC549_2.out);rintro e w117 ⟨v553,rfl,ho0,hb⟩;refine ⟨_,rfl,?_⟩;have HO554:=aQ (Kd.N_lower (Kd.N_mono (ok':=fun k_=>(w.heap.size ≤ k_)∧some k_ ≠ (.slice Ao115 t544.length co115:Value).ownBlock∧k_ ≠ gb519∧k_ ≠ gb520∧k_ ≠ gb548) ho0 (fun k_ hk_=>⟨(Nat.le_trans (below_size bB) hk_),(Kd.fresh' (Kd.N_lt (nN ((Kd.N_mono (Kd.N_far (p:=⟨gb548,2,none⟩) (Kd.N_far (p:=⟨gb548,1,none⟩) (Kd.N_far (p:=⟨gb548,0,none⟩) (Kd.N_mono HO546.out (fun k_ hk=>(⟨hk,hk.2⟩:_∧k_ ≠ gb548))) (fun _ hk=>hk.2) (.int .i64 t542)) (fun _ hk=>hk.2) (.int .i64 t543)) (fun _ hk=>hk.2) (.slice Ao115 t544.length co115)) (fun _ h_=>h_.1))))) k_ hk_),(Kd.freshB (g:=gb519) (o:=.cells #[.int .i64 a0_0,.int .i64 a0_1,.slice (some ad541) l0_2.length c0_2] 29 (0,0)) bF k_ hk_),(Kd.freshB (g:=gb520) (o:=.cells #[.int .i64 0,.int .i64 0,.slice none 0 0] 29 (0,0)) bF k_ hk_),(Kd.freshB (g:=gb548) (o:=.cells #[.int .i64 t542,.int .i64 t543,.slice Ao115 t544.length co115] 29 (0,0)) bP k_ hk_)⟩)) (below_size bB));replace HO546:=aQ (Kd.N_elder' (nN ((Kd.N_mono (Kd.N_far (p:=⟨gb548,2,none⟩) (Kd.N_far (p:=⟨gb548,1,none⟩) (Kd.N_far (p:=⟨gb548,0,none⟩) (Kd.N_mono HO546.out (fun k_ hk=>(⟨hk,hk.2⟩:_∧k_ ≠ gb548))) (fun _ hk=>hk.2) (.int .i64 t542)) (fun _ hk=>hk.2) (.int .i64 t543)) (fun _ hk=>hk.2) (.slice Ao115 t544.length co115)) (fun _ h_=>h_.1)))) (Kd.N_base ho0) hb);replace BK519:=aQ (blk_below (g:=gb519) (o:=.cells #[.int .i64 a0_0,.int .i64 a0_1,.slice (some ad541) l0_2.length c0_2] 29 (0,0)) bF hb);replace BK520:=aQ (blk_below (g:=gb520) (o:=.cells #[.int .i64 0,.int .i64 0,.slice none 0 0] 29 (0,0)) bF hb);replace BK548:=aQ (blk_below (g:=gb548) (o:=.cells #[.int .i64 t542,.int .i64 t543,.slice Ao115 t544.length co115] 29 (0,0)) bP hb);replace HB:=aQ (below_step bB hb);(try clear hb);(try clear ho0)) | ((with_reducible refine gate_dst (N:=6) rfl ?_);refine box1 (N:=6) (cs:=#[.int .i64 0,.int .i64 0,.slice none 0 0]) (t:=29) ?_;intro gb556 hg w118 hbox hb;replace HO546:=aQ (Kd.N_below (Kd.N_elderB (nN HO546.out) gb556 (Nat.le_of_eq hg.symm)) hb);replace HO554:=aQ (Kd.N_below (Kd.N_elderB (nN HO554.out) gb556 (Nat.le_of_eq hg.symm)) hb);have BK556:=aQ (hbox);have GW556:=aQ ((by rw [hg];exact (below_size bB):w.heap.size ≤ gb556));have GE556:=aQ ((by rw [hg];exact (below_size bB):w.heap.size ≤ gb556));replace HB:=aQ (below_step bB hb);have NB519_556:=aQ ((by rw [hg];exact Nat.ne_of_lt (blk_lt (g:=gb519) (o:=.cells #[.int .i64 a0_0,.int .i64 a0_1,.slice (some ad541) l0_2.length c0_2] 29 (0,0)) (nB BK519.out)):gb519 ≠ gb556));have NB556_519:=aQ ((by rw [hg];exact Nat.ne_of_gt (blk_lt (g:=gb519) (o:=.cells #[.int .i64 a0_0,.int .i64 a0_1,.slice (some ad541) l0_2.length c0_2] 29 (0,0)) (nB BK519.out)):gb556 ≠ gb519));replace BK519:=aQ (blk_below (g:=gb519) (o:=.cells #[.int .i64 a0_0,.int .i64 a0_1,.slice (some ad541) l0_2.length c0_2] 29 (0,0)) (nB BK519.out) hb);have NB520_556:=aQ ((by rw [hg];exact Nat.ne_of_lt (blk_lt (g:=gb520) (o:=.cells #[.int .i64 0,.int .i64 0,.slice none 0 0] 29 (0,0)) (nB BK520.out)):gb520 ≠ gb556));have NB556_520:=aQ ((by rw [hg];exact Nat.ne_of_gt (blk_lt (g:=gb520) (o:=.cells #[.int .i64 0,.int .i64 0,.slice none 0 0] 29 (0,0)) (nB BK520.out)):gb556 ≠ gb520));replace BK520:=aQ (blk_below (g:=gb520) (o:=.cells #[.int .i64 0,.int .i64 0,.slice none 0 0] 29 (0,0)) (nB BK520.out) hb);have NB548_556:=aQ ((by rw [hg];exact Nat.ne_of_lt (blk_lt (g:=gb548) (o:=.cells #[.int .i64 t542,.int .i64 t543,.slice Ao115 t544.length co115] 29 (0,0)) (nB BK548.out)):gb548 ≠ gb556));have NB556_548:=aQ ((by rw [hg];exact Nat.ne_of_gt (blk_lt (g:=gb548) (o:=.cells #[.int .i64 t542,.int .i64 t543,.slice Ao115 t544.length co115] 29 (0,0)) (nB BK548.out)):gb556 ≠ gb548));replace BK548:=aQ (blk_below (g:=gb548) (o:=.cells #[.int .i64 t542,.int .i64 t543,.slice Ao115 t544.length co115] 29 (0,0)) (nB BK548.out) hb);clear hb hbox hg;have hnb119:=NB556_519.out;have hnc119:=NB519_556.out;have hnb120:=NB556_520.out;have hnc120:=NB520_556.out;have hnb121:=NB556_548.out;have hnc121:=NB548_556.out;have hcz122_0:w118.cell? ⟨gb556,0,none⟩ = some (.int .i64 0):=(blk_cell BK556.out 0).trans rfl;have hcz122_1:w118.cell? ⟨gb556,1,none⟩ = some (.int .i64 0):=(blk_cell BK556.out 1).trans rfl;have hcz122_2:w118.cell? ⟨gb556,2,none⟩ = some (.slice none 0 0):=(blk_cell BK556.out 2).trans rfl;have hfz122_0:=blk_frozen BK556.out 0;have hfz122_1:=blk_frozen BK556.out 1;have hfz122_2:=blk_frozen BK556.out 2;obtain ⟨Ao123,co123,eo123⟩:=Kd.N_slice HO554.out;subst eo123))
    have n0_:Aside0 (Kd.N k29 29 (((w118.setCell ⟨gb556,0,none⟩ (.int .i64 t550)).setCell ⟨gb556,1,none⟩ (.int .i64 t551)).setCell ⟨gb556,2,none⟩ (.slice Ao123 t552.length co123)) w.heap.size (fun k_=>(w.heap.size ≤ k_)∧some k_ ≠ (.slice Ao123 t552.length co123:Value).ownBlock∧k_ ≠ gb519∧k_ ≠ gb520∧k_ ≠ gb548∧k_ ≠ gb556) (.slice Ao115 t544.length co115) t544):=⟨Kd.N_mono (nFN (g:=gb556) HO546.out (fun k_ hk=>hk.2)) (fun _ hk=>⟨hk.1.1.1.1,⟨hk.1.2,⟨hk.1.1.1.2.1,⟨hk.1.1.1.2.2,⟨hk.1.1.2,hk.2⟩⟩⟩⟩⟩)⟩
    have n1_:Aside0 (Kd.N k29 29 (((w118.setCell ⟨gb556,0,none⟩ (.int .i64 t550)).setCell ⟨gb556,1,none⟩ (.int .i64 t551)).setCell ⟨gb556,2,none⟩ (.slice Ao123 t552.length co123)) w.heap.size (fun k_=>(w.heap.size ≤ k_)∧some k_ ≠ (.slice Ao115 t544.length co115:Value).ownBlock∧k_ ≠ gb519∧k_ ≠ gb520∧k_ ≠ gb548∧k_ ≠ gb556) (.slice Ao123 t552.length co123) t552):=⟨Kd.N_mono (nFN (g:=gb556) HO554.out (fun k_ hk=>hk.2)) (fun _ hk=>⟨hk.1.1,⟨hk.1.2.1,⟨hk.1.2.2.1,⟨hk.1.2.2.2.1,⟨hk.1.2.2.2.2,hk.2⟩⟩⟩⟩⟩)⟩
    have n2_:Aside0 ((((w118.setCell ⟨gb556,0,none⟩ (.int .i64 t550)).setCell ⟨gb556,1,none⟩ (.int .i64 t551)).setCell ⟨gb556,2,none⟩ (.slice Ao123 t552.length co123)).heap[gb519]? = some (.cells #[.int .i64 a0_0,.int .i64 a0_1,.slice (some ad541) l0_2.length c0_2] 29 (0,0))):=⟨bF⟩
    have n3_:Aside0 ((((w118.setCell ⟨gb556,0,none⟩ (.int .i64 t550)).setCell ⟨gb556,1,none⟩ (.int .i64 t551)).setCell ⟨gb556,2,none⟩ (.slice Ao123 t552.length co123)).heap[gb520]? = some (.cells #[.int .i64 0,.int .i64 0,.slice none 0 0] 29 (0,0))):=⟨bF⟩
    have n4_:Aside0 ((((w118.setCell ⟨gb556,0,none⟩ (.int .i64 t550)).setCell ⟨gb556,1,none⟩ (.int .i64 t551)).setCell ⟨gb556,2,none⟩ (.slice Ao123 t552.length co123)).heap[gb548]? = some (.cells #[.int .i64 t542,.int .i64 t543,.slice Ao115 t544.length co115] 29 (0,0))):=⟨bF⟩
    have n5_:Aside0 ((((w118.setCell ⟨gb556,0,none⟩ (.int .i64 t550)).setCell ⟨gb556,1,none⟩ (.int .i64 t551)).setCell ⟨gb556,2,none⟩ (.slice Ao123 t552.length co123)).heap[gb556]? = some (.cells #[.int .i64 t550,.int .i64 t551,.slice Ao123 t552.length co123] 29 (0,0))):=⟨bP⟩
    have n6_:Aside0 (Below w.heap.size w (((w118.setCell ⟨gb556,0,none⟩ (.int .i64 t550)).setCell ⟨gb556,1,none⟩ (.int .i64 t551)).setCell ⟨gb556,2,none⟩ (.slice Ao123 t552.length co123))):=⟨bB⟩
    (try clear HO546)
    (try clear HO554)
    (try clear BK519)
    (try clear BK520)
    (try clear BK548)
    (try clear BK556)
    (try clear HB)
    generalize (((w118.setCell ⟨gb556,0,none⟩ (.int .i64 t550)).setCell ⟨gb556,1,none⟩ (.int .i64 t551)).setCell ⟨gb556,2,none⟩ (.slice Ao123 t552.length co123)) = w124 at n0_ n1_ n2_ n3_ n4_ n5_ n6_ ⊢
    have HO546:=n0_
    have HO554:=n1_
    have BK519:=n2_
    have BK520:=n3_
    have BK548:=n4_
    have BK556:=n5_
    have HB:=n6_
    clear n0_ n1_ n2_ n3_ n4_ n5_ n6_
    replace HO546:=aQ (Kd.N_drew HO546.out)
    replace HO554:=aQ (Kd.N_drew HO554.out)
    replace BK519:=aQ (blk_drew BK519.out)
    replace BK520:=aQ (blk_drew BK520.out)
    replace BK548:=aQ (blk_drew BK548.out)
    replace BK556:=aQ (blk_drew BK556.out)
    replace HB:=aQ (below_drew1 HB.out)
    refine start_ (n:=22) (S:=fun w'=>w'.cell? ⟨gb519,0,none⟩ = some (.int .i64 a0_0)∧w'.cell? ⟨gb519,1,none⟩ = some (.int .i64 a0_1)∧w'.cell? ⟨gb519,2,none⟩ = some (.slice (some ad541) l0_2.length c0_2)) (ds:=[]) #[false,false,false,false,false,false,false,false,false,false,false,false,false,false,false,false,false,false,false,false,false,false] (by kernel_rfl) rfl rfl ⟨(blk_cell BK519.out 0).trans rfl,(blk_cell BK519.out 1).trans rfl,(blk_cell BK519.out 2).trans rfl⟩ (fun hHeld=>?_);refine with_tabW spec_l17Pass.tab12 spec_l17Pass.bits12 (fun HT_ HW_=>?_)
    generalize w124.drew = w125 at HO546 HO554 BK519 BK520 BK548 BK556 HB hHeld ⊢
    refine pur (i:=0) (N:=some 58) #[true,false,false,false,false,false,false,false,false,false,false,false,false,false,false,false,false,false,false,false,false,false] ?_
    refine pur (i:=1) (N:=some 59) #[true,true,false,false,false,false,false,false,false,false,false,false,false,false,false,false,false,false,false,false,false,false] ?_
    refine pur (i:=2) (N:=some 60) #[true,true,true,false,false,false,false,false,false,false,false,false,false,false,false,false,false,false,false,false,false,false] ?_
    refine pur (i:=3) (N:=some 61) #[true,true,true,true,false,false,false,false,false,false,false,false,false,false,false,false,false,false,false,false,false,false] ?_
    refine pur (i:=4) (N:=some 62) #[true,true,true,true,true,false,false,false,false,false,false,false,false,false,false,false,false,false,false,false,false,false] ?_
    refine pur (i:=5) (N:=some 63) #[true,true,true,true,true,true,false,false,false,false,false,false,false,false,false,false,false,false,false,false,false,false] ?_
    refine pur (i:=6) (N:=some 64) #[true,true,true,true,true,true,true,false,false,false,false,false,false,false,false,false,false,false,false,false,false,false] ?_
    refine pur (i:=7) (N:=some 65) #[true,true,true,true,true,true,true,true,false,false,false,false,false,false,false,false,false,false,false,false,false,false] ?_
    refine tak (i:=8) (N:=some 66) #[true,true,true,true,true,true,true,true,true,false,false,false,false,false,false,false,false,false,false,false,false,false] ?_
    refine pur (i:=9) (N:=some 67) #[true,true,true,true,true,true,true,true,true,true,false,false,false,false,false,false,false,false,false,false,false,false] ?_
    refine pur (i:=10) (N:=some 68) #[true,true,true,true,true,true,true,true,true,true,true,false,false,false,false,false,false,false,false,false,false,false] ?_
    refine pure_ (i:=11) (N:=some 69) (v:=undef) (a':=?_) #[true,true,true,true,true,true,true,true,true,true,true,true,false,false,false,false,false,false,false,false,false,false] rfl rfl (any_of HT_.out (by kernel_rfl)) (fun _ _ _ h=>h) (Or.inr ⟨by rfl,rfl⟩) ?_ ?_
    rotate_left;·simp only [Act.put,List.setIfInBounds_toArray,List.set_cons_zero,List.set_cons_succ,i64_w,i32_w];rfl
    refine pure_ (i:=12) (N:=some 70) (v:=undef) (a':=?_) #[true,true,true,true,true,true,true,true,true,true,true,true,true,false,false,false,false,false,false,false,false,false] rfl rfl (any_of HT_.out (by kernel_rfl)) (fun _ _ _ h=>h) (Or.inr ⟨by rfl,rfl⟩) ?_ ?_
    rotate_left;·simp only [Act.put,List.setIfInBounds_toArray,List.set_cons_zero,List.set_cons_succ,i64_w,i32_w];rfl
    refine pure_ (i:=13) (N:=some 71) (v:=undef) (a':=?_) #[true,true,true,true,true,true,true,true,true,true,true,true,true,true,false,false,false,false,false,false,false,false] rfl rfl (any_of HT_.out (by kernel_rfl)) (fun _ _ _ h=>h) (Or.inr ⟨by rfl,rfl⟩) ?_ ?_
    rotate_left;·simp only [Act.put,List.setIfInBounds_toArray,List.set_cons_zero,List.set_cons_succ,i64_w,i32_w];rfl
    refine pure_ (i:=14) (N:=some 72) (v:=undef) (a':=?_) #[true,true,true,true,true,true,true,true,true,true,true,true,true,true,true,false,false,false,false,false,false,false] rfl rfl (any_of HT_.out (by kernel_rfl)) (fun _ _ _ h=>h) (Or.inr ⟨by rfl,rfl⟩) ?_ ?_
    rotate_left;·simp only [Act.put,List.setIfInBounds_toArray,List.set_cons_zero,List.set_cons_succ,i64_w,i32_w];rfl
    refine pure_ (i:=15) (N:=some 73) (v:=undef) (a':=?_) #[true,true,true,true,true,true,true,true,true,true,true,true,true,true,true,true,false,false,false,false,false,false] rfl rfl (any_of HT_.out (by kernel_rfl)) (fun _ _ _ h=>h) (Or.inr ⟨by rfl,rfl⟩) ?_ ?_
    rotate_left;·simp only [Act.put,List.setIfInBounds_toArray,List.set_cons_zero,List.set_cons_succ,i64_w,i32_w];rfl
    refine pure_ (i:=16) (N:=some 74) (v:=undef) (a':=?_) #[true,true,true,true,true,true,true,true,true,true,true,true,true,true,true,true,true,false,false,false,false,false] rfl rfl (any_of HT_.out (by kernel_rfl)) (fun _ _ _ h=>h) (Or.inr ⟨by rfl,rfl⟩) ?_ ?_
    rotate_left;·simp only [Act.put,List.setIfInBounds_toArray,List.set_cons_zero,List.set_cons_succ,i64_w,i32_w];rfl
    refine pure_ (i:=17) (N:=some 75) (v:=undef) (a':=?_) #[true,true,true,true,true,true,true,true,true,true,true,true,true,true,true,true,true,true,false,false,false,false] rfl rfl (any_of HT_.out (by kernel_rfl)) (fun _ _ _ h=>h) (Or.inr ⟨by rfl,rfl⟩) ?_ ?_
    rotate_left;·simp only [Act.put,List.setIfInBounds_toArray,List.set_cons_zero,List.set_cons_succ,i64_w,i32_w];rfl
    refine pure_ (i:=18) (N:=some 76) (v:=undef) (a':=?_) #[true,true,true,true,true,true,true,true,true,true,true,true,true,true,true,true,true,true,true,false,false,false] rfl rfl (any_of HT_.out (by kernel_rfl)) (fun _ _ _ h=>h) (Or.inr ⟨by rfl,rfl⟩) ?_ ?_
    rotate_left;·simp only [Act.put,List.setIfInBounds_toArray,List.set_cons_zero,List.set_cons_succ,i64_w,i32_w];rfl
    refine pure_ (i:=19) (N:=some 77) (v:=undef) (a':=?_) #[true,true,true,true,true,true,true,true,true,true,true,true,true,true,true,true,true,true,true,true,false,false] rfl rfl (any_of HT_.out (by kernel_rfl)) (fun _ _ _ h=>h) (Or.inr ⟨by rfl,rfl⟩) ?_ ?_
    rotate_left;·simp only [Act.put,List.setIfInBounds_toArray,List.set_cons_zero,List.set_cons_succ,i64_w,i32_w];rfl
    refine pur (i:=20) (N:=some 78) #[true,true,true,true,true,true,true,true,true,true,true,true,true,true,true,true,true,true,true,true,true,false] ?_
    refine pur (i:=21) (N:=some 79) #[true,true,true,true,true,true,true,true,true,true,true,true,true,true,true,true,true,true,true,true,true,true] ?_
    refine done_ (done_of HT_.out (by kernel_rfl)) ?_
    have hcz126_0:w125.cell? ⟨gb519,0,none⟩ = some (.int .i64 a0_0):=(blk_cell BK519.out 0).trans rfl
    have hcz126_1:w125.cell? ⟨gb519,1,none⟩ = some (.int .i64 a0_1):=(blk_cell BK519.out 1).trans rfl
    have hcz126_2:w125.cell? ⟨gb519,2,none⟩ = some (.slice (some ad541) l0_2.length c0_2):=(blk_cell BK519.out 2).trans rfl
    have hfz126_0:=blk_frozen BK519.out 0
    have hfz126_1:=blk_frozen BK519.out 1
    have hfz126_2:=blk_frozen BK519.out 2
    have hcz127_0:w125.cell? ⟨gb548,0,none⟩ = some (.int .i64 t542):=(blk_cell BK548.out 0).trans rfl
    have hcz127_1:w125.cell? ⟨gb548,1,none⟩ = some (.int .i64 t543):=(blk_cell BK548.out 1).trans rfl
    have hcz127_2:w125.cell? ⟨gb548,2,none⟩ = some (.slice Ao115 t544.length co115):=(blk_cell BK548.out 2).trans rfl
    have hfz127_0:=blk_frozen BK548.out 0
    have hfz127_1:=blk_frozen BK548.out 1
    have hfz127_2:=blk_frozen BK548.out 2
    have hcz128_0:w125.cell? ⟨gb556,0,none⟩ = some (.int .i64 t550):=(blk_cell BK556.out 0).trans rfl
    have hcz128_1:w125.cell? ⟨gb556,1,none⟩ = some (.int .i64 t551):=(blk_cell BK556.out 1).trans rfl
    have hcz128_2:w125.cell? ⟨gb556,2,none⟩ = some (.slice Ao123 t552.length co123):=(blk_cell BK556.out 2).trans rfl
    have hfz128_0:=blk_frozen BK556.out 0
    have hfz128_1:=blk_frozen BK556.out 1
    have hfz128_2:=blk_frozen BK556.out 2
    try go_wp2_with (first | ((with_reducible refine gate_callee (f:=66) rfl ?_);refine goesL_ (some 85) rfl rfl Try.func66 (by kernel_rfl) rfl #[.int .i64 a0_0,.agg #[.int .i64 t542,.int .i64 t543,.slice Ao115 t544.length co115],.agg #[.int .i64 t550,.int .i64 t551,.slice Ao123 t552.length co123]] rfl mP ?_;(with_reducible refine (spec_l17Two.calls a0_0 t542 t543 (fun k_=>((w.heap.size ≤ k_)∧(some k_ ≠ (.slice Ao123 t552.length co123:Value).ownBlock∧(k_ ≠ gb519∧(k_ ≠ gb520∧(k_ ≠ gb548∧k_ ≠ gb556)))))) _ _ t544 t550 t551 (fun k_=>((w.heap.size ≤ k_)∧(some k_ ≠ (.slice Ao115 t544.length co115:Value).ownBlock∧(k_ ≠ gb519∧(k_ ≠ gb520∧(k_ ≠ gb548∧k_ ≠ gb556)))))) _ _ t552 t565 t566 t567 _ ?side1 ?side2 A105.out).mono ?_);(case side1=>exact Kd.N_V (HO546.out));(case side2=>exact Kd.N_V (HO554.out));rintro e w129 ⟨v568,rfl,ho0,hb⟩;refine ⟨_,rfl,?_⟩;replace HO546:=aQ (Kd.N_elder' (nN HO546.out) (Kd.N_base ho0) hb);replace HO554:=aQ (Kd.N_elder' (nN HO554.out) (Kd.N_base ho0) hb);have HO569:=aQ (Kd.N_lower (Kd.N_mono (ok':=fun k_=>(w.heap.size ≤ k_)∧k_ ≠ gb519∧k_ ≠ gb520∧k_ ≠ gb548∧k_ ≠ gb556) ho0 (fun k_ hk_=>⟨Or.elim hk_ (fun hs_=>Or.elim hs_ (fun hs_=>hs_.1) (fun hs_=>hs_.1)) (fun hn_=>(Nat.le_trans (below_size bB) hn_)),Or.elim hk_ (fun hs_=>Or.elim hs_ (fun hs_=>hs_.2.2.1) (fun hs_=>hs_.2.2.1)) (fun hn_=>(Kd.freshB (g:=gb519) (o:=.cells #[.int .i64 a0_0,.int .i64 a0_1,.slice (some ad541) l0_2.length c0_2] 29 (0,0)) (nB BK519.out) k_ hn_)),Or.elim hk_ (fun hs_=>Or.elim hs_ (fun hs_=>hs_.2.2.2.1) (fun hs_=>hs_.2.2.2.1)) (fun hn_=>(Kd.freshB (g:=gb520) (o:=.cells #[.int .i64 0,.int .i64 0,.slice none 0 0] 29 (0,0)) (nB BK520.out) k_ hn_)),Or.elim hk_ (fun hs_=>Or.elim hs_ (fun hs_=>hs_.2.2.2.2.1) (fun hs_=>hs_.2.2.2.2.1)) (fun hn_=>(Kd.freshB (g:=gb548) (o:=.cells #[.int .i64 t542,.int .i64 t543,.slice Ao115 t544.length co115] 29 (0,0)) (nB BK548.out) k_ hn_)),Or.elim hk_ (fun hs_=>Or.elim hs_ (fun hs_=>hs_.2.2.2.2.2) (fun hs_=>hs_.2.2.2.2.2)) (fun hn_=>(Kd.freshB (g:=gb556) (o:=.cells #[.int .i64 t550,.int .i64 t551,.slice Ao123 t552.length co123] 29 (0,0)) (nB BK556.out) k_ hn_))⟩)) (below_size bB));replace BK519:=aQ (blk_below (g:=gb519) (o:=.cells #[.int .i64 a0_0,.int .i64 a0_1,.slice (some ad541) l0_2.length c0_2] 29 (0,0)) (nB BK519.out) hb);replace BK520:=aQ (blk_below (g:=gb520) (o:=.cells #[.int .i64 0,.int .i64 0,.slice none 0 0] 29 (0,0)) (nB BK520.out) hb);replace BK548:=aQ (blk_below (g:=gb548) (o:=.cells #[.int .i64 t542,.int .i64 t543,.slice Ao115 t544.length co115] 29 (0,0)) (nB BK548.out) hb);replace BK556:=aQ (blk_below (g:=gb556) (o:=.cells #[.int .i64 t550,.int .i64 t551,.slice Ao123 t552.length co123] 29 (0,0)) (nB BK556.out) hb);replace HB:=aQ (below_step bB hb);(try clear hb);(try clear ho0);have hcz130_0:w129.cell? ⟨gb520,0,none⟩ = some (.int .i64 0):=(blk_cell BK520.out 0).trans rfl;have hcz130_1:w129.cell? ⟨gb520,1,none⟩ = some (.int .i64 0):=(blk_cell BK520.out 1).trans rfl;have hcz130_2:w129.cell? ⟨gb520,2,none⟩ = some (.slice none 0 0):=(blk_cell BK520.out 2).trans rfl;have hfz130_0:=blk_frozen BK520.out 0;have hfz130_1:=blk_frozen BK520.out 1;have hfz130_2:=blk_frozen BK520.out 2;obtain ⟨Ao131,co131,eo131⟩:=Kd.N_slice HO569.out;subst eo131))
    refine bodyPost_ret (results_ct rfl _ _ gb520 29 #[.int .i64 t565,.int .i64 t566,.slice Ao131 t567.length co131] (0,0) _ rfl bP Try.underlying29 rfl (by kernel_rfl)) rfl ?_
    exact ⟨_,rfl,by (with_reducible repeat (first | apply Kd.N_alloc | apply Kd.N_drewN | apply Kd.N_drew));exact Kd.N_mono (nFN (g:=gb520) HO569.out (fun k_ hk=>hk.2.2.1)) (fun _ hk=>hk.1),bB⟩
   rw [if_pos c52] at H
   have c52b0:(a0_0 == 4) = true:=beq_iff_eq.mpr c52
   have c52b1:(a0_0 != 4) = false:=bne_eq_false_iff_eq.mpr c52
   clear c52
   obtain ⟨t559,A53,H⟩:=bQ H
   (try dsimp only at H)
   by_cases c54:t559 = true
   ·subst c54
    have H1:(some (0,0,([]:List (S29)),false)) = some (r1,r2,r3,r4):=by rw [if_pos rfl] at H;exact H
    clear H
    have H:=H1
    clear H1
    simp only [Option.some.injEq,Prod.mk.injEq] at H
    obtain ⟨rfl,rfl,rfl,rfl⟩:=H
    go_enter Try.func50,Try.ntmps50
    try go_wp2_with (first | ((with_reducible refine gate_dst (N:=1) rfl ?_);refine box1 (N:=1) (cs:=#[.int .i64 a0_0,.int .i64 a0_1,.slice A0_2 l0_2.length c0_2]) (t:=29) ?_;intro gb519 hg w55 hbox hb;have BK519:=aQ (hbox);have GW519:=aQ ((by rw [hg];exact (below_size bB):w.heap.size ≤ gb519));have GE519:=aQ ((by rw [hg];exact (below_size bB):w.heap.size ≤ gb519));replace HB:=aQ (below_step bB hb);clear hb hbox hg) | ((with_reducible refine gate_dst (N:=2) rfl ?_);refine box1 (N:=2) (cs:=#[.int .i64 0,.int .i64 0,.slice none 0 0]) (t:=29) ?_;intro gb520 hg w56 hbox hb;have BK520:=aQ (hbox);have GW520:=aQ ((by rw [hg];exact (below_size bB):w.heap.size ≤ gb520));have GE520:=aQ ((by rw [hg];exact (below_size bB):w.heap.size ≤ gb520));replace HB:=aQ (below_step bB hb);have NB519_520:=aQ ((by rw [hg];exact Nat.ne_of_lt (blk_lt (g:=gb519) (o:=.cells #[.int .i64 a0_0,.int .i64 a0_1,.slice A0_2 l0_2.length c0_2] 29 (0,0)) (nB BK519.out)):gb519 ≠ gb520));have NB520_519:=aQ ((by rw [hg];exact Nat.ne_of_gt (blk_lt (g:=gb519) (o:=.cells #[.int .i64 a0_0,.int .i64 a0_1,.slice A0_2 l0_2.length c0_2] 29 (0,0)) (nB BK519.out)):gb520 ≠ gb519));replace BK519:=aQ (blk_below (g:=gb519) (o:=.cells #[.int .i64 a0_0,.int .i64 a0_1,.slice A0_2 l0_2.length c0_2] 29 (0,0)) (nB BK519.out) hb);clear hb hbox hg;have hnb57:=NB519_520.out;have hnc57:=NB520_519.out;have hcz58_0:w56.cell? ⟨gb519,0,none⟩ = some (.int .i64 a0_0):=(blk_cell BK519.out 0).trans rfl;have hcz58_1:w56.cell? ⟨gb519,1,none⟩ = some (.int .i64 a0_1):=(blk_cell BK519.out 1).trans rfl;have hcz58_2:w56.cell? ⟨gb519,2,none⟩ = some (.slice A0_2 l0_2.length c0_2):=(blk_cell BK519.out 2).trans rfl;have hfz58_0:=blk_frozen BK519.out 0;have hfz58_1:=blk_frozen BK519.out 1;have hfz58_2:=blk_frozen BK519.out 2;have p541:0 ≤ (0:Int):=(by omega);have q541:0 < (l0_2.length:Int):=of_decide_eq_true (by first | (with_reducible assumption) | assumption);obtain ⟨ad541,A541_2,c541_2,e541,hx541_0,hx541_1,hx541_2,hl541_2,hi541_2⟩:=at_T29 HR0_2.out 0 p541 q541;cases e541;have qi541:(0 < l0_2.length) = True:=eq_true (by omega);(try rw [show ((0:Int)).toNat = 0 from rfl] at hx541_0);(try rw [show 0 * 3 = 0 from rfl] at hx541_0);(try rw [Addr.add_zero'] at hx541_0);(try rw [show ((0:Int)).toNat = 0 from rfl] at hx541_1);(try rw [show 0 * 3 = 0 from rfl] at hx541_1);(try rw [Addr.add_zero'] at hx541_1);(try rw [show ((0:Int)).toNat = 0 from rfl] at hx541_2);(try rw [show 0 * 3 = 0 from rfl] at hx541_2);(try rw [Addr.add_zero'] at hx541_2);replace hx541_0:=(HB.out.cell (World.block_lt_of_cell? w _ hx541_0)).trans hx541_0;replace hx541_1:=(HB.out.cell (World.block_lt_of_cell? w _ hx541_1)).trans hx541_1;replace hx541_2:=(HB.out.cell (World.block_lt_of_cell? w _ hx541_2)).trans hx541_2;have HR541_2:=aQ hi541_2;have HC541_2:=aQ hl541_2;clear hi541_2 hl541_2;replace p541:=eq_true p541;replace q541:=eq_true q541) | ((with_reducible refine gate_callee (f:=50) rfl ?_);refine goesL_ (some 47) rfl rfl Try.func50 (by kernel_rfl) rfl #[.agg #[.int .i64 ((rd_T29 l0_2 0).f0),.int .i64 ((rd_T29 l0_2 0).f1),.slice A541_2 ((rd_T29 l0_2 0).f2).length c541_2]] rfl mP ?_;(with_reducible refine (ih k (by omega) ((rd_T29 l0_2 0).f0) ((rd_T29 l0_2 0).f1) _ _ ((rd_T29 l0_2 0).f2) t542 t543 t544 true _ ?side1 ?side2 A47.out).mono ?_);(case side1=>repeat (first | exact (Kd.C_below HR541_2.out HB.out) | (with_reducible refine Kd.C_alloc ?_ _) | (with_reducible refine Kd.C_drewN ?_ _) | (with_reducible refine Kd.C_drew ?_)));(case side2=>exact HC541_2.out);rintro e w59 ⟨v545,rfl,ho0,hb⟩;refine ⟨_,rfl,?_⟩;have HO546:=aQ (Kd.N_lower (Kd.N_mono (ok':=fun k_=>(w.heap.size ≤ k_)∧k_ ≠ gb519∧k_ ≠ gb520) ho0 (fun k_ hk_=>⟨(Nat.le_trans (below_size bB) hk_),(Kd.freshB (g:=gb519) (o:=.cells #[.int .i64 a0_0,.int .i64 a0_1,.slice (some ad541) l0_2.length c0_2] 29 (0,0)) (nB BK519.out) k_ hk_),(Kd.freshB (g:=gb520) (o:=.cells #[.int .i64 0,.int .i64 0,.slice none 0 0] 29 (0,0)) (nB BK520.out) k_ hk_)⟩)) (below_size bB));replace BK519:=aQ (blk_below (g:=gb519) (o:=.cells #[.int .i64 a0_0,.int .i64 a0_1,.slice (some ad541) l0_2.length c0_2] 29 (0,0)) (nB BK519.out) hb);replace BK520:=aQ (blk_below (g:=gb520) (o:=.cells #[.int .i64 0,.int .i64 0,.slice none 0 0] 29 (0,0)) (nB BK520.out) hb);replace HB:=aQ (below_step bB hb);(try clear hb);(try clear ho0)) | ((with_reducible refine gate_dst (N:=4) rfl ?_);refine box1 (N:=4) (cs:=#[.int .i64 0,.int .i64 0,.slice none 0 0]) (t:=29) ?_;intro gb548 hg w60 hbox hb;replace HO546:=aQ (Kd.N_below (Kd.N_elderB (nN HO546.out) gb548 (Nat.le_of_eq hg.symm)) hb);have BK548:=aQ (hbox);have GW548:=aQ ((by rw [hg];exact (below_size bB):w.heap.size ≤ gb548));have GE548:=aQ ((by rw [hg];exact (below_size bB):w.heap.size ≤ gb548));replace HB:=aQ (below_step bB hb);have NB519_548:=aQ ((by rw [hg];exact Nat.ne_of_lt (blk_lt (g:=gb519) (o:=.cells #[.int .i64 a0_0,.int .i64 a0_1,.slice (some ad541) l0_2.length c0_2] 29 (0,0)) (nB BK519.out)):gb519 ≠ gb548));have NB548_519:=aQ ((by rw [hg];exact Nat.ne_of_gt (blk_lt (g:=gb519) (o:=.cells #[.int .i64 a0_0,.int .i64 a0_1,.slice (some ad541) l0_2.length c0_2] 29 (0,0)) (nB BK519.out)):gb548 ≠ gb519));replace BK519:=aQ (blk_below (g:=gb519) (o:=.cells #[.int .i64 a0_0,.int .i64 a0_1,.slice (some ad541) l0_2.length c0_2] 29 (0,0)) (nB BK519.out) hb);have NB520_548:=aQ ((by rw [hg];exact Nat.ne_of_lt (blk_lt (g:=gb520) (o:=.cells #[.int .i64 0,.int .i64 0,.slice none 0 0] 29 (0,0)) (nB BK520.out)):gb520 ≠ gb548));have NB548_520:=aQ ((by rw [hg];exact Nat.ne_of_gt (blk_lt (g:=gb520) (o:=.cells #[.int .i64 0,.int .i64 0,.slice none 0 0] 29 (0,0)) (nB BK520.out)):gb548 ≠ gb520));replace BK520:=aQ (blk_below (g:=gb520) (o:=.cells #[.int .i64 0,.int .i64 0,.slice none 0 0] 29 (0,0)) (nB BK520.out) hb);clear hb hbox hg;have hnb61:=NB548_519.out;have hnc61:=NB519_548.out;have hnb62:=NB548_520.out;have hnc62:=NB520_548.out;have hcz63_0:w60.cell? ⟨gb548,0,none⟩ = some (.int .i64 0):=(blk_cell BK548.out 0).trans rfl;have hcz63_1:w60.cell? ⟨gb548,1,none⟩ = some (.int .i64 0):=(blk_cell BK548.out 1).trans rfl;have hcz63_2:w60.cell? ⟨gb548,2,none⟩ = some (.slice none 0 0):=(blk_cell BK548.out 2).trans rfl;have hfz63_0:=blk_frozen BK548.out 0;have hfz63_1:=blk_frozen BK548.out 1;have hfz63_2:=blk_frozen BK548.out 2;obtain ⟨Ao64,co64,eo64⟩:=Kd.N_slice HO546.out;subst eo64;have hcz65_0:w60.cell? ⟨gb519,0,none⟩ = some (.int .i64 a0_0):=(blk_cell BK519.out 0).trans rfl;have hcz65_1:w60.cell? ⟨gb519,1,none⟩ = some (.int .i64 a0_1):=(blk_cell BK519.out 1).trans rfl;have hcz65_2:w60.cell? ⟨gb519,2,none⟩ = some (.slice (some ad541) l0_2.length c0_2):=(blk_cell BK519.out 2).trans rfl;have hfz65_0:=blk_frozen BK519.out 0;have hfz65_1:=blk_frozen BK519.out 1;have hfz65_2:=blk_frozen BK519.out 2;have p549:0 ≤ (1:Int):=(by omega);have q549:1 < (l0_2.length:Int):=of_decide_eq_true (by first | (with_reducible assumption) | assumption);obtain ⟨ad549,A549_2,c549_2,e549,hx549_0,hx549_1,hx549_2,hl549_2,hi549_2⟩:=at_T29 HR0_2.out 1 p549 q549;obtain rfl:ad541 = ad549:=(by injection e549);(try simp only [show (1:Int).toNat = 1 from rfl,Nat.reduceMul,Nat.reduceEqDiff,Go.Addr.add,↓reduceIte] at hx549_0);(try simp only [show (1:Int).toNat = 1 from rfl,Nat.reduceMul,Nat.reduceEqDiff,Go.Addr.add,↓reduceIte] at hx549_1);(try simp only [show (1:Int).toNat = 1 from rfl,Nat.reduceMul,Nat.reduceEqDiff,Go.Addr.add,↓reduceIte] at hx549_2);have qi549:(1 < l0_2.length) = True:=eq_true (by omega);(try rw [show ((1:Int)).toNat = 1 from rfl] at hx549_0);(try rw [show 1 * 3 = 3 from rfl] at hx549_0);(try rw [show ((1:Int)).toNat = 1 from rfl] at hx549_1);(try rw [show 1 * 3 = 3 from rfl] at hx549_1);(try rw [show ((1:Int)).toNat = 1 from rfl] at hx549_2);(try rw [show 1 * 3 = 3 from rfl] at hx549_2);have hn549_0:ad541.block ≠ gb548:=Nat.ne_of_lt (Nat.lt_of_lt_of_le (by have:=World.block_lt_of_cell? _ _ hx549_0;first | rwa [add_block] at this | exact this) GW548.out);have hn549_1:ad541.block ≠ gb548:=Nat.ne_of_lt (Nat.lt_of_lt_of_le (by have:=World.block_lt_of_cell? _ _ hx549_0;first | rwa [add_block] at this | exact this) GW548.out);have hn549_2:ad541.block ≠ gb548:=Nat.ne_of_lt (Nat.lt_of_lt_of_le (by have:=World.block_lt_of_cell? _ _ hx549_0;first | rwa [add_block] at this | exact this) GW548.out);replace hx549_0:=(HB.out.cell (World.block_lt_of_cell? w _ hx549_0)).trans hx549_0;replace hx549_1:=(HB.out.cell (World.block_lt_of_cell? w _ hx549_1)).trans hx549_1;replace hx549_2:=(HB.out.cell (World.block_lt_of_cell? w _ hx549_2)).trans hx549_2;have HR549_2:=aQ hi549_2;have HC549_2:=aQ hl549_2;clear hi549_2 hl549_2;replace hx549_0:=(cell_far (p:=⟨gb548,0,none⟩) (by first | (rw [add_block];exact hn549_0) | (show (Addr.add _ _).block ≠ _;rw [add_block];exact hn549_0) | exact hn549_0) (.int .i64 t542)).trans hx549_0;replace hx549_1:=(cell_far (p:=⟨gb548,0,none⟩) (by first | (rw [add_block];exact hn549_0) | (show (Addr.add _ _).block ≠ _;rw [add_block];exact hn549_0) | exact hn549_0) (.int .i64 t542)).trans hx549_1;replace hx549_2:=(cell_far (p:=⟨gb548,0,none⟩) (by first | (rw [add_block];exact hn549_0) | (show (Addr.add _ _).block ≠ _;rw [add_block];exact hn549_0) | exact hn549_0) (.int .i64 t542)).trans hx549_2;replace hx549_0:=(cell_far (p:=⟨gb548,1,none⟩) (by first | (rw [add_block];exact hn549_1) | (show (Addr.add _ _).block ≠ _;rw [add_block];exact hn549_1) | exact hn549_1) (.int .i64 t543)).trans hx549_0;replace hx549_1:=(cell_far (p:=⟨gb548,1,none⟩) (by first | (rw [add_block];exact hn549_1) | (show (Addr.add _ _).block ≠ _;rw [add_block];exact hn549_1) | exact hn549_1) (.int .i64 t543)).trans hx549_1;replace hx549_2:=(cell_far (p:=⟨gb548,1,none⟩) (by first | (rw [add_block];exact hn549_1) | (show (Addr.add _ _).block ≠ _;rw [add_block];exact hn549_1) | exact hn549_1) (.int .i64 t543)).trans hx549_2;replace hx549_0:=(cell_far (p:=⟨gb548,2,none⟩) (by first | (rw [add_block];exact hn549_2) | (show (Addr.add _ _).block ≠ _;rw [add_block];exact hn549_2) | exact hn549_2) (.slice Ao64 t544.length co64)).trans hx549_0;replace hx549_1:=(cell_far (p:=⟨gb548,2,none⟩) (by first | (rw [add_block];exact hn549_2) | (show (Addr.add _ _).block ≠ _;rw [add_block];exact hn549_2) | exact hn549_2) (.slice Ao64 t544.length co64)).trans hx549_1;replace hx549_2:=(cell_far (p:=⟨gb548,2,none⟩) (by first | (rw [add_block];exact hn549_2) | (show (Addr.add _ _).block ≠ _;rw [add_block];exact hn549_2) | exact hn549_2) (.slice Ao64 t544.length co64)).trans hx549_2;clear hn549_0;clear hn549_1;clear hn549_2;replace p549:=eq_true p549;replace q549:=eq_true q549) | ((with_reducible refine gate_callee (f:=50) rfl ?_);refine goesL_ (some 55) rfl rfl Try.func50 (by kernel_rfl) rfl #[.agg #[.int .i64 ((rd_T29 l0_2 1).f0),.int .i64 ((rd_T29 l0_2 1).f1),.slice A549_2 ((rd_T29 l0_2 1).f2).length c549_2]] rfl mP ?_;(with_reducible refine (ih k (by omega) ((rd_T29 l0_2 1).f0) ((rd_T29 l0_2 1).f1) _ _ ((rd_T29 l0_2 1).f2) t550 t551 t552 true _ ?side1 ?side2 A49.out).mono ?_);(case side1=>exact Kd.C_below HR549_2.out bB);(case side2=>exact HC549_2.out);rintro e w66 ⟨v553,rfl,ho0,hb⟩;refine ⟨_,rfl,?_⟩;have HO554:=aQ (Kd.N_lower (Kd.N_mono (ok':=fun k_=>(w.heap.size ≤ k_)∧some k_ ≠ (.slice Ao64 t544.length co64:Value).ownBlock∧k_ ≠ gb519∧k_ ≠ gb520∧k_ ≠ gb548) ho0 (fun k_ hk_=>⟨(Nat.le_trans (below_size bB) hk_),(Kd.fresh' (Kd.N_lt (nN ((Kd.N_mono (Kd.N_far (p:=⟨gb548,2,none⟩) (Kd.N_far (p:=⟨gb548,1,none⟩) (Kd.N_far (p:=⟨gb548,0,none⟩) (Kd.N_mono HO546.out (fun k_ hk=>(⟨hk,hk.2⟩:_∧k_ ≠ gb548))) (fun _ hk=>hk.2) (.int .i64 t542)) (fun _ hk=>hk.2) (.int .i64 t543)) (fun _ hk=>hk.2) (.slice Ao64 t544.length co64)) (fun _ h_=>h_.1))))) k_ hk_),(Kd.freshB (g:=gb519) (o:=.cells #[.int .i64 a0_0,.int .i64 a0_1,.slice (some ad541) l0_2.length c0_2] 29 (0,0)) bF k_ hk_),(Kd.freshB (g:=gb520) (o:=.cells #[.int .i64 0,.int .i64 0,.slice none 0 0] 29 (0,0)) bF k_ hk_),(Kd.freshB (g:=gb548) (o:=.cells #[.int .i64 t542,.int .i64 t543,.slice Ao64 t544.length co64] 29 (0,0)) bP k_ hk_)⟩)) (below_size bB));replace HO546:=aQ (Kd.N_elder' (nN ((Kd.N_mono (Kd.N_far (p:=⟨gb548,2,none⟩) (Kd.N_far (p:=⟨gb548,1,none⟩) (Kd.N_far (p:=⟨gb548,0,none⟩) (Kd.N_mono HO546.out (fun k_ hk=>(⟨hk,hk.2⟩:_∧k_ ≠ gb548))) (fun _ hk=>hk.2) (.int .i64 t542)) (fun _ hk=>hk.2) (.int .i64 t543)) (fun _ hk=>hk.2) (.slice Ao64 t544.length co64)) (fun _ h_=>h_.1)))) (Kd.N_base ho0) hb);replace BK519:=aQ (blk_below (g:=gb519) (o:=.cells #[.int .i64 a0_0,.int .i64 a0_1,.slice (some ad541) l0_2.length c0_2] 29 (0,0)) bF hb);replace BK520:=aQ (blk_below (g:=gb520) (o:=.cells #[.int .i64 0,.int .i64 0,.slice none 0 0] 29 (0,0)) bF hb);replace BK548:=aQ (blk_below (g:=gb548) (o:=.cells #[.int .i64 t542,.int .i64 t543,.slice Ao64 t544.length co64] 29 (0,0)) bP hb);replace HB:=aQ (below_step bB hb);(try clear hb);(try clear ho0)) | ((with_reducible refine gate_dst (N:=6) rfl ?_);refine box1 (N:=6) (cs:=#[.int .i64 0,.int .i64 0,.slice none 0 0]) (t:=29) ?_;intro gb556 hg w67 hbox hb;replace HO546:=aQ (Kd.N_below (Kd.N_elderB (nN HO546.out) gb556 (Nat.le_of_eq hg.symm)) hb);replace HO554:=aQ (Kd.N_below (Kd.N_elderB (nN HO554.out) gb556 (Nat.le_of_eq hg.symm)) hb);have BK556:=aQ (hbox);have GW556:=aQ ((by rw [hg];exact (below_size bB):w.heap.size ≤ gb556));have GE556:=aQ ((by rw [hg];exact (below_size bB):w.heap.size ≤ gb556));replace HB:=aQ (below_step bB hb);have NB519_556:=aQ ((by rw [hg];exact Nat.ne_of_lt (blk_lt (g:=gb519) (o:=.cells #[.int .i64 a0_0,.int .i64 a0_1,.slice (some ad541) l0_2.length c0_2] 29 (0,0)) (nB BK519.out)):gb519 ≠ gb556));have NB556_519:=aQ ((by rw [hg];exact Nat.ne_of_gt (blk_lt (g:=gb519) (o:=.cells #[.int .i64 a0_0,.int .i64 a0_1,.slice (some ad541) l0_2.length c0_2] 29 (0,0)) (nB BK519.out)):gb556 ≠ gb519));replace BK519:=aQ (blk_below (g:=gb519) (o:=.cells #[.int .i64 a0_0,.int .i64 a0_1,.slice (some ad541) l0_2.length c0_2] 29 (0,0)) (nB BK519.out) hb);have NB520_556:=aQ ((by rw [hg];exact Nat.ne_of_lt (blk_lt (g:=gb520) (o:=.cells #[.int .i64 0,.int .i64 0,.slice none 0 0] 29 (0,0)) (nB BK520.out)):gb520 ≠ gb556));have NB556_520:=aQ ((by rw [hg];exact Nat.ne_of_gt (blk_lt (g:=gb520) (o:=.cells #[.int .i64 0,.int .i64 0,.slice none 0 0] 29 (0,0)) (nB BK520.out)):gb556 ≠ gb520));replace BK520:=aQ (blk_below (g:=gb520) (o:=.cells #[.int .i64 0,.int .i64 0,.slice none 0 0] 29 (0,0)) (nB BK520.out) hb);have NB548_556:=aQ ((by rw [hg];exact Nat.ne_of_lt (blk_lt (g:=gb548) (o:=.cells #[.int .i64 t542,.int .i64 t543,.slice Ao64 t544.length co64] 29 (0,0)) (nB BK548.out)):gb548 ≠ gb556));have NB556_548:=aQ ((by rw [hg];exact Nat.ne_of_gt (blk_lt (g:=gb548) (o:=.cells #[.int .i64 t542,.int .i64 t543,.slice Ao64 t544.length co64] 29 (0,0)) (nB BK548.out)):gb556 ≠ gb548));replace BK548:=aQ (blk_below (g:=gb548) (o:=.cells #[.int .i64 t542,.int .i64 t543,.slice Ao64 t544.length co64] 29 (0,0)) (nB BK548.out) hb);clear hb hbox hg;have hnb68:=NB556_519.out;have hnc68:=NB519_556.out;have hnb69:=NB556_520.out;have hnc69:=NB520_556.out;have hnb70:=NB556_548.out;have hnc70:=NB548_556.out;have hcz71_0:w67.cell? ⟨gb556,0,none⟩ = some (.int .i64 0):=(blk_cell BK556.out 0).trans rfl;have hcz71_1:w67.cell? ⟨gb556,1,none⟩ = some (.int .i64 0):=(blk_cell BK556.out 1).trans rfl;have hcz71_2:w67.cell? ⟨gb556,2,none⟩ = some (.slice none 0 0):=(blk_cell BK556.out 2).trans rfl;have hfz71_0:=blk_frozen BK556.out 0;have hfz71_1:=blk_frozen BK556.out 1;have hfz71_2:=blk_frozen BK556.out 2;obtain ⟨Ao72,co72,eo72⟩:=Kd.N_slice HO554.out;subst eo72))
    have n0_:Aside0 (Kd.N k29 29 (((w67.setCell ⟨gb556,0,none⟩ (.int .i64 t550)).setCell ⟨gb556,1,none⟩ (.int .i64 t551)).setCell ⟨gb556,2,none⟩ (.slice Ao72 t552.length co72)) w.heap.size (fun k_=>(w.heap.size ≤ k_)∧some k_ ≠ (.slice Ao72 t552.length co72:Value).ownBlock∧k_ ≠ gb519∧k_ ≠ gb520∧k_ ≠ gb548∧k_ ≠ gb556) (.slice Ao64 t544.length co64) t544):=⟨Kd.N_mono (nFN (g:=gb556) HO546.out (fun k_ hk=>hk.2)) (fun _ hk=>⟨hk.1.1.1.1,⟨hk.1.2,⟨hk.1.1.1.2.1,⟨hk.1.1.1.2.2,⟨hk.1.1.2,hk.2⟩⟩⟩⟩⟩)⟩
    have n1_:Aside0 (Kd.N k29 29 (((w67.setCell ⟨gb556,0,none⟩ (.int .i64 t550)).setCell ⟨gb556,1,none⟩ (.int .i64 t551)).setCell ⟨gb556,2,none⟩ (.slice Ao72 t552.length co72)) w.heap.size (fun k_=>(w.heap.size ≤ k_)∧some k_ ≠ (.slice Ao64 t544.length co64:Value).ownBlock∧k_ ≠ gb519∧k_ ≠ gb520∧k_ ≠ gb548∧k_ ≠ gb556) (.slice Ao72 t552.length co72) t552):=⟨Kd.N_mono (nFN (g:=gb556) HO554.out (fun k_ hk=>hk.2)) (fun _ hk=>⟨hk.1.1,⟨hk.1.2.1,⟨hk.1.2.2.1,⟨hk.1.2.2.2.1,⟨hk.1.2.2.2.2,hk.2⟩⟩⟩⟩⟩)⟩
    have n2_:Aside0 ((((w67.setCell ⟨gb556,0,none⟩ (.int .i64 t550)).setCell ⟨gb556,1,none⟩ (.int .i64 t551)).setCell ⟨gb556,2,none⟩ (.slice Ao72 t552.length co72)).heap[gb519]? = some (.cells #[.int .i64 a0_0,.int .i64 a0_1,.slice (some ad541) l0_2.length c0_2] 29 (0,0))):=⟨bF⟩
    have n3_:Aside0 ((((w67.setCell ⟨gb556,0,none⟩ (.int .i64 t550)).setCell ⟨gb556,1,none⟩ (.int .i64 t551)).setCell ⟨gb556,2,none⟩ (.slice Ao72 t552.length co72)).heap[gb520]? = some (.cells #[.int .i64 0,.int .i64 0,.slice none 0 0] 29 (0,0))):=⟨bF⟩
    have n4_:Aside0 ((((w67.setCell ⟨gb556,0,none⟩ (.int .i64 t550)).setCell ⟨gb556,1,none⟩ (.int .i64 t551)).setCell ⟨gb556,2,none⟩ (.slice Ao72 t552.length co72)).heap[gb548]? = some (.cells #[.int .i64 t542,.int .i64 t543,.slice Ao64 t544.length co64] 29 (0,0))):=⟨bF⟩
    have n5_:Aside0 ((((w67.setCell ⟨gb556,0,none⟩ (.int .i64 t550)).setCell ⟨gb556,1,none⟩ (.int .i64 t551)).setCell ⟨gb556,2,none⟩ (.slice Ao72 t552.length co72)).heap[gb556]? = some (.cells #[.int .i64 t550,.int .i64 t551,.slice Ao72 t552.length co72] 29 (0,0))):=⟨bP⟩
    have n6_:Aside0 (Below w.heap.size w (((w67.setCell ⟨gb556,0,none⟩ (.int .i64 t550)).setCell ⟨gb556,1,none⟩ (.int .i64 t551)).setCell ⟨gb556,2,none⟩ (.slice Ao72 t552.length co72))):=⟨bB⟩
    (try clear HO546)
    (try clear HO554)
    (try clear BK519)
    (try clear BK520)
    (try clear BK548)
    (try clear BK556)
    (try clear HB)
    generalize (((w67.setCell ⟨gb556,0,none⟩ (.int .i64 t550)).setCell ⟨gb556,1,none⟩ (.int .i64 t551)).setCell ⟨gb556,2,none⟩ (.slice Ao72 t552.length co72)) = w73 at n0_ n1_ n2_ n3_ n4_ n5_ n6_ ⊢
    have HO546:=n0_
    have HO554:=n1_
    have BK519:=n2_
    have BK520:=n3_
    have BK548:=n4_
    have BK556:=n5_
    have HB:=n6_
    clear n0_ n1_ n2_ n3_ n4_ n5_ n6_
    replace HO546:=aQ (Kd.N_drew HO546.out)
    replace HO554:=aQ (Kd.N_drew HO554.out)
    replace BK519:=aQ (blk_drew BK519.out)
    replace BK520:=aQ (blk_drew BK520.out)
    replace BK548:=aQ (blk_drew BK548.out)
    replace BK556:=aQ (blk_drew BK556.out)
    replace HB:=aQ (below_drew1 HB.out)
    have p557:0 ≤ (0:Int):=(by omega)
    have q557:0 < (l0_2.length:Int):=of_decide_eq_true (by first | (with_reducible assumption) | assumption)
    obtain ⟨ad557,A557_2,c557_2,e557,hx557_0,hx557_1,hx557_2,hl557_2,hi557_2⟩:=at_T29 HR0_2.out 0 p557 q557
    have hw557_2:=hx557_2
    (try rw [show ((0:Int)).toNat = 0 from rfl] at hw557_2)
    (try rw [show 0 * 3 = 0 from rfl] at hw557_2)
    (try rw [Addr.add_zero'] at hw557_2)
    have hw557_1:=hx557_1
    (try rw [show ((0:Int)).toNat = 0 from rfl] at hw557_1)
    (try rw [show 0 * 3 = 0 from rfl] at hw557_1)
    (try rw [Addr.add_zero'] at hw557_1)
    have hw557_0:=hx557_0
    (try rw [show ((0:Int)).toNat = 0 from rfl] at hw557_0)
    (try rw [show 0 * 3 = 0 from rfl] at hw557_0)
    (try rw [Addr.add_zero'] at hw557_0)
    obtain rfl:ad541 = ad557:=(by injection e557)
    have qi557:(0 < l0_2.length) = True:=eq_true (by omega)
    (try rw [show ((0:Int)).toNat = 0 from rfl] at hx557_0)
    (try rw [show 0 * 3 = 0 from rfl] at hx557_0)
    (try rw [Addr.add_zero'] at hx557_0)
    (try rw [show ((0:Int)).toNat = 0 from rfl] at hx557_1)
    (try rw [show 0 * 3 = 0 from rfl] at hx557_1)
    (try rw [Addr.add_zero'] at hx557_1)
    (try rw [show ((0:Int)).toNat = 0 from rfl] at hx557_2)
    (try rw [show 0 * 3 = 0 from rfl] at hx557_2)
    (try rw [Addr.add_zero'] at hx557_2)
    replace hx557_0:=(HB.out.cell (World.block_lt_of_cell? w _ hx557_0)).trans hx557_0
    replace hx557_1:=(HB.out.cell (World.block_lt_of_cell? w _ hx557_1)).trans hx557_1
    replace hx557_2:=(HB.out.cell (World.block_lt_of_cell? w _ hx557_2)).trans hx557_2
    have HR557_2:=aQ hi557_2
    have HC557_2:=aQ hl557_2
    clear hi557_2 hl557_2
    replace p557:=eq_true p557
    replace q557:=eq_true q557
    have p558:0 ≤ (1:Int):=(by omega)
    have q558:1 < (l0_2.length:Int):=of_decide_eq_true (by first | (with_reducible assumption) | assumption)
    obtain ⟨ad558,A558_2,c558_2,e558,hx558_0,hx558_1,hx558_2,hl558_2,hi558_2⟩:=at_T29 HR0_2.out 1 p558 q558
    have hw558_2:=hx558_2
    (try rw [show ((1:Int)).toNat = 1 from rfl] at hw558_2)
    (try rw [show 1 * 3 = 3 from rfl] at hw558_2)
    (try simp only [Nat.reduceMul,Nat.reduceEqDiff,Go.Addr.add,↓reduceIte] at hw558_2)
    have hw558_1:=hx558_1
    (try rw [show ((1:Int)).toNat = 1 from rfl] at hw558_1)
    (try rw [show 1 * 3 = 3 from rfl] at hw558_1)
    (try simp only [Nat.reduceMul,Nat.reduceEqDiff,Go.Addr.add,↓reduceIte] at hw558_1)
    have hw558_0:=hx558_0
    (try rw [show ((1:Int)).toNat = 1 from rfl] at hw558_0)
    (try rw [show 1 * 3 = 3 from rfl] at hw558_0)
    (try simp only [Nat.reduceMul,Nat.reduceEqDiff,Go.Addr.add,↓reduceIte] at hw558_0)
    obtain rfl:ad541 = ad558:=(by injection e558)
    (try simp only [show (1:Int).toNat = 1 from rfl,Nat.reduceMul,Nat.reduceEqDiff,Go.Addr.add,↓reduceIte] at hx558_0)
    (try simp only [show (1:Int).toNat = 1 from rfl,Nat.reduceMul,Nat.reduceEqDiff,Go.Addr.add,↓reduceIte] at hx558_1)
    (try simp only [show (1:Int).toNat = 1 from rfl,Nat.reduceMul,Nat.reduceEqDiff,Go.Addr.add,↓reduceIte] at hx558_2)
    have qi558:(1 < l0_2.length) = True:=eq_true (by omega)
    (try rw [show ((1:Int)).toNat = 1 from rfl] at hx558_0)
    (try rw [show 1 * 3 = 3 from rfl] at hx558_0)
    (try rw [show ((1:Int)).toNat = 1 from rfl] at hx558_1)
    (try rw [show 1 * 3 = 3 from rfl] at hx558_1)
    (try rw [show ((1:Int)).toNat = 1 from rfl] at hx558_2)
    (try rw [show 1 * 3 = 3 from rfl] at hx558_2)
    replace hx558_0:=(HB.out.cell (World.block_lt_of_cell? w _ hx558_0)).trans hx558_0
    replace hx558_1:=(HB.out.cell (World.block_lt_of_cell? w _ hx558_1)).trans hx558_1
    replace hx558_2:=(HB.out.cell (World.block_lt_of_cell? w _ hx558_2)).trans hx558_2
    have HR558_2:=aQ hi558_2
    have HC558_2:=aQ hl558_2
    clear hi558_2 hl558_2
    replace p558:=eq_true p558
    replace q558:=eq_true q558
    refine start_ (n:=22) (S:=fun w'=>w'.cell? ⟨gb519,0,none⟩ = some (.int .i64 a0_0)∧w'.cell? ⟨gb519,1,none⟩ = some (.int .i64 a0_1)∧w'.cell? ⟨gb519,2,none⟩ = some (.slice (some ad541) l0_2.length c0_2)∧w'.cell? ad541 = some (.int .i64 ((rd_T29 l0_2 0).f0))∧w'.cell? ⟨ad541.block,ad541.off + 1,none⟩ = some (.int .i64 ((rd_T29 l0_2 0).f1))∧w'.cell? ⟨ad541.block,ad541.off + 2,none⟩ = some (.slice A557_2 ((rd_T29 l0_2 0).f2).length c557_2)∧w'.cell? ⟨ad541.block,ad541.off + 3,none⟩ = some (.int .i64 ((rd_T29 l0_2 1).f0))∧w'.cell? ⟨ad541.block,ad541.off + 3 + 1,none⟩ = some (.int .i64 ((rd_T29 l0_2 1).f1))∧w'.cell? ⟨ad541.block,ad541.off + 3 + 2,none⟩ = some (.slice A558_2 ((rd_T29 l0_2 1).f2).length c558_2)) (ds:=[]) #[false,false,false,false,false,false,false,false,false,false,false,false,false,false,false,false,false,false,false,false,false,false] (by kernel_rfl) rfl rfl ⟨(blk_cell BK519.out 0).trans rfl,(blk_cell BK519.out 1).trans rfl,(blk_cell BK519.out 2).trans rfl,((HB.out.cell (World.block_lt_of_cell? w _ hw557_0)).trans hw557_0),((HB.out.cell (World.block_lt_of_cell? w _ hw557_1)).trans hw557_1),((HB.out.cell (World.block_lt_of_cell? w _ hw557_2)).trans hw557_2),((HB.out.cell (World.block_lt_of_cell? w _ hw558_0)).trans hw558_0),((HB.out.cell (World.block_lt_of_cell? w _ hw558_1)).trans hw558_1),((HB.out.cell (World.block_lt_of_cell? w _ hw558_2)).trans hw558_2)⟩ (fun hHeld=>?_);refine with_tabW spec_l17Pass.tab12 spec_l17Pass.bits12 (fun HT_ HW_=>?_)
    generalize w73.drew = w74 at HO546 HO554 BK519 BK520 BK548 BK556 HB HR557_2 HR558_2 hx557_0 hx557_1 hx557_2 hx558_0 hx558_1 hx558_2 hHeld ⊢
    refine pur (i:=0) (N:=some 58) #[true,false,false,false,false,false,false,false,false,false,false,false,false,false,false,false,false,false,false,false,false,false] ?_
    refine pur (i:=1) (N:=some 59) #[true,true,false,false,false,false,false,false,false,false,false,false,false,false,false,false,false,false,false,false,false,false] ?_
    refine pur (i:=2) (N:=some 60) #[true,true,true,false,false,false,false,false,false,false,false,false,false,false,false,false,false,false,false,false,false,false] ?_
    refine pur (i:=3) (N:=some 61) #[true,true,true,true,false,false,false,false,false,false,false,false,false,false,false,false,false,false,false,false,false,false] ?_
    refine pur (i:=4) (N:=some 62) #[true,true,true,true,true,false,false,false,false,false,false,false,false,false,false,false,false,false,false,false,false,false] ?_
    refine pur (i:=5) (N:=some 63) #[true,true,true,true,true,true,false,false,false,false,false,false,false,false,false,false,false,false,false,false,false,false] ?_
    refine pur (i:=6) (N:=some 64) #[true,true,true,true,true,true,true,false,false,false,false,false,false,false,false,false,false,false,false,false,false,false] ?_
    refine pur (i:=7) (N:=some 65) #[true,true,true,true,true,true,true,true,false,false,false,false,false,false,false,false,false,false,false,false,false,false] ?_
    refine tak (i:=8) (N:=some 66) #[true,true,true,true,true,true,true,true,true,false,false,false,false,false,false,false,false,false,false,false,false,false] ?_
    refine pur (i:=9) (N:=some 67) #[true,true,true,true,true,true,true,true,true,true,false,false,false,false,false,false,false,false,false,false,false,false] ?_
    refine pur (i:=10) (N:=some 68) #[true,true,true,true,true,true,true,true,true,true,true,false,false,false,false,false,false,false,false,false,false,false] ?_
    refine pur (i:=11) (N:=some 69) #[true,true,true,true,true,true,true,true,true,true,true,true,false,false,false,false,false,false,false,false,false,false] ?_
    refine pur (i:=15) (N:=some 73) #[true,true,true,true,true,true,true,true,true,true,true,true,false,false,false,true,false,false,false,false,false,false] ?_
    refine tak (i:=12) (N:=some 70) #[true,true,true,true,true,true,true,true,true,true,true,true,true,false,false,true,false,false,false,false,false,false] ?_
    refine pur (i:=13) (N:=some 71) #[true,true,true,true,true,true,true,true,true,true,true,true,true,true,false,true,false,false,false,false,false,false] ?_
    refine tak (i:=14) (N:=some 72) #[true,true,true,true,true,true,true,true,true,true,true,true,true,true,true,true,false,false,false,false,false,false] ?_
    refine tak (i:=16) (N:=some 74) #[true,true,true,true,true,true,true,true,true,true,true,true,true,true,true,true,true,false,false,false,false,false] ?_
    refine pur (i:=17) (N:=some 75) #[true,true,true,true,true,true,true,true,true,true,true,true,true,true,true,true,true,true,false,false,false,false] ?_
    refine tak (i:=18) (N:=some 76) #[true,true,true,true,true,true,true,true,true,true,true,true,true,true,true,true,true,true,true,false,false,false] ?_
    refine one_ (i:=19) (N:=some 77) #[true,true,true,true,true,true,true,true,true,true,true,true,true,true,true,true,true,true,true,true,false,false] rfl rfl (one_of HT_.out (by kernel_rfl)) (by decide) (fun K hK=>?_)
    refine goes1 Try.func65 #[.agg #[.int .i64 ((rd_T29 l0_2 0).f0),.int .i64 ((rd_T29 l0_2 0).f1),.slice A557_2 ((rd_T29 l0_2 0).f2).length c557_2],.agg #[.int .i64 ((rd_T29 l0_2 1).f0),.int .i64 ((rd_T29 l0_2 1).f1),.slice A558_2 ((rd_T29 l0_2 1).f2).length c558_2]] ?_
    with_reducible refine (spec_l17Meet.calls k ((rd_T29 l0_2 0).f0) ((rd_T29 l0_2 0).f1) _ _ ((rd_T29 l0_2 0).f2) ((rd_T29 l0_2 1).f0) ((rd_T29 l0_2 1).f1) _ _ ((rd_T29 l0_2 1).f2) true _ ?side1 ?side2 ?side3 ?side4 A53.out).mono ?_
    (case side1=>repeat (first | exact (Kd.C_below HR557_2.out HB.out) | (with_reducible refine Kd.C_alloc ?_ _) | (with_reducible refine Kd.C_drewN ?_ _) | (with_reducible refine Kd.C_drew ?_)))
    (case side2=>exact HC557_2.out)
    (case side3=>repeat (first | exact (Kd.C_below HR558_2.out HB.out) | (with_reducible refine Kd.C_alloc ?_ _) | (with_reducible refine Kd.C_drewN ?_ _) | (with_reducible refine Kd.C_drew ?_)))
    (case side4=>exact HC558_2.out)
    rintro e w75 ⟨rfl,hb⟩
    refine ⟨_,rfl,?_⟩
    replace HO546:=aQ (Kd.N_below (nN HO546.out) hb)
    replace HO554:=aQ (Kd.N_below (nN HO554.out) hb)
    replace BK519:=aQ (blk_below (g:=gb519) (o:=.cells #[.int .i64 a0_0,.int .i64 a0_1,.slice (some ad541) l0_2.length c0_2] 29 (0,0)) (nB BK519.out) hb)
    replace BK520:=aQ (blk_below (g:=gb520) (o:=.cells #[.int .i64 0,.int .i64 0,.slice none 0 0] 29 (0,0)) (nB BK520.out) hb)
    replace BK548:=aQ (blk_below (g:=gb548) (o:=.cells #[.int .i64 t542,.int .i64 t543,.slice Ao64 t544.length co64] 29 (0,0)) (nB BK548.out) hb)
    replace BK556:=aQ (blk_below (g:=gb556) (o:=.cells #[.int .i64 t550,.int .i64 t551,.slice Ao72 t552.length co72] 29 (0,0)) (nB BK556.out) hb)
    replace HB:=aQ (below_step bB hb)
    (try clear hb)
    refine hK.out _ _ ⟨(blk_cell BK519.out 0).trans rfl,(blk_cell BK519.out 1).trans rfl,(blk_cell BK519.out 2).trans rfl,((HB.out.cell (World.block_lt_of_cell? w _ hw557_0)).trans hw557_0),((HB.out.cell (World.block_lt_of_cell? w _ hw557_1)).trans hw557_1),((HB.out.cell (World.block_lt_of_cell? w _ hw557_2)).trans hw557_2),((HB.out.cell (World.block_lt_of_cell? w _ hw558_0)).trans hw558_0),((HB.out.cell (World.block_lt_of_cell? w _ hw558_1)).trans hw558_1),((HB.out.cell (World.block_lt_of_cell? w _ hw558_2)).trans hw558_2)⟩ (fun hHeld=>?_)
    clear hK K
    refine nrm (N:=some 77) ?_
    refine pur (i:=20) (N:=some 78) #[true,true,true,true,true,true,true,true,true,true,true,true,true,true,true,true,true,true,true,true,true,false] ?_
    refine pur (i:=21) (N:=some 79) #[true,true,true,true,true,true,true,true,true,true,true,true,true,true,true,true,true,true,true,true,true,true] ?_
    refine done_ (done_of HT_.out (by kernel_rfl)) ?_
    have hcz76_0:w75.cell? ⟨gb520,0,none⟩ = some (.int .i64 0):=(blk_cell BK520.out 0).trans rfl
    have hcz76_1:w75.cell? ⟨gb520,1,none⟩ = some (.int .i64 0):=(blk_cell BK520.out 1).trans rfl
    have hcz76_2:w75.cell? ⟨gb520,2,none⟩ = some (.slice none 0 0):=(blk_cell BK520.out 2).trans rfl
    have hfz76_0:=blk_frozen BK520.out 0
    have hfz76_1:=blk_frozen BK520.out 1
    have hfz76_2:=blk_frozen BK520.out 2
    try go_wp2
    refine bodyPost_ret (results_ct rfl _ _ gb520 29 #[.int .i64 0,.int .i64 0,.slice none 0 0] (0,0) _ rfl bP Try.underlying29 rfl (by kernel_rfl)) rfl ?_
    exact ⟨_,rfl,by first | exact Kd.R_nil _ _ _ _ _ | exact Kd.N_nil _ _ _ _ _ | exact Kd.V_nil _ _ _ _ _ | exact Kd.Q_nil _ _ _ _ _ | exact Kd.S_nil _ _ _ _ _,bB⟩
   ·replace c54:=Bool.eq_false_iff.mpr c54
    subst c54
    have H1:((spec_l17Two.f a0_0 t542 t543 t544 t550 t551 t552).bind fun bt560=>(some (bt560.1,bt560.2.1,bt560.2.2,true))) = some (r1,r2,r3,r4):=by rw [if_neg (show ¬ (false = true) by decide)] at H;exact H
    clear H
    have H:=H1
    clear H1
    obtain ⟨⟨t560,t561,t562⟩,A77,H⟩:=bQ H
    dsimp only at H
    simp only [Option.some.injEq,Prod.mk.injEq] at H
    obtain ⟨rfl,rfl,rfl,rfl⟩:=H
    go_enter Try.func50,Try.ntmps50
    try go_wp2_with (first | ((with_reducible refine gate_dst (N:=1) rfl ?_);refine box1 (N:=1) (cs:=#[.int .i64 a0_0,.int .i64 a0_1,.slice A0_2 l0_2.length c0_2]) (t:=29) ?_;intro gb519 hg w78 hbox hb;have BK519:=aQ (hbox);have GW519:=aQ ((by rw [hg];exact (below_size bB):w.heap.size ≤ gb519));have GE519:=aQ ((by rw [hg];exact (below_size bB):w.heap.size ≤ gb519));replace HB:=aQ (below_step bB hb);clear hb hbox hg) | ((with_reducible refine gate_dst (N:=2) rfl ?_);refine box1 (N:=2) (cs:=#[.int .i64 0,.int .i64 0,.slice none 0 0]) (t:=29) ?_;intro gb520 hg w79 hbox hb;have BK520:=aQ (hbox);have GW520:=aQ ((by rw [hg];exact (below_size bB):w.heap.size ≤ gb520));have GE520:=aQ ((by rw [hg];exact (below_size bB):w.heap.size ≤ gb520));replace HB:=aQ (below_step bB hb);have NB519_520:=aQ ((by rw [hg];exact Nat.ne_of_lt (blk_lt (g:=gb519) (o:=.cells #[.int .i64 a0_0,.int .i64 a0_1,.slice A0_2 l0_2.length c0_2] 29 (0,0)) (nB BK519.out)):gb519 ≠ gb520));have NB520_519:=aQ ((by rw [hg];exact Nat.ne_of_gt (blk_lt (g:=gb519) (o:=.cells #[.int .i64 a0_0,.int .i64 a0_1,.slice A0_2 l0_2.length c0_2] 29 (0,0)) (nB BK519.out)):gb520 ≠ gb519));replace BK519:=aQ (blk_below (g:=gb519) (o:=.cells #[.int .i64 a0_0,.int .i64 a0_1,.slice A0_2 l0_2.length c0_2] 29 (0,0)) (nB BK519.out) hb);clear hb hbox hg;have hnb80:=NB519_520.out;have hnc80:=NB520_519.out;have hcz81_0:w79.cell? ⟨gb519,0,none⟩ = some (.int .i64 a0_0):=(blk_cell BK519.out 0).trans rfl;have hcz81_1:w79.cell? ⟨gb519,1,none⟩ = some (.int .i64 a0_1):=(blk_cell BK519.out 1).trans rfl;have hcz81_2:w79.cell? ⟨gb519,2,none⟩ = some (.slice A0_2 l0_2.length c0_2):=(blk_cell BK519.out 2).trans rfl;have hfz81_0:=blk_frozen BK519.out 0;have hfz81_1:=blk_frozen BK519.out 1;have hfz81_2:=blk_frozen BK519.out 2;have p541:0 ≤ (0:Int):=(by omega);have q541:0 < (l0_2.length:Int):=of_decide_eq_true (by first | (with_reducible assumption) | assumption);obtain ⟨ad541,A541_2,c541_2,e541,hx541_0,hx541_1,hx541_2,hl541_2,hi541_2⟩:=at_T29 HR0_2.out 0 p541 q541;cases e541;have qi541:(0 < l0_2.length) = True:=eq_true (by omega);(try rw [show ((0:Int)).toNat = 0 from rfl] at hx541_0);(try rw [show 0 * 3 = 0 from rfl] at hx541_0);(try rw [Addr.add_zero'] at hx541_0);(try rw [show ((0:Int)).toNat = 0 from rfl] at hx541_1);(try rw [show 0 * 3 = 0 from rfl] at hx541_1);(try rw [Addr.add_zero'] at hx541_1);(try rw [show ((0:Int)).toNat = 0 from rfl] at hx541_2);(try rw [show 0 * 3 = 0 from rfl] at hx541_2);(try rw [Addr.add_zero'] at hx541_2);replace hx541_0:=(HB.out.cell (World.block_lt_of_cell? w _ hx541_0)).trans hx541_0;replace hx541_1:=(HB.out.cell (World.block_lt_of_cell? w _ hx541_1)).trans hx541_1;replace hx541_2:=(HB.out.cell (World.block_lt_of_cell? w _ hx541_2)).trans hx541_2;have HR541_2:=aQ hi541_2;have HC541_2:=aQ hl541_2;clear hi541_2 hl541_2;replace p541:=eq_true p541;replace q541:=eq_true q541) | ((with_reducible refine gate_callee (f:=50) rfl ?_);refine goesL_ (some 47) rfl rfl Try.func50 (by kernel_rfl) rfl #[.agg #[.int .i64 ((rd_T29 l0_2 0).f0),.int .i64 ((rd_T29 l0_2 0).f1),.slice A541_2 ((rd_T29 l0_2 0).f2).length c541_2]] rfl mP ?_;(with_reducible refine (ih k (by omega) ((rd_T29 l0_2 0).f0) ((rd_T29 l0_2 0).f1) _ _ ((rd_T29 l0_2 0).f2) t542 t543 t544 true _ ?side1 ?side2 A47.out).mono ?_);(case side1=>repeat (first | exact (Kd.C_below HR541_2.out HB.out) | (with_reducible refine Kd.C_alloc ?_ _) | (with_reducible refine Kd.C_drewN ?_ _) | (with_reducible refine Kd.C_drew ?_)));(case side2=>exact HC541_2.out);rintro e w82 ⟨v545,rfl,ho0,hb⟩;refine ⟨_,rfl,?_⟩;have HO546:=aQ (Kd.N_lower (Kd.N_mono (ok':=fun k_=>(w.heap.size ≤ k_)∧k_ ≠ gb519∧k_ ≠ gb520) ho0 (fun k_ hk_=>⟨(Nat.le_trans (below_size bB) hk_),(Kd.freshB (g:=gb519) (o:=.cells #[.int .i64 a0_0,.int .i64 a0_1,.slice (some ad541) l0_2.length c0_2] 29 (0,0)) (nB BK519.out) k_ hk_),(Kd.freshB (g:=gb520) (o:=.cells #[.int .i64 0,.int .i64 0,.slice none 0 0] 29 (0,0)) (nB BK520.out) k_ hk_)⟩)) (below_size bB));replace BK519:=aQ (blk_below (g:=gb519) (o:=.cells #[.int .i64 a0_0,.int .i64 a0_1,.slice (some ad541) l0_2.length c0_2] 29 (0,0)) (nB BK519.out) hb);replace BK520:=aQ (blk_below (g:=gb520) (o:=.cells #[.int .i64 0,.int .i64 0,.slice none 0 0] 29 (0,0)) (nB BK520.out) hb);replace HB:=aQ (below_step bB hb);(try clear hb);(try clear ho0)) | ((with_reducible refine gate_dst (N:=4) rfl ?_);refine box1 (N:=4) (cs:=#[.int .i64 0,.int .i64 0,.slice none 0 0]) (t:=29) ?_;intro gb548 hg w83 hbox hb;replace HO546:=aQ (Kd.N_below (Kd.N_elderB (nN HO546.out) gb548 (Nat.le_of_eq hg.symm)) hb);have BK548:=aQ (hbox);have GW548:=aQ ((by rw [hg];exact (below_size bB):w.heap.size ≤ gb548));have GE548:=aQ ((by rw [hg];exact (below_size bB):w.heap.size ≤ gb548));replace HB:=aQ (below_step bB hb);have NB519_548:=aQ ((by rw [hg];exact Nat.ne_of_lt (blk_lt (g:=gb519) (o:=.cells #[.int .i64 a0_0,.int .i64 a0_1,.slice (some ad541) l0_2.length c0_2] 29 (0,0)) (nB BK519.out)):gb519 ≠ gb548));have NB548_519:=aQ ((by rw [hg];exact Nat.ne_of_gt (blk_lt (g:=gb519) (o:=.cells #[.int .i64 a0_0,.int .i64 a0_1,.slice (some ad541) l0_2.length c0_2] 29 (0,0)) (nB BK519.out)):gb548 ≠ gb519));replace BK519:=aQ (blk_below (g:=gb519) (o:=.cells #[.int .i64 a0_0,.int .i64 a0_1,.slice (some ad541) l0_2.length c0_2] 29 (0,0)) (nB BK519.out) hb);have NB520_548:=aQ ((by rw [hg];exact Nat.ne_of_lt (blk_lt (g:=gb520) (o:=.cells #[.int .i64 0,.int .i64 0,.slice none 0 0] 29 (0,0)) (nB BK520.out)):gb520 ≠ gb548));have NB548_520:=aQ ((by rw [hg];exact Nat.ne_of_gt (blk_lt (g:=gb520) (o:=.cells #[.int .i64 0,.int .i64 0,.slice none 0 0] 29 (0,0)) (nB BK520.out)):gb548 ≠ gb520));replace BK520:=aQ (blk_below (g:=gb520) (o:=.cells #[.int .i64 0,.int .i64 0,.slice none 0 0] 29 (0,0)) (nB BK520.out) hb);clear hb hbox hg;have hnb84:=NB548_519.out;have hnc84:=NB519_548.out;have hnb85:=NB548_520.out;have hnc85:=NB520_548.out;have hcz86_0:w83.cell? ⟨gb548,0,none⟩ = some (.int .i64 0):=(blk_cell BK548.out 0).trans rfl;have hcz86_1:w83.cell? ⟨gb548,1,none⟩ = some (.int .i64 0):=(blk_cell BK548.out 1).trans rfl;have hcz86_2:w83.cell? ⟨gb548,2,none⟩ = some (.slice none 0 0):=(blk_cell BK548.out 2).trans rfl;have hfz86_0:=blk_frozen BK548.out 0;have hfz86_1:=blk_frozen BK548.out 1;have hfz86_2:=blk_frozen BK548.out 2;obtain ⟨Ao87,co87,eo87⟩:=Kd.N_slice HO546.out;subst eo87;have hcz88_0:w83.cell? ⟨gb519,0,none⟩ = some (.int .i64 a0_0):=(blk_cell BK519.out 0).trans rfl;have hcz88_1:w83.cell? ⟨gb519,1,none⟩ = some (.int .i64 a0_1):=(blk_cell BK519.out 1).trans rfl;have hcz88_2:w83.cell? ⟨gb519,2,none⟩ = some (.slice (some ad541) l0_2.length c0_2):=(blk_cell BK519.out 2).trans rfl;have hfz88_0:=blk_frozen BK519.out 0;have hfz88_1:=blk_frozen BK519.out 1;have hfz88_2:=blk_frozen BK519.out 2;have p549:0 ≤ (1:Int):=(by omega);have q549:1 < (l0_2.length:Int):=of_decide_eq_true (by first | (with_reducible assumption) | assumption);obtain ⟨ad549,A549_2,c549_2,e549,hx549_0,hx549_1,hx549_2,hl549_2,hi549_2⟩:=at_T29 HR0_2.out 1 p549 q549;obtain rfl:ad541 = ad549:=(by injection e549);(try simp only [show (1:Int).toNat = 1 from rfl,Nat.reduceMul,Nat.reduceEqDiff,Go.Addr.add,↓reduceIte] at hx549_0);(try simp only [show (1:Int).toNat = 1 from rfl,Nat.reduceMul,Nat.reduceEqDiff,Go.Addr.add,↓reduceIte] at hx549_1);(try simp only [show (1:Int).toNat = 1 from rfl,Nat.reduceMul,Nat.reduceEqDiff,Go.Addr.add,↓reduceIte] at hx549_2);have qi549:(1 < l0_2.length) = True:=eq_true (by omega);(try rw [show ((1:Int)).toNat = 1 from rfl] at hx549_0);(try rw [show 1 * 3 = 3 from rfl] at hx549_0);(try rw [show ((1:Int)).toNat = 1 from rfl] at hx549_1);(try rw [show 1 * 3 = 3 from rfl] at hx549_1);(try rw [show ((1:Int)).toNat = 1 from rfl] at hx549_2);(try rw [show 1 * 3 = 3 from rfl] at hx549_2);have hn549_0:ad541.block ≠ gb548:=Nat.ne_of_lt (Nat.lt_of_lt_of_le (by have:=World.block_lt_of_cell? _ _ hx549_0;first | rwa [add_block] at this | exact this) GW548.out);have hn549_1:ad541.block ≠ gb548:=Nat.ne_of_lt (Nat.lt_of_lt_of_le (by have:=World.block_lt_of_cell? _ _ hx549_0;first | rwa [add_block] at this | exact this) GW548.out);have hn549_2:ad541.block ≠ gb548:=Nat.ne_of_lt (Nat.lt_of_lt_of_le (by have:=World.block_lt_of_cell? _ _ hx549_0;first | rwa [add_block] at this | exact this) GW548.out);replace hx549_0:=(HB.out.cell (World.block_lt_of_cell? w _ hx549_0)).trans hx549_0;replace hx549_1:=(HB.out.cell (World.block_lt_of_cell? w _ hx549_1)).trans hx549_1;replace hx549_2:=(HB.out.cell (World.block_lt_of_cell? w _ hx549_2)).trans hx549_2;have HR549_2:=aQ hi549_2;have HC549_2:=aQ hl549_2;clear hi549_2 hl549_2;replace hx549_0:=(cell_far (p:=⟨gb548,0,none⟩) (by first | (rw [add_block];exact hn549_0) | (show (Addr.add _ _).block ≠ _;rw [add_block];exact hn549_0) | exact hn549_0) (.int .i64 t542)).trans hx549_0;replace hx549_1:=(cell_far (p:=⟨gb548,0,none⟩) (by first | (rw [add_block];exact hn549_0) | (show (Addr.add _ _).block ≠ _;rw [add_block];exact hn549_0) | exact hn549_0) (.int .i64 t542)).trans hx549_1;replace hx549_2:=(cell_far (p:=⟨gb548,0,none⟩) (by first | (rw [add_block];exact hn549_0) | (show (Addr.add _ _).block ≠ _;rw [add_block];exact hn549_0) | exact hn549_0) (.int .i64 t542)).trans hx549_2;replace hx549_0:=(cell_far (p:=⟨gb548,1,none⟩) (by first | (rw [add_block];exact hn549_1) | (show (Addr.add _ _).block ≠ _;rw [add_block];exact hn549_1) | exact hn549_1) (.int .i64 t543)).trans hx549_0;replace hx549_1:=(cell_far (p:=⟨gb548,1,none⟩) (by first | (rw [add_block];exact hn549_1) | (show (Addr.add _ _).block ≠ _;rw [add_block];exact hn549_1) | exact hn549_1) (.int .i64 t543)).trans hx549_1;replace hx549_2:=(cell_far (p:=⟨gb548,1,none⟩) (by first | (rw [add_block];exact hn549_1) | (show (Addr.add _ _).block ≠ _;rw [add_block];exact hn549_1) | exact hn549_1) (.int .i64 t543)).trans hx549_2;replace hx549_0:=(cell_far (p:=⟨gb548,2,none⟩) (by first | (rw [add_block];exact hn549_2) | (show (Addr.add _ _).block ≠ _;rw [add_block];exact hn549_2) | exact hn549_2) (.slice Ao87 t544.length co87)).trans hx549_0;replace hx549_1:=(cell_far (p:=⟨gb548,2,none⟩) (by first | (rw [add_block];exact hn549_2) | (show (Addr.add _ _).block ≠ _;rw [add_block];exact hn549_2) | exact hn549_2) (.slice Ao87 t544.length co87)).trans hx549_1;replace hx549_2:=(cell_far (p:=⟨gb548,2,none⟩) (by first | (rw [add_block];exact hn549_2) | (show (Addr.add _ _).block ≠ _;rw [add_block];exact hn549_2) | exact hn549_2) (.slice Ao87 t544.length co87)).trans hx549_2;clear hn549_0;clear hn549_1;clear hn549_2;replace p549:=eq_true p549;replace q549:=eq_true q549) | ((with_reducible refine gate_callee (f:=50) rfl ?_);refine goesL_ (some 55) rfl rfl Try.func50 (by kernel_rfl) rfl #[.agg #[.int .i64 ((rd_T29 l0_2 1).f0),.int .i64 ((rd_T29 l0_2 1).f1),.slice A549_2 ((rd_T29 l0_2 1).f2).length c549_2]] rfl mP ?_;(with_reducible refine (ih k (by omega) ((rd_T29 l0_2 1).f0) ((rd_T29 l0_2 1).f1) _ _ ((rd_T29 l0_2 1).f2) t550 t551 t552 true _ ?side1 ?side2 A49.out).mono ?_);(case side1=>exact Kd.C_below HR549_2.out bB);(case side2=>exact HC549_2.out);rintro e w89 ⟨v553,rfl,ho0,hb⟩;refine ⟨_,rfl,?_⟩;have HO554:=aQ (Kd.N_lower (Kd.N_mono (ok':=fun k_=>(w.heap.size ≤ k_)∧some k_ ≠ (.slice Ao87 t544.length co87:Value).ownBlock∧k_ ≠ gb519∧k_ ≠ gb520∧k_ ≠ gb548) ho0 (fun k_ hk_=>⟨(Nat.le_trans (below_size bB) hk_),(Kd.fresh' (Kd.N_lt (nN ((Kd.N_mono (Kd.N_far (p:=⟨gb548,2,none⟩) (Kd.N_far (p:=⟨gb548,1,none⟩) (Kd.N_far (p:=⟨gb548,0,none⟩) (Kd.N_mono HO546.out (fun k_ hk=>(⟨hk,hk.2⟩:_∧k_ ≠ gb548))) (fun _ hk=>hk.2) (.int .i64 t542)) (fun _ hk=>hk.2) (.int .i64 t543)) (fun _ hk=>hk.2) (.slice Ao87 t544.length co87)) (fun _ h_=>h_.1))))) k_ hk_),(Kd.freshB (g:=gb519) (o:=.cells #[.int .i64 a0_0,.int .i64 a0_1,.slice (some ad541) l0_2.length c0_2] 29 (0,0)) bF k_ hk_),(Kd.freshB (g:=gb520) (o:=.cells #[.int .i64 0,.int .i64 0,.slice none 0 0] 29 (0,0)) bF k_ hk_),(Kd.freshB (g:=gb548) (o:=.cells #[.int .i64 t542,.int .i64 t543,.slice Ao87 t544.length co87] 29 (0,0)) bP k_ hk_)⟩)) (below_size bB));replace HO546:=aQ (Kd.N_elder' (nN ((Kd.N_mono (Kd.N_far (p:=⟨gb548,2,none⟩) (Kd.N_far (p:=⟨gb548,1,none⟩) (Kd.N_far (p:=⟨gb548,0,none⟩) (Kd.N_mono HO546.out (fun k_ hk=>(⟨hk,hk.2⟩:_∧k_ ≠ gb548))) (fun _ hk=>hk.2) (.int .i64 t542)) (fun _ hk=>hk.2) (.int .i64 t543)) (fun _ hk=>hk.2) (.slice Ao87 t544.length co87)) (fun _ h_=>h_.1)))) (Kd.N_base ho0) hb);replace BK519:=aQ (blk_below (g:=gb519) (o:=.cells #[.int .i64 a0_0,.int .i64 a0_1,.slice (some ad541) l0_2.length c0_2] 29 (0,0)) bF hb);replace BK520:=aQ (blk_below (g:=gb520) (o:=.cells #[.int .i64 0,.int .i64 0,.slice none 0 0] 29 (0,0)) bF hb);replace BK548:=aQ (blk_below (g:=gb548) (o:=.cells #[.int .i64 t542,.int .i64 t543,.slice Ao87 t544.length co87] 29 (0,0)) bP hb);replace HB:=aQ (below_step bB hb);(try clear hb);(try clear ho0)) | ((with_reducible refine gate_dst (N:=6) rfl ?_);refine box1 (N:=6) (cs:=#[.int .i64 0,.int .i64 0,.slice none 0 0]) (t:=29) ?_;intro gb556 hg w90 hbox hb;replace HO546:=aQ (Kd.N_below (Kd.N_elderB (nN HO546.out) gb556 (Nat.le_of_eq hg.symm)) hb);replace HO554:=aQ (Kd.N_below (Kd.N_elderB (nN HO554.out) gb556 (Nat.le_of_eq hg.symm)) hb);have BK556:=aQ (hbox);have GW556:=aQ ((by rw [hg];exact (below_size bB):w.heap.size ≤ gb556));have GE556:=aQ ((by rw [hg];exact (below_size bB):w.heap.size ≤ gb556));replace HB:=aQ (below_step bB hb);have NB519_556:=aQ ((by rw [hg];exact Nat.ne_of_lt (blk_lt (g:=gb519) (o:=.cells #[.int .i64 a0_0,.int .i64 a0_1,.slice (some ad541) l0_2.length c0_2] 29 (0,0)) (nB BK519.out)):gb519 ≠ gb556));have NB556_519:=aQ ((by rw [hg];exact Nat.ne_of_gt (blk_lt (g:=gb519) (o:=.cells #[.int .i64 a0_0,.int .i64 a0_1,.slice (some ad541) l0_2.length c0_2] 29 (0,0)) (nB BK519.out)):gb556 ≠ gb519));replace BK519:=aQ (blk_below (g:=gb519) (o:=.cells #[.int .i64 a0_0,.int .i64 a0_1,.slice (some ad541) l0_2.length c0_2] 29 (0,0)) (nB BK519.out) hb);have NB520_556:=aQ ((by rw [hg];exact Nat.ne_of_lt (blk_lt (g:=gb520) (o:=.cells #[.int .i64 0,.int .i64 0,.slice none 0 0] 29 (0,0)) (nB BK520.out)):gb520 ≠ gb556));have NB556_520:=aQ ((by rw [hg];exact Nat.ne_of_gt (blk_lt (g:=gb520) (o:=.cells #[.int .i64 0,.int .i64 0,.slice none 0 0] 29 (0,0)) (nB BK520.out)):gb556 ≠ gb520));replace BK520:=aQ (blk_below (g:=gb520) (o:=.cells #[.int .i64 0,.int .i64 0,.slice none 0 0] 29 (0,0)) (nB BK520.out) hb);have NB548_556:=aQ ((by rw [hg];exact Nat.ne_of_lt (blk_lt (g:=gb548) (o:=.cells #[.int .i64 t542,.int .i64 t543,.slice Ao87 t544.length co87] 29 (0,0)) (nB BK548.out)):gb548 ≠ gb556));have NB556_548:=aQ ((by rw [hg];exact Nat.ne_of_gt (blk_lt (g:=gb548) (o:=.cells #[.int .i64 t542,.int .i64 t543,.slice Ao87 t544.length co87] 29 (0,0)) (nB BK548.out)):gb556 ≠ gb548));replace BK548:=aQ (blk_below (g:=gb548) (o:=.cells #[.int .i64 t542,.int .i64 t543,.slice Ao87 t544.length co87] 29 (0,0)) (nB BK548.out) hb);clear hb hbox hg;have hnb91:=NB556_519.out;have hnc91:=NB519_556.out;have hnb92:=NB556_520.out;have hnc92:=NB520_556.out;have hnb93:=NB556_548.out;have hnc93:=NB548_556.out;have hcz94_0:w90.cell? ⟨gb556,0,none⟩ = some (.int .i64 0):=(blk_cell BK556.out 0).trans rfl;have hcz94_1:w90.cell? ⟨gb556,1,none⟩ = some (.int .i64 0):=(blk_cell BK556.out 1).trans rfl;have hcz94_2:w90.cell? ⟨gb556,2,none⟩ = some (.slice none 0 0):=(blk_cell BK556.out 2).trans rfl;have hfz94_0:=blk_frozen BK556.out 0;have hfz94_1:=blk_frozen BK556.out 1;have hfz94_2:=blk_frozen BK556.out 2;obtain ⟨Ao95,co95,eo95⟩:=Kd.N_slice HO554.out;subst eo95))
    have n0_:Aside0 (Kd.N k29 29 (((w90.setCell ⟨gb556,0,none⟩ (.int .i64 t550)).setCell ⟨gb556,1,none⟩ (.int .i64 t551)).setCell ⟨gb556,2,none⟩ (.slice Ao95 t552.length co95)) w.heap.size (fun k_=>(w.heap.size ≤ k_)∧some k_ ≠ (.slice Ao95 t552.length co95:Value).ownBlock∧k_ ≠ gb519∧k_ ≠ gb520∧k_ ≠ gb548∧k_ ≠ gb556) (.slice Ao87 t544.length co87) t544):=⟨Kd.N_mono (nFN (g:=gb556) HO546.out (fun k_ hk=>hk.2)) (fun _ hk=>⟨hk.1.1.1.1,⟨hk.1.2,⟨hk.1.1.1.2.1,⟨hk.1.1.1.2.2,⟨hk.1.1.2,hk.2⟩⟩⟩⟩⟩)⟩
    have n1_:Aside0 (Kd.N k29 29 (((w90.setCell ⟨gb556,0,none⟩ (.int .i64 t550)).setCell ⟨gb556,1,none⟩ (.int .i64 t551)).setCell ⟨gb556,2,none⟩ (.slice Ao95 t552.length co95)) w.heap.size (fun k_=>(w.heap.size ≤ k_)∧some k_ ≠ (.slice Ao87 t544.length co87:Value).ownBlock∧k_ ≠ gb519∧k_ ≠ gb520∧k_ ≠ gb548∧k_ ≠ gb556) (.slice Ao95 t552.length co95) t552):=⟨Kd.N_mono (nFN (g:=gb556) HO554.out (fun k_ hk=>hk.2)) (fun _ hk=>⟨hk.1.1,⟨hk.1.2.1,⟨hk.1.2.2.1,⟨hk.1.2.2.2.1,⟨hk.1.2.2.2.2,hk.2⟩⟩⟩⟩⟩)⟩
    have n2_:Aside0 ((((w90.setCell ⟨gb556,0,none⟩ (.int .i64 t550)).setCell ⟨gb556,1,none⟩ (.int .i64 t551)).setCell ⟨gb556,2,none⟩ (.slice Ao95 t552.length co95)).heap[gb519]? = some (.cells #[.int .i64 a0_0,.int .i64 a0_1,.slice (some ad541) l0_2.length c0_2] 29 (0,0))):=⟨bF⟩
    have n3_:Aside0 ((((w90.setCell ⟨gb556,0,none⟩ (.int .i64 t550)).setCell ⟨gb556,1,none⟩ (.int .i64 t551)).setCell ⟨gb556,2,none⟩ (.slice Ao95 t552.length co95)).heap[gb520]? = some (.cells #[.int .i64 0,.int .i64 0,.slice none 0 0] 29 (0,0))):=⟨bF⟩
    have n4_:Aside0 ((((w90.setCell ⟨gb556,0,none⟩ (.int .i64 t550)).setCell ⟨gb556,1,none⟩ (.int .i64 t551)).setCell ⟨gb556,2,none⟩ (.slice Ao95 t552.length co95)).heap[gb548]? = some (.cells #[.int .i64 t542,.int .i64 t543,.slice Ao87 t544.length co87] 29 (0,0))):=⟨bF⟩
    have n5_:Aside0 ((((w90.setCell ⟨gb556,0,none⟩ (.int .i64 t550)).setCell ⟨gb556,1,none⟩ (.int .i64 t551)).setCell ⟨gb556,2,none⟩ (.slice Ao95 t552.length co95)).heap[gb556]? = some (.cells #[.int .i64 t550,.int .i64 t551,.slice Ao95 t552.length co95] 29 (0,0))):=⟨bP⟩
    have n6_:Aside0 (Below w.heap.size w (((w90.setCell ⟨gb556,0,none⟩ (.int .i64 t550)).setCell ⟨gb556,1,none⟩ (.int .i64 t551)).setCell ⟨gb556,2,none⟩ (.slice Ao95 t552.length co95))):=⟨bB⟩
    (try clear HO546)
    (try clear HO554)
    (try clear BK519)
    (try clear BK520)
    (try clear BK548)
    (try clear BK556)
    (try clear HB)
    generalize (((w90.setCell ⟨gb556,0,none⟩ (.int .i64 t550)).setCell ⟨gb556,1,none⟩ (.int .i64 t551)).setCell ⟨gb556,2,none⟩ (.slice Ao95 t552.length co95)) = w96 at n0_ n1_ n2_ n3_ n4_ n5_ n6_ ⊢
    have HO546:=n0_
    have HO554:=n1_
    have BK519:=n2_
    have BK520:=n3_
    have BK548:=n4_
    have BK556:=n5_
    have HB:=n6_
    clear n0_ n1_ n2_ n3_ n4_ n5_ n6_
    replace HO546:=aQ (Kd.N_drew HO546.out)
    replace HO554:=aQ (Kd.N_drew HO554.out)
    replace BK519:=aQ (blk_drew BK519.out)
    replace BK520:=aQ (blk_drew BK520.out)
    replace BK548:=aQ (blk_drew BK548.out)
    replace BK556:=aQ (blk_drew BK556.out)
    replace HB:=aQ (below_drew1 HB.out)
    have p557:0 ≤ (0:Int):=(by omega)
    have q557:0 < (l0_2.length:Int):=of_decide_eq_true (by first | (with_reducible assumption) | assumption)
    obtain ⟨ad557,A557_2,c557_2,e557,hx557_0,hx557_1,hx557_2,hl557_2,hi557_2⟩:=at_T29 HR0_2.out 0 p557 q557
    have hw557_2:=hx557_2
    (try rw [show ((0:Int)).toNat = 0 from rfl] at hw557_2)
    (try rw [show 0 * 3 = 0 from rfl] at hw557_2)
    (try rw [Addr.add_zero'] at hw557_2)
    have hw557_1:=hx557_1
    (try rw [show ((0:Int)).toNat = 0 from rfl] at hw557_1)
    (try rw [show 0 * 3 = 0 from rfl] at hw557_1)
    (try rw [Addr.add_zero'] at hw557_1)
    have hw557_0:=hx557_0
    (try rw [show ((0:Int)).toNat = 0 from rfl] at hw557_0)
    (try rw [show 0 * 3 = 0 from rfl] at hw557_0)
    (try rw [Addr.add_zero'] at hw557_0)
    obtain rfl:ad541 = ad557:=(by injection e557)
    have qi557:(0 < l0_2.length) = True:=eq_true (by omega)
    (try rw [show ((0:Int)).toNat = 0 from rfl] at hx557_0)
    (try rw [show 0 * 3 = 0 from rfl] at hx557_0)
    (try rw [Addr.add_zero'] at hx557_0)
    (try rw [show ((0:Int)).toNat = 0 from rfl] at hx557_1)
    (try rw [show 0 * 3 = 0 from rfl] at hx557_1)
    (try rw [Addr.add_zero'] at hx557_1)
    (try rw [show ((0:Int)).toNat = 0 from rfl] at hx557_2)
    (try rw [show 0 * 3 = 0 from rfl] at hx557_2)
    (try rw [Addr.add_zero'] at hx557_2)
    replace hx557_0:=(HB.out.cell (World.block_lt_of_cell? w _ hx557_0)).trans hx557_0
    replace hx557_1:=(HB.out.cell (World.block_lt_of_cell? w _ hx557_1)).trans hx557_1
    replace hx557_2:=(HB.out.cell (World.block_lt_of_cell? w _ hx557_2)).trans hx557_2
    have HR557_2:=aQ hi557_2
    have HC557_2:=aQ hl557_2
    clear hi557_2 hl557_2
    replace p557:=eq_true p557
    replace q557:=eq_true q557
    have p558:0 ≤ (1:Int):=(by omega)
    have q558:1 < (l0_2.length:Int):=of_decide_eq_true (by first | (with_reducible assumption) | assumption)
    obtain ⟨ad558,A558_2,c558_2,e558,hx558_0,hx558_1,hx558_2,hl558_2,hi558_2⟩:=at_T29 HR0_2.out 1 p558 q558
    have hw558_2:=hx558_2
    (try rw [show ((1:Int)).toNat = 1 from rfl] at hw558_2)
    (try rw [show 1 * 3 = 3 from rfl] at hw558_2)
    (try simp only [Nat.reduceMul,Nat.reduceEqDiff,Go.Addr.add,↓reduceIte] at hw558_2)
    have hw558_1:=hx558_1
    (try rw [show ((1:Int)).toNat = 1 from rfl] at hw558_1)
    (try rw [show 1 * 3 = 3 from rfl] at hw558_1)
    (try simp only [Nat.reduceMul,Nat.reduceEqDiff,Go.Addr.add,↓reduceIte] at hw558_1)
    have hw558_0:=hx558_0
    (try rw [show ((1:Int)).toNat = 1 from rfl] at hw558_0)
    (try rw [show 1 * 3 = 3 from rfl] at hw558_0)
    (try simp only [Nat.reduceMul,Nat.reduceEqDiff,Go.Addr.add,↓reduceIte] at hw558_0)
    obtain rfl:ad541 = ad558:=(by injection e558)
    (try simp only [show (1:Int).toNat = 1 from rfl,Nat.reduceMul,Nat.reduceEqDiff,Go.Addr.add,↓reduceIte] at hx558_0)
    (try simp only [show (1:Int).toNat = 1 from rfl,Nat.reduceMul,Nat.reduceEqDiff,Go.Addr.add,↓reduceIte] at hx558_1)
    (try simp only [show (1:Int).toNat = 1 from rfl,Nat.reduceMul,Nat.reduceEqDiff,Go.Addr.add,↓reduceIte] at hx558_2)
    have qi558:(1 < l0_2.length) = True:=eq_true (by omega)
    (try rw [show ((1:Int)).toNat = 1 from rfl] at hx558_0)
    (try rw [show 1 * 3 = 3 from rfl] at hx558_0)
    (try rw [show ((1:Int)).toNat = 1 from rfl] at hx558_1)
    (try rw [show 1 * 3 = 3 from rfl] at hx558_1)
    (try rw [show ((1:Int)).toNat = 1 from rfl] at hx558_2)
    (try rw [show 1 * 3 = 3 from rfl] at hx558_2)
    replace hx558_0:=(HB.out.cell (World.block_lt_of_cell? w _ hx558_0)).trans hx558_0
    replace hx558_1:=(HB.out.cell (World.block_lt_of_cell? w _ hx558_1)).trans hx558_1
    replace hx558_2:=(HB.out.cell (World.block_lt_of_cell? w _ hx558_2)).trans hx558_2
    have HR558_2:=aQ hi558_2
    have HC558_2:=aQ hl558_2
    clear hi558_2 hl558_2
    replace p558:=eq_true p558
    replace q558:=eq_true q558
    refine start_ (n:=22) (S:=fun w'=>w'.cell? ⟨gb519,0,none⟩ = some (.int .i64 a0_0)∧w'.cell? ⟨gb519,1,none⟩ = some (.int .i64 a0_1)∧w'.cell? ⟨gb519,2,none⟩ = some (.slice (some ad541) l0_2.length c0_2)∧w'.cell? ad541 = some (.int .i64 ((rd_T29 l0_2 0).f0))∧w'.cell? ⟨ad541.block,ad541.off + 1,none⟩ = some (.int .i64 ((rd_T29 l0_2 0).f1))∧w'.cell? ⟨ad541.block,ad541.off + 2,none⟩ = some (.slice A557_2 ((rd_T29 l0_2 0).f2).length c557_2)∧w'.cell? ⟨ad541.block,ad541.off + 3,none⟩ = some (.int .i64 ((rd_T29 l0_2 1).f0))∧w'.cell? ⟨ad541.block,ad541.off + 3 + 1,none⟩ = some (.int .i64 ((rd_T29 l0_2 1).f1))∧w'.cell? ⟨ad541.block,ad541.off + 3 + 2,none⟩ = some (.slice A558_2 ((rd_T29 l0_2 1).f2).length c558_2)) (ds:=[]) #[false,false,false,false,false,false,false,false,false,false,false,false,false,false,false,false,false,false,false,false,false,false] (by kernel_rfl) rfl rfl ⟨(blk_cell BK519.out 0).trans rfl,(blk_cell BK519.out 1).trans rfl,(blk_cell BK519.out 2).trans rfl,((HB.out.cell (World.block_lt_of_cell? w _ hw557_0)).trans hw557_0),((HB.out.cell (World.block_lt_of_cell? w _ hw557_1)).trans hw557_1),((HB.out.cell (World.block_lt_of_cell? w _ hw557_2)).trans hw557_2),((HB.out.cell (World.block_lt_of_cell? w _ hw558_0)).trans hw558_0),((HB.out.cell (World.block_lt_of_cell? w _ hw558_1)).trans hw558_1),((HB.out.cell (World.block_lt_of_cell? w _ hw558_2)).trans hw558_2)⟩ (fun hHeld=>?_);refine with_tabW spec_l17Pass.tab12 spec_l17Pass.bits12 (fun HT_ HW_=>?_)
    generalize w96.drew = w97 at HO546 HO554 BK519 BK520 BK548 BK556 HB HR557_2 HR558_2 hx557_0 hx557_1 hx557_2 hx558_0 hx558_1 hx558_2 hHeld ⊢
    refine pur (i:=0) (N:=some 58) #[true,false,false,false,false,false,false,false,false,false,false,false,false,false,false,false,false,false,false,false,false,false] ?_
    refine pur (i:=1) (N:=some 59) #[true,true,false,false,false,false,false,false,false,false,false,false,false,false,false,false,false,false,false,false,false,false] ?_
    refine pur (i:=2) (N:=some 60) #[true,true,true,false,false,false,false,false,false,false,false,false,false,false,false,false,false,false,false,false,false,false] ?_
    refine pur (i:=3) (N:=some 61) #[true,true,true,true,false,false,false,false,false,false,false,false,false,false,false,false,false,false,false,false,false,false] ?_
    refine pur (i:=4) (N:=some 62) #[true,true,true,true,true,false,false,false,false,false,false,false,false,false,false,false,false,false,false,false,false,false] ?_
    refine pur (i:=5) (N:=some 63) #[true,true,true,true,true,true,false,false,false,false,false,false,false,false,false,false,false,false,false,false,false,false] ?_
    refine pur (i:=6) (N:=some 64) #[true,true,true,true,true,true,true,false,false,false,false,false,false,false,false,false,false,false,false,false,false,false] ?_
    refine pur (i:=7) (N:=some 65) #[true,true,true,true,true,true,true,true,false,false,false,false,false,false,false,false,false,false,false,false,false,false] ?_
    refine tak (i:=8) (N:=some 66) #[true,true,true,true,true,true,true,true,true,false,false,false,false,false,false,false,false,false,false,false,false,false] ?_
    refine pur (i:=9) (N:=some 67) #[true,true,true,true,true,true,true,true,true,true,false,false,false,false,false,false,false,false,false,false,false,false] ?_
    refine pur (i:=10) (N:=some 68) #[true,true,true,true,true,true,true,true,true,true,true,false,false,false,false,false,false,false,false,false,false,false] ?_
    refine pur (i:=11) (N:=some 69) #[true,true,true,true,true,true,true,true,true,true,true,true,false,false,false,false,false,false,false,false,false,false] ?_
    refine pur (i:=15) (N:=some 73) #[true,true,true,true,true,true,true,true,true,true,true,true,false,false,false,true,false,false,false,false,false,false] ?_
    refine tak (i:=12) (N:=some 70) #[true,true,true,true,true,true,true,true,true,true,true,true,true,false,false,true,false,false,false,false,false,false] ?_
    refine pur (i:=13) (N:=some 71) #[true,true,true,true,true,true,true,true,true,true,true,true,true,true,false,true,false,false,false,false,false,false] ?_
    refine tak (i:=14) (N:=some 72) #[true,true,true,true,true,true,true,true,true,true,true,true,true,true,true,true,false,false,false,false,false,false] ?_
    refine tak (i:=16) (N:=some 74) #[true,true,true,true,true,true,true,true,true,true,true,true,true,true,true,true,true,false,false,false,false,false] ?_
    refine pur (i:=17) (N:=some 75) #[true,true,true,true,true,true,true,true,true,true,true,true,true,true,true,true,true,true,false,false,false,false] ?_
    refine tak (i:=18) (N:=some 76) #[true,true,true,true,true,true,true,true,true,true,true,true,true,true,true,true,true,true,true,false,false,false] ?_
    refine one_ (i:=19) (N:=some 77) #[true,true,true,true,true,true,true,true,true,true,true,true,true,true,true,true,true,true,true,true,false,false] rfl rfl (one_of HT_.out (by kernel_rfl)) (by decide) (fun K hK=>?_)
    refine goes1 Try.func65 #[.agg #[.int .i64 ((rd_T29 l0_2 0).f0),.int .i64 ((rd_T29 l0_2 0).f1),.slice A557_2 ((rd_T29 l0_2 0).f2).length c557_2],.agg #[.int .i64 ((rd_T29 l0_2 1).f0),.int .i64 ((rd_T29 l0_2 1).f1),.slice A558_2 ((rd_T29 l0_2 1).f2).length c558_2]] ?_
    with_reducible refine (spec_l17Meet.calls k ((rd_T29 l0_2 0).f0) ((rd_T29 l0_2 0).f1) _ _ ((rd_T29 l0_2 0).f2) ((rd_T29 l0_2 1).f0) ((rd_T29 l0_2 1).f1) _ _ ((rd_T29 l0_2 1).f2) false _ ?side1 ?side2 ?side3 ?side4 A53.out).mono ?_
    (case side1=>repeat (first | exact (Kd.C_below HR557_2.out HB.out) | (with_reducible refine Kd.C_alloc ?_ _) | (with_reducible refine Kd.C_drewN ?_ _) | (with_reducible refine Kd.C_drew ?_)))
    (case side2=>exact HC557_2.out)
    (case side3=>repeat (first | exact (Kd.C_below HR558_2.out HB.out) | (with_reducible refine Kd.C_alloc ?_ _) | (with_reducible refine Kd.C_drewN ?_ _) | (with_reducible refine Kd.C_drew ?_)))
    (case side4=>exact HC558_2.out)
    rintro e w98 ⟨rfl,hb⟩
    refine ⟨_,rfl,?_⟩
    replace HO546:=aQ (Kd.N_below (nN HO546.out) hb)
    replace HO554:=aQ (Kd.N_below (nN HO554.out) hb)
    replace BK519:=aQ (blk_below (g:=gb519) (o:=.cells #[.int .i64 a0_0,.int .i64 a0_1,.slice (some ad541) l0_2.length c0_2] 29 (0,0)) (nB BK519.out) hb)
    replace BK520:=aQ (blk_below (g:=gb520) (o:=.cells #[.int .i64 0,.int .i64 0,.slice none 0 0] 29 (0,0)) (nB BK520.out) hb)
    replace BK548:=aQ (blk_below (g:=gb548) (o:=.cells #[.int .i64 t542,.int .i64 t543,.slice Ao87 t544.length co87] 29 (0,0)) (nB BK548.out) hb)
    replace BK556:=aQ (blk_below (g:=gb556) (o:=.cells #[.int .i64 t550,.int .i64 t551,.slice Ao95 t552.length co95] 29 (0,0)) (nB BK556.out) hb)
    replace HB:=aQ (below_step bB hb)
    (try clear hb)
    refine hK.out _ _ ⟨(blk_cell BK519.out 0).trans rfl,(blk_cell BK519.out 1).trans rfl,(blk_cell BK519.out 2).trans rfl,((HB.out.cell (World.block_lt_of_cell? w _ hw557_0)).trans hw557_0),((HB.out.cell (World.block_lt_of_cell? w _ hw557_1)).trans hw557_1),((HB.out.cell (World.block_lt_of_cell? w _ hw557_2)).trans hw557_2),((HB.out.cell (World.block_lt_of_cell? w _ hw558_0)).trans hw558_0),((HB.out.cell (World.block_lt_of_cell? w _ hw558_1)).trans hw558_1),((HB.out.cell (World.block_lt_of_cell? w _ hw558_2)).trans hw558_2)⟩ (fun hHeld=>?_)
    clear hK K
    refine nrm (N:=some 77) ?_
    refine pur (i:=20) (N:=some 78) #[true,true,true,true,true,true,true,true,true,true,true,true,true,true,true,true,true,true,true,true,true,false] ?_
    refine pur (i:=21) (N:=some 79) #[true,true,true,true,true,true,true,true,true,true,true,true,true,true,true,true,true,true,true,true,true,true] ?_
    refine done_ (done_of HT_.out (by kernel_rfl)) ?_
    have hcz99_0:w98.cell? ⟨gb519,0,none⟩ = some (.int .i64 a0_0):=(blk_cell BK519.out 0).trans rfl
    have hcz99_1:w98.cell? ⟨gb519,1,none⟩ = some (.int .i64 a0_1):=(blk_cell BK519.out 1).trans rfl
    have hcz99_2:w98.cell? ⟨gb519,2,none⟩ = some (.slice (some ad541) l0_2.length c0_2):=(blk_cell BK519.out 2).trans rfl
    have hfz99_0:=blk_frozen BK519.out 0
    have hfz99_1:=blk_frozen BK519.out 1
    have hfz99_2:=blk_frozen BK519.out 2
    have hcz100_0:w98.cell? ⟨gb548,0,none⟩ = some (.int .i64 t542):=(blk_cell BK548.out 0).trans rfl
    have hcz100_1:w98.cell? ⟨gb548,1,none⟩ = some (.int .i64 t543):=(blk_cell BK548.out 1).trans rfl
    have hcz100_2:w98.cell? ⟨gb548,2,none⟩ = some (.slice Ao87 t544.length co87):=(blk_cell BK548.out 2).trans rfl
    have hfz100_0:=blk_frozen BK548.out 0
    have hfz100_1:=blk_frozen BK548.out 1
    have hfz100_2:=blk_frozen BK548.out 2
    have hcz101_0:w98.cell? ⟨gb556,0,none⟩ = some (.int .i64 t550):=(blk_cell BK556.out 0).trans rfl
    have hcz101_1:w98.cell? ⟨gb556,1,none⟩ = some (.int .i64 t551):=(blk_cell BK556.out 1).trans rfl
    have hcz101_2:w98.cell? ⟨gb556,2,none⟩ = some (.slice Ao95 t552.length co95):=(blk_cell BK556.out 2).trans rfl
    have hfz101_0:=blk_frozen BK556.out 0
    have hfz101_1:=blk_frozen BK556.out 1
    have hfz101_2:=blk_frozen BK556.out 2
    try go_wp2_with (first | ((with_reducible refine gate_callee (f:=66) rfl ?_);refine goesL_ (some 85) rfl rfl Try.func66 (by kernel_rfl) rfl #[.int .i64 a0_0,.agg #[.int .i64 t542,.int .i64 t543,.slice Ao87 t544.length co87],.agg #[.int .i64 t550,.int .i64 t551,.slice Ao95 t552.length co95]] rfl mP ?_;(with_reducible refine (spec_l17Two.calls a0_0 t542 t543 (fun k_=>((w.heap.size ≤ k_)∧(some k_ ≠ (.slice Ao95 t552.length co95:Value).ownBlock∧(k_ ≠ gb519∧(k_ ≠ gb520∧(k_ ≠ gb548∧k_ ≠ gb556)))))) _ _ t544 t550 t551 (fun k_=>((w.heap.size ≤ k_)∧(some k_ ≠ (.slice Ao87 t544.length co87:Value).ownBlock∧(k_ ≠ gb519∧(k_ ≠ gb520∧(k_ ≠ gb548∧k_ ≠ gb556)))))) _ _ t552 t560 t561 t562 _ ?side1 ?side2 A77.out).mono ?_);(case side1=>exact Kd.N_V (HO546.out));(case side2=>exact Kd.N_V (HO554.out));rintro e w102 ⟨v563,rfl,ho0,hb⟩;refine ⟨_,rfl,?_⟩;replace HO546:=aQ (Kd.N_elder' (nN HO546.out) (Kd.N_base ho0) hb);replace HO554:=aQ (Kd.N_elder' (nN HO554.out) (Kd.N_base ho0) hb);have HO564:=aQ (Kd.N_lower (Kd.N_mono (ok':=fun k_=>(w.heap.size ≤ k_)∧k_ ≠ gb519∧k_ ≠ gb520∧k_ ≠ gb548∧k_ ≠ gb556) ho0 (fun k_ hk_=>⟨Or.elim hk_ (fun hs_=>Or.elim hs_ (fun hs_=>hs_.1) (fun hs_=>hs_.1)) (fun hn_=>(Nat.le_trans (below_size bB) hn_)),Or.elim hk_ (fun hs_=>Or.elim hs_ (fun hs_=>hs_.2.2.1) (fun hs_=>hs_.2.2.1)) (fun hn_=>(Kd.freshB (g:=gb519) (o:=.cells #[.int .i64 a0_0,.int .i64 a0_1,.slice (some ad541) l0_2.length c0_2] 29 (0,0)) (nB BK519.out) k_ hn_)),Or.elim hk_ (fun hs_=>Or.elim hs_ (fun hs_=>hs_.2.2.2.1) (fun hs_=>hs_.2.2.2.1)) (fun hn_=>(Kd.freshB (g:=gb520) (o:=.cells #[.int .i64 0,.int .i64 0,.slice none 0 0] 29 (0,0)) (nB BK520.out) k_ hn_)),Or.elim hk_ (fun hs_=>Or.elim hs_ (fun hs_=>hs_.2.2.2.2.1) (fun hs_=>hs_.2.2.2.2.1)) (fun hn_=>(Kd.freshB (g:=gb548) (o:=.cells #[.int .i64 t542,.int .i64 t543,.slice Ao87 t544.length co87] 29 (0,0)) (nB BK548.out) k_ hn_)),Or.elim hk_ (fun hs_=>Or.elim hs_ (fun hs_=>hs_.2.2.2.2.2) (fun hs_=>hs_.2.2.2.2.2)) (fun hn_=>(Kd.freshB (g:=gb556) (o:=.cells #[.int .i64 t550,.int .i64 t551,.slice Ao95 t552.length co95] 29 (0,0)) (nB BK556.out) k_ hn_))⟩)) (below_size bB));replace BK519:=aQ (blk_below (g:=gb519) (o:=.cells #[.int .i64 a0_0,.int .i64 a0_1,.slice (some ad541) l0_2.length c0_2] 29 (0,0)) (nB BK519.out) hb);replace BK520:=aQ (blk_below (g:=gb520) (o:=.cells #[.int .i64 0,.int .i64 0,.slice none 0 0] 29 (0,0)) (nB BK520.out) hb);replace BK548:=aQ (blk_below (g:=gb548) (o:=.cells #[.int .i64 t542,.int .i64 t543,.slice Ao87 t544.length co87] 29 (0,0)) (nB BK548.out) hb);replace BK556:=aQ (blk_below (g:=gb556) (o:=.cells #[.int .i64 t550,.int .i64 t551,.slice Ao95 t552.length co95] 29 (0,0)) (nB BK556.out) hb);replace HB:=aQ (below_step bB hb);(try clear hb);(try clear ho0);have hcz103_0:w102.cell? ⟨gb520,0,none⟩ = some (.int .i64 0):=(blk_cell BK520.out 0).trans rfl;have hcz103_1:w102.cell? ⟨gb520,1,none⟩ = some (.int .i64 0):=(blk_cell BK520.out 1).trans rfl;have hcz103_2:w102.cell? ⟨gb520,2,none⟩ = some (.slice none 0 0):=(blk_cell BK520.out 2).trans rfl;have hfz103_0:=blk_frozen BK520.out 0;have hfz103_1:=blk_frozen BK520.out 1;have hfz103_2:=blk_frozen BK520.out 2;obtain ⟨Ao104,co104,eo104⟩:=Kd.N_slice HO564.out;subst eo104))
    refine bodyPost_ret (results_ct rfl _ _ gb520 29 #[.int .i64 t560,.int .i64 t561,.slice Ao104 t562.length co104] (0,0) _ rfl bP Try.underlying29 rfl (by kernel_rfl)) rfl ?_
    exact ⟨_,rfl,by (with_reducible repeat (first | apply Kd.N_alloc | apply Kd.N_drewN | apply Kd.N_drew));exact Kd.N_mono (nFN (g:=gb520) HO564.out (fun k_ hk=>hk.2.2.1)) (fun _ hk=>hk.1),bB⟩
  ·replace c51:=Bool.eq_false_iff.mpr c51
   subst c51
   have H1:(some (0,0,([]:List (S29)),false)) = some (r1,r2,r3,r4):=by rw [if_neg (show ¬ (false = true) by decide)] at H;exact H
   clear H
   have H:=H1
   clear H1
   simp only [Option.some.injEq,Prod.mk.injEq] at H
   obtain ⟨rfl,rfl,rfl,rfl⟩:=H
   go_enter Try.func50,Try.ntmps50
   try go_wp2_with (first | ((with_reducible refine gate_dst (N:=1) rfl ?_);refine box1 (N:=1) (cs:=#[.int .i64 a0_0,.int .i64 a0_1,.slice A0_2 l0_2.length c0_2]) (t:=29) ?_;intro gb519 hg w132 hbox hb;have BK519:=aQ (hbox);have GW519:=aQ ((by rw [hg];exact (below_size bB):w.heap.size ≤ gb519));have GE519:=aQ ((by rw [hg];exact (below_size bB):w.heap.size ≤ gb519));replace HB:=aQ (below_step bB hb);clear hb hbox hg) | ((with_reducible refine gate_dst (N:=2) rfl ?_);refine box1 (N:=2) (cs:=#[.int .i64 0,.int .i64 0,.slice none 0 0]) (t:=29) ?_;intro gb520 hg w133 hbox hb;have BK520:=aQ (hbox);have GW520:=aQ ((by rw [hg];exact (below_size bB):w.heap.size ≤ gb520));have GE520:=aQ ((by rw [hg];exact (below_size bB):w.heap.size ≤ gb520));replace HB:=aQ (below_step bB hb);have NB519_520:=aQ ((by rw [hg];exact Nat.ne_of_lt (blk_lt (g:=gb519) (o:=.cells #[.int .i64 a0_0,.int .i64 a0_1,.slice A0_2 l0_2.length c0_2] 29 (0,0)) (nB BK519.out)):gb519 ≠ gb520));have NB520_519:=aQ ((by rw [hg];exact Nat.ne_of_gt (blk_lt (g:=gb519) (o:=.cells #[.int .i64 a0_0,.int .i64 a0_1,.slice A0_2 l0_2.length c0_2] 29 (0,0)) (nB BK519.out)):gb520 ≠ gb519));replace BK519:=aQ (blk_below (g:=gb519) (o:=.cells #[.int .i64 a0_0,.int .i64 a0_1,.slice A0_2 l0_2.length c0_2] 29 (0,0)) (nB BK519.out) hb);clear hb hbox hg;have hnb134:=NB519_520.out;have hnc134:=NB520_519.out;have hcz135_0:w133.cell? ⟨gb519,0,none⟩ = some (.int .i64 a0_0):=(blk_cell BK519.out 0).trans rfl;have hcz135_1:w133.cell? ⟨gb519,1,none⟩ = some (.int .i64 a0_1):=(blk_cell BK519.out 1).trans rfl;have hcz135_2:w133.cell? ⟨gb519,2,none⟩ = some (.slice A0_2 l0_2.length c0_2):=(blk_cell BK519.out 2).trans rfl;have hfz135_0:=blk_frozen BK519.out 0;have hfz135_1:=blk_frozen BK519.out 1;have hfz135_2:=blk_frozen BK519.out 2;have p541:0 ≤ (0:Int):=(by omega);have q541:0 < (l0_2.length:Int):=of_decide_eq_true (by first | (with_reducible assumption) | assumption);obtain ⟨ad541,A541_2,c541_2,e541,hx541_0,hx541_1,hx541_2,hl541_2,hi541_2⟩:=at_T29 HR0_2.out 0 p541 q541;cases e541;have qi541:(0 < l0_2.length) = True:=eq_true (by omega);(try rw [show ((0:Int)).toNat = 0 from rfl] at hx541_0);(try rw [show 0 * 3 = 0 from rfl] at hx541_0);(try rw [Addr.add_zero'] at hx541_0);(try rw [show ((0:Int)).toNat = 0 from rfl] at hx541_1);(try rw [show 0 * 3 = 0 from rfl] at hx541_1);(try rw [Addr.add_zero'] at hx541_1);(try rw [show ((0:Int)).toNat = 0 from rfl] at hx541_2);(try rw [show 0 * 3 = 0 from rfl] at hx541_2);(try rw [Addr.add_zero'] at hx541_2);replace hx541_0:=(HB.out.cell (World.block_lt_of_cell? w _ hx541_0)).trans hx541_0;replace hx541_1:=(HB.out.cell (World.block_lt_of_cell? w _ hx541_1)).trans hx541_1;replace hx541_2:=(HB.out.cell (World.block_lt_of_cell? w _ hx541_2)).trans hx541_2;have HR541_2:=aQ hi541_2;have HC541_2:=aQ hl541_2;clear hi541_2 hl541_2;replace p541:=eq_true p541;replace q541:=eq_true q541) | ((with_reducible refine gate_callee (f:=50) rfl ?_);refine goesL_ (some 47) rfl rfl Try.func50 (by kernel_rfl) rfl #[.agg #[.int .i64 ((rd_T29 l0_2 0).f0),.int .i64 ((rd_T29 l0_2 0).f1),.slice A541_2 ((rd_T29 l0_2 0).f2).length c541_2]] rfl mP ?_;(with_reducible refine (ih k (by omega) ((rd_T29 l0_2 0).f0) ((rd_T29 l0_2 0).f1) _ _ ((rd_T29 l0_2 0).f2) t542 t543 t544 true _ ?side1 ?side2 A47.out).mono ?_);(case side1=>repeat (first | exact (Kd.C_below HR541_2.out HB.out) | (with_reducible refine Kd.C_alloc ?_ _) | (with_reducible refine Kd.C_drewN ?_ _) | (with_reducible refine Kd.C_drew ?_)));(case side2=>exact HC541_2.out);rintro e w136 ⟨v545,rfl,ho0,hb⟩;refine ⟨_,rfl,?_⟩;have HO546:=aQ (Kd.N_lower (Kd.N_mono (ok':=fun k_=>(w.heap.size ≤ k_)∧k_ ≠ gb519∧k_ ≠ gb520) ho0 (fun k_ hk_=>⟨(Nat.le_trans (below_size bB) hk_),(Kd.freshB (g:=gb519) (o:=.cells #[.int .i64 a0_0,.int .i64 a0_1,.slice (some ad541) l0_2.length c0_2] 29 (0,0)) (nB BK519.out) k_ hk_),(Kd.freshB (g:=gb520) (o:=.cells #[.int .i64 0,.int .i64 0,.slice none 0 0] 29 (0,0)) (nB BK520.out) k_ hk_)⟩)) (below_size bB));replace BK519:=aQ (blk_below (g:=gb519) (o:=.cells #[.int .i64 a0_0,.int .i64 a0_1,.slice (some ad541) l0_2.length c0_2] 29 (0,0)) (nB BK519.out) hb);replace BK520:=aQ (blk_below (g:=gb520) (o:=.cells #[.int .i64 0,.int .i64 0,.slice none 0 0] 29 (0,0)) (nB BK520.out) hb);replace HB:=aQ (below_step bB hb);(try clear hb);(try clear ho0)) | ((with_reducible refine gate_dst (N:=4) rfl ?_);refine box1 (N:=4) (cs:=#[.int .i64 0,.int .i64 0,.slice none 0 0]) (t:=29) ?_;intro gb548 hg w137 hbox hb;replace HO546:=aQ (Kd.N_below (Kd.N_elderB (nN HO546.out) gb548 (Nat.le_of_eq hg.symm)) hb);have BK548:=aQ (hbox);have GW548:=aQ ((by rw [hg];exact (below_size bB):w.heap.size ≤ gb548));have GE548:=aQ ((by rw [hg];exact (below_size bB):w.heap.size ≤ gb548));replace HB:=aQ (below_step bB hb);have NB519_548:=aQ ((by rw [hg];exact Nat.ne_of_lt (blk_lt (g:=gb519) (o:=.cells #[.int .i64 a0_0,.int .i64 a0_1,.slice (some ad541) l0_2.length c0_2] 29 (0,0)) (nB BK519.out)):gb519 ≠ gb548));have NB548_519:=aQ ((by rw [hg];exact Nat.ne_of_gt (blk_lt (g:=gb519) (o:=.cells #[.int .i64 a0_0,.int .i64 a0_1,.slice (some ad541) l0_2.length c0_2] 29 (0,0)) (nB BK519.out)):gb548 ≠ gb519));replace BK519:=aQ (blk_below (g:=gb519) (o:=.cells #[.int .i64 a0_0,.int .i64 a0_1,.slice (some ad541) l0_2.length c0_2] 29 (0,0)) (nB BK519.out) hb);have NB520_548:=aQ ((by rw [hg];exact Nat.ne_of_lt (blk_lt (g:=gb520) (o:=.cells #[.int .i64 0,.int .i64 0,.slice none 0 0] 29 (0,0)) (nB BK520.out)):gb520 ≠ gb548));have NB548_520:=aQ ((by rw [hg];exact Nat.ne_of_gt (blk_lt (g:=gb520) (o:=.cells #[.int .i64 0,.int .i64 0,.slice none 0 0] 29 (0,0)) (nB BK520.out)):gb548 ≠ gb520));replace BK520:=aQ (blk_below (g:=gb520) (o:=.cells #[.int .i64 0,.int .i64 0,.slice none 0 0] 29 (0,0)) (nB BK520.out) hb);clear hb hbox hg;have hnb138:=NB548_519.out;have hnc138:=NB519_548.out;have hnb139:=NB548_520.out;have hnc139:=NB520_548.out;have hcz140_0:w137.cell? ⟨gb548,0,none⟩ = some (.int .i64 0):=(blk_cell BK548.out 0).trans rfl;have hcz140_1:w137.cell? ⟨gb548,1,none⟩ = some (.int .i64 0):=(blk_cell BK548.out 1).trans rfl;have hcz140_2:w137.cell? ⟨gb548,2,none⟩ = some (.slice none 0 0):=(blk_cell BK548.out 2).trans rfl;have hfz140_0:=blk_frozen BK548.out 0;have hfz140_1:=blk_frozen BK548.out 1;have hfz140_2:=blk_frozen BK548.out 2;obtain ⟨Ao141,co141,eo141⟩:=Kd.N_slice HO546.out;subst eo141;have hcz142_0:w137.cell? ⟨gb519,0,none⟩ = some (.int .i64 a0_0):=(blk_cell BK519.out 0).trans rfl;have hcz142_1:w137.cell? ⟨gb519,1,none⟩ = some (.int .i64 a0_1):=(blk_cell BK519.out 1).trans rfl;have hcz142_2:w137.cell? ⟨gb519,2,none⟩ = some (.slice (some ad541) l0_2.length c0_2):=(blk_cell BK519.out 2).trans rfl;have hfz142_0:=blk_frozen BK519.out 0;have hfz142_1:=blk_frozen BK519.out 1;have hfz142_2:=blk_frozen BK519.out 2;have p549:0 ≤ (1:Int):=(by omega);have q549:1 < (l0_2.length:Int):=of_decide_eq_true (by first | (with_reducible assumption) | assumption);obtain ⟨ad549,A549_2,c549_2,e549,hx549_0,hx549_1,hx549_2,hl549_2,hi549_2⟩:=at_T29 HR0_2.out 1 p549 q549;obtain rfl:ad541 = ad549:=(by injection e549);(try simp only [show (1:Int).toNat = 1 from rfl,Nat.reduceMul,Nat.reduceEqDiff,Go.Addr.add,↓reduceIte] at hx549_0);(try simp only [show (1:Int).toNat = 1 from rfl,Nat.reduceMul,Nat.reduceEqDiff,Go.Addr.add,↓reduceIte] at hx549_1);(try simp only [show (1:Int).toNat = 1 from rfl,Nat.reduceMul,Nat.reduceEqDiff,Go.Addr.add,↓reduceIte] at hx549_2);have qi549:(1 < l0_2.length) = True:=eq_true (by omega);(try rw [show ((1:Int)).toNat = 1 from rfl] at hx549_0);(try rw [show 1 * 3 = 3 from rfl] at hx549_0);(try rw [show ((1:Int)).toNat = 1 from rfl] at hx549_1);(try rw [show 1 * 3 = 3 from rfl] at hx549_1);(try rw [show ((1:Int)).toNat = 1 from rfl] at hx549_2);(try rw [show 1 * 3 = 3 from rfl] at hx549_2);have hn549_0:ad541.block ≠ gb548:=Nat.ne_of_lt (Nat.lt_of_lt_of_le (by have:=World.block_lt_of_cell? _ _ hx549_0;first | rwa [add_block] at this | exact this) GW548.out);have hn549_1:ad541.block ≠ gb548:=Nat.ne_of_lt (Nat.lt_of_lt_of_le (by have:=World.block_lt_of_cell? _ _ hx549_0;first | rwa [add_block] at this | exact this) GW548.out);have hn549_2:ad541.block ≠ gb548:=Nat.ne_of_lt (Nat.lt_of_lt_of_le (by have:=World.block_lt_of_cell? _ _ hx549_0;first | rwa [add_block] at this | exact this) GW548.out);replace hx549_0:=(HB.out.cell (World.block_lt_of_cell? w _ hx549_0)).trans hx549_0;replace hx549_1:=(HB.out.cell (World.block_lt_of_cell? w _ hx549_1)).trans hx549_1;replace hx549_2:=(HB.out.cell (World.block_lt_of_cell? w _ hx549_2)).trans hx549_2;have HR549_2:=aQ hi549_2;have HC549_2:=aQ hl549_2;clear hi549_2 hl549_2;replace hx549_0:=(cell_far (p:=⟨gb548,0,none⟩) (by first | (rw [add_block];exact hn549_0) | (show (Addr.add _ _).block ≠ _;rw [add_block];exact hn549_0) | exact hn549_0) (.int .i64 t542)).trans hx549_0;replace hx549_1:=(cell_far (p:=⟨gb548,0,none⟩) (by first | (rw [add_block];exact hn549_0) | (show (Addr.add _ _).block ≠ _;rw [add_block];exact hn549_0) | exact hn549_0) (.int .i64 t542)).trans hx549_1;replace hx549_2:=(cell_far (p:=⟨gb548,0,none⟩) (by first | (rw [add_block];exact hn549_0) | (show (Addr.add _ _).block ≠ _;rw [add_block];exact hn549_0) | exact hn549_0) (.int .i64 t542)).trans hx549_2;replace hx549_0:=(cell_far (p:=⟨gb548,1,none⟩) (by first | (rw [add_block];exact hn549_1) | (show (Addr.add _ _).block ≠ _;rw [add_block];exact hn549_1) | exact hn549_1) (.int .i64 t543)).trans hx549_0;replace hx549_1:=(cell_far (p:=⟨gb548,1,none⟩) (by first | (rw [add_block];exact hn549_1) | (show (Addr.add _ _).block ≠ _;rw [add_block];exact hn549_1) | exact hn549_1) (.int .i64 t543)).trans hx549_1;replace hx549_2:=(cell_far (p:=⟨gb548,1,none⟩) (by first | (rw [add_block];exact hn549_1) | (show (Addr.add _ _).block ≠ _;rw [add_block];exact hn549_1) | exact hn549_1) (.int .i64 t543)).trans hx549_2;replace hx549_0:=(cell_far (p:=⟨gb548,2,none⟩) (by first | (rw [add_block];exact hn549_2) | (show (Addr.add _ _).block ≠ _;rw [add_block];exact hn549_2) | exact hn549_2) (.slice Ao141 t544.length co141)).trans hx549_0;replace hx549_1:=(cell_far (p:=⟨gb548,2,none⟩) (by first | (rw [add_block];exact hn549_2) | (show (Addr.add _ _).block ≠ _;rw [add_block];exact hn549_2) | exact hn549_2) (.slice Ao141 t544.length co141)).trans hx549_1;replace hx549_2:=(cell_far (p:=⟨gb548,2,none⟩) (by first | (rw [add_block];exact hn549_2) | (show (Addr.add _ _).block ≠ _;rw [add_block];exact hn549_2) | exact hn549_2) (.slice Ao141 t544.length co141)).trans hx549_2;clear hn549_0;clear hn549_1;clear hn549_2;replace p549:=eq_true p549;replace q549:=eq_true q549) | ((with_reducible refine gate_callee (f:=50) rfl ?_);refine goesL_ (some 55) rfl rfl Try.func50 (by kernel_rfl) rfl #[.agg #[.int .i64 ((rd_T29 l0_2 1).f0),.int .i64 ((rd_T29 l0_2 1).f1),.slice A549_2 ((rd_T29 l0_2 1).f2).length c549_2]] rfl mP ?_;(with_reducible refine (ih k (by omega) ((rd_T29 l0_2 1).f0) ((rd_T29 l0_2 1).f1) _ _ ((rd_T29 l0_2 1).f2) t550 t551 t552 false _ ?side1 ?side2 A49.out).mono ?_);(case side1=>exact Kd.C_below HR549_2.out bB);(case side2=>exact HC549_2.out);rintro e w143 ⟨v553,rfl,ho0,hb⟩;refine ⟨_,rfl,?_⟩;have HO554:=aQ (Kd.N_lower (Kd.N_mono (ok':=fun k_=>(w.heap.size ≤ k_)∧some k_ ≠ (.slice Ao141 t544.length co141:Value).ownBlock∧k_ ≠ gb519∧k_ ≠ gb520∧k_ ≠ gb548) ho0 (fun k_ hk_=>⟨(Nat.le_trans (below_size bB) hk_),(Kd.fresh' (Kd.N_lt (nN ((Kd.N_mono (Kd.N_far (p:=⟨gb548,2,none⟩) (Kd.N_far (p:=⟨gb548,1,none⟩) (Kd.N_far (p:=⟨gb548,0,none⟩) (Kd.N_mono HO546.out (fun k_ hk=>(⟨hk,hk.2⟩:_∧k_ ≠ gb548))) (fun _ hk=>hk.2) (.int .i64 t542)) (fun _ hk=>hk.2) (.int .i64 t543)) (fun _ hk=>hk.2) (.slice Ao141 t544.length co141)) (fun _ h_=>h_.1))))) k_ hk_),(Kd.freshB (g:=gb519) (o:=.cells #[.int .i64 a0_0,.int .i64 a0_1,.slice (some ad541) l0_2.length c0_2] 29 (0,0)) bF k_ hk_),(Kd.freshB (g:=gb520) (o:=.cells #[.int .i64 0,.int .i64 0,.slice none 0 0] 29 (0,0)) bF k_ hk_),(Kd.freshB (g:=gb548) (o:=.cells #[.int .i64 t542,.int .i64 t543,.slice Ao141 t544.length co141] 29 (0,0)) bP k_ hk_)⟩)) (below_size bB));replace HO546:=aQ (Kd.N_elder' (nN ((Kd.N_mono (Kd.N_far (p:=⟨gb548,2,none⟩) (Kd.N_far (p:=⟨gb548,1,none⟩) (Kd.N_far (p:=⟨gb548,0,none⟩) (Kd.N_mono HO546.out (fun k_ hk=>(⟨hk,hk.2⟩:_∧k_ ≠ gb548))) (fun _ hk=>hk.2) (.int .i64 t542)) (fun _ hk=>hk.2) (.int .i64 t543)) (fun _ hk=>hk.2) (.slice Ao141 t544.length co141)) (fun _ h_=>h_.1)))) (Kd.N_base ho0) hb);replace BK519:=aQ (blk_below (g:=gb519) (o:=.cells #[.int .i64 a0_0,.int .i64 a0_1,.slice (some ad541) l0_2.length c0_2] 29 (0,0)) bF hb);replace BK520:=aQ (blk_below (g:=gb520) (o:=.cells #[.int .i64 0,.int .i64 0,.slice none 0 0] 29 (0,0)) bF hb);replace BK548:=aQ (blk_below (g:=gb548) (o:=.cells #[.int .i64 t542,.int .i64 t543,.slice Ao141 t544.length co141] 29 (0,0)) bP hb);replace HB:=aQ (below_step bB hb);(try clear hb);(try clear ho0)) | ((with_reducible refine gate_dst (N:=6) rfl ?_);refine box1 (N:=6) (cs:=#[.int .i64 0,.int .i64 0,.slice none 0 0]) (t:=29) ?_;intro gb556 hg w144 hbox hb;replace HO546:=aQ (Kd.N_below (Kd.N_elderB (nN HO546.out) gb556 (Nat.le_of_eq hg.symm)) hb);replace HO554:=aQ (Kd.N_below (Kd.N_elderB (nN HO554.out) gb556 (Nat.le_of_eq hg.symm)) hb);have BK556:=aQ (hbox);have GW556:=aQ ((by rw [hg];exact (below_size bB):w.heap.size ≤ gb556));have GE556:=aQ ((by rw [hg];exact (below_size bB):w.heap.size ≤ gb556));replace HB:=aQ (below_step bB hb);have NB519_556:=aQ ((by rw [hg];exact Nat.ne_of_lt (blk_lt (g:=gb519) (o:=.cells #[.int .i64 a0_0,.int .i64 a0_1,.slice (some ad541) l0_2.length c0_2] 29 (0,0)) (nB BK519.out)):gb519 ≠ gb556));have NB556_519:=aQ ((by rw [hg];exact Nat.ne_of_gt (blk_lt (g:=gb519) (o:=.cells #[.int .i64 a0_0,.int .i64 a0_1,.slice (some ad541) l0_2.length c0_2] 29 (0,0)) (nB BK519.out)):gb556 ≠ gb519));replace BK519:=aQ (blk_below (g:=gb519) (o:=.cells #[.int .i64 a0_0,.int .i64 a0_1,.slice (some ad541) l0_2.length c0_2] 29 (0,0)) (nB BK519.out) hb);have NB520_556:=aQ ((by rw [hg];exact Nat.ne_of_lt (blk_lt (g:=gb520) (o:=.cells #[.int .i64 0,.int .i64 0,.slice none 0 0] 29 (0,0)) (nB BK520.out)):gb520 ≠ gb556));have NB556_520:=aQ ((by rw [hg];exact Nat.ne_of_gt (blk_lt (g:=gb520) (o:=.cells #[.int .i64 0,.int .i64 0,.slice none 0 0] 29 (0,0)) (nB BK520.out)):gb556 ≠ gb520));replace BK520:=aQ (blk_below (g:=gb520) (o:=.cells #[.int .i64 0,.int .i64 0,.slice none 0 0] 29 (0,0)) (nB BK520.out) hb);have NB548_556:=aQ ((by rw [hg];exact Nat.ne_of_lt (blk_lt (g:=gb548) (o:=.cells #[.int .i64 t542,.int .i64 t543,.slice Ao141 t544.length co141] 29 (0,0)) (nB BK548.out)):gb548 ≠ gb556));have NB556_548:=aQ ((by rw [hg];exact Nat.ne_of_gt (blk_lt (g:=gb548) (o:=.cells #[.int .i64 t542,.int .i64 t543,.slice Ao141 t544.length co141] 29 (0,0)) (nB BK548.out)):gb556 ≠ gb548));replace BK548:=aQ (blk_below (g:=gb548) (o:=.cells #[.int .i64 t542,.int .i64 t543,.slice Ao141 t544.length co141] 29 (0,0)) (nB BK548.out) hb);clear hb hbox hg;have hnb145:=NB556_519.out;have hnc145:=NB519_556.out;have hnb146:=NB556_520.out;have hnc146:=NB520_556.out;have hnb147:=NB556_548.out;have hnc147:=NB548_556.out;have hcz148_0:w144.cell? ⟨gb556,0,none⟩ = some (.int .i64 0):=(blk_cell BK556.out 0).trans rfl;have hcz148_1:w144.cell? ⟨gb556,1,none⟩ = some (.int .i64 0):=(blk_cell BK556.out 1).trans rfl;have hcz148_2:w144.cell? ⟨gb556,2,none⟩ = some (.slice none 0 0):=(blk_cell BK556.out 2).trans rfl;have hfz148_0:=blk_frozen BK556.out 0;have hfz148_1:=blk_frozen BK556.out 1;have hfz148_2:=blk_frozen BK556.out 2;obtain ⟨Ao149,co149,eo149⟩:=Kd.N_slice HO554.out;subst eo149))
   have n0_:Aside0 (Kd.N k29 29 (((w144.setCell ⟨gb556,0,none⟩ (.int .i64 t550)).setCell ⟨gb556,1,none⟩ (.int .i64 t551)).setCell ⟨gb556,2,none⟩ (.slice Ao149 t552.length co149)) w.heap.size (fun k_=>(w.heap.size ≤ k_)∧some k_ ≠ (.slice Ao149 t552.length co149:Value).ownBlock∧k_ ≠ gb519∧k_ ≠ gb520∧k_ ≠ gb548∧k_ ≠ gb556) (.slice Ao141 t544.length co141) t544):=⟨Kd.N_mono (nFN (g:=gb556) HO546.out (fun k_ hk=>hk.2)) (fun _ hk=>⟨hk.1.1.1.1,⟨hk.1.2,⟨hk.1.1.1.2.1,⟨hk.1.1.1.2.2,⟨hk.1.1.2,hk.2⟩⟩⟩⟩⟩)⟩
   have n1_:Aside0 (Kd.N k29 29 (((w144.setCell ⟨gb556,0,none⟩ (.int .i64 t550)).setCell ⟨gb556,1,none⟩ (.int .i64 t551)).setCell ⟨gb556,2,none⟩ (.slice Ao149 t552.length co149)) w.heap.size (fun k_=>(w.heap.size ≤ k_)∧some k_ ≠ (.slice Ao141 t544.length co141:Value).ownBlock∧k_ ≠ gb519∧k_ ≠ gb520∧k_ ≠ gb548∧k_ ≠ gb556) (.slice Ao149 t552.length co149) t552):=⟨Kd.N_mono (nFN (g:=gb556) HO554.out (fun k_ hk=>hk.2)) (fun _ hk=>⟨hk.1.1,⟨hk.1.2.1,⟨hk.1.2.2.1,⟨hk.1.2.2.2.1,⟨hk.1.2.2.2.2,hk.2⟩⟩⟩⟩⟩)⟩
   have n2_:Aside0 ((((w144.setCell ⟨gb556,0,none⟩ (.int .i64 t550)).setCell ⟨gb556,1,none⟩ (.int .i64 t551)).setCell ⟨gb556,2,none⟩ (.slice Ao149 t552.length co149)).heap[gb519]? = some (.cells #[.int .i64 a0_0,.int .i64 a0_1,.slice (some ad541) l0_2.length c0_2] 29 (0,0))):=⟨bF⟩
   have n3_:Aside0 ((((w144.setCell ⟨gb556,0,none⟩ (.int .i64 t550)).setCell ⟨gb556,1,none⟩ (.int .i64 t551)).setCell ⟨gb556,2,none⟩ (.slice Ao149 t552.length co149)).heap[gb520]? = some (.cells #[.int .i64 0,.int .i64 0,.slice none 0 0] 29 (0,0))):=⟨bF⟩
   have n4_:Aside0 ((((w144.setCell ⟨gb556,0,none⟩ (.int .i64 t550)).setCell ⟨gb556,1,none⟩ (.int .i64 t551)).setCell ⟨gb556,2,none⟩ (.slice Ao149 t552.length co149)).heap[gb548]? = some (.cells #[.int .i64 t542,.int .i64 t543,.slice Ao141 t544.length co141] 29 (0,0))):=⟨bF⟩
   have n5_:Aside0 ((((w144.setCell ⟨gb556,0,none⟩ (.int .i64 t550)).setCell ⟨gb556,1,none⟩ (.int .i64 t551)).setCell ⟨gb556,2,none⟩ (.slice Ao149 t552.length co149)).heap[gb556]? = some (.cells #[.int .i64 t550,.int .i64 t551,.slice Ao149 t552.length co149] 29 (0,0))):=⟨bP⟩
   have n6_:Aside0 (Below w.heap.size w (((w144.setCell ⟨gb556,0,none⟩ (.int .i64 t550)).setCell ⟨gb556,1,none⟩ (.int .i64 t551)).setCell ⟨gb556,2,none⟩ (.slice Ao149 t552.length co149))):=⟨bB⟩
   (try clear HO546)
   (try clear HO554)
   (try clear BK519)
   (try clear BK520)
   (try clear BK548)
   (try clear BK556)
   (try clear HB)
   generalize (((w144.setCell ⟨gb556,0,none⟩ (.int .i64 t550)).setCell ⟨gb556,1,none⟩ (.int .i64 t551)).setCell ⟨gb556,2,none⟩ (.slice Ao149 t552.length co149)) = w150 at n0_ n1_ n2_ n3_ n4_ n5_ n6_ ⊢
   have HO546:=n0_
   have HO554:=n1_
   have BK519:=n2_
   have BK520:=n3_
   have BK548:=n4_
   have BK556:=n5_
   have HB:=n6_
   clear n0_ n1_ n2_ n3_ n4_ n5_ n6_
   replace HO546:=aQ (Kd.N_drew HO546.out)
   replace HO554:=aQ (Kd.N_drew HO554.out)
   replace BK519:=aQ (blk_drew BK519.out)
   replace BK520:=aQ (blk_drew BK520.out)
   replace BK548:=aQ (blk_drew BK548.out)
   replace BK556:=aQ (blk_drew BK556.out)
   replace HB:=aQ (below_drew1 HB.out)
   refine start_ (n:=22) (S:=fun w'=>True) (ds:=[]) #[false,false,false,false,false,false,false,false,false,false,false,false,false,false,false,false,false,false,false,false,false,false] (by kernel_rfl) rfl rfl trivial (fun hHeld=>?_);refine with_tabW spec_l17Pass.tab12 spec_l17Pass.bits12 (fun HT_ HW_=>?_)
   generalize w150.drew = w151 at HO546 HO554 BK519 BK520 BK548 BK556 HB hHeld ⊢
   refine pur (i:=0) (N:=some 58) #[true,false,false,false,false,false,false,false,false,false,false,false,false,false,false,false,false,false,false,false,false,false] ?_
   refine pur (i:=1) (N:=some 59) #[true,true,false,false,false,false,false,false,false,false,false,false,false,false,false,false,false,false,false,false,false,false] ?_
   refine pur (i:=2) (N:=some 60) #[true,true,true,false,false,false,false,false,false,false,false,false,false,false,false,false,false,false,false,false,false,false] ?_
   refine pur (i:=3) (N:=some 61) #[true,true,true,true,false,false,false,false,false,false,false,false,false,false,false,false,false,false,false,false,false,false] ?_
   refine pur (i:=4) (N:=some 62) #[true,true,true,true,true,false,false,false,false,false,false,false,false,false,false,false,false,false,false,false,false,false] ?_
   refine pur (i:=5) (N:=some 63) #[true,true,true,true,true,true,false,false,false,false,false,false,false,false,false,false,false,false,false,false,false,false] ?_
   refine pur (i:=6) (N:=some 64) #[true,true,true,true,true,true,true,false,false,false,false,false,false,false,false,false,false,false,false,false,false,false] ?_
   refine pure_ (i:=7) (N:=some 65) (v:=undef) (a':=?_) #[true,true,true,true,true,true,true,true,false,false,false,false,false,false,false,false,false,false,false,false,false,false] rfl rfl (any_of HT_.out (by kernel_rfl)) (fun _ _ _ h=>h) (Or.inr ⟨by rfl,rfl⟩) ?_ ?_
   rotate_left;·simp only [Act.put,List.setIfInBounds_toArray,List.set_cons_zero,List.set_cons_succ,i64_w,i32_w];rfl
   refine pure_ (i:=8) (N:=some 66) (v:=undef) (a':=?_) #[true,true,true,true,true,true,true,true,true,false,false,false,false,false,false,false,false,false,false,false,false,false] rfl rfl (any_of HT_.out (by kernel_rfl)) (fun _ _ _ h=>h) (Or.inr ⟨by rfl,rfl⟩) ?_ ?_
   rotate_left;·simp only [Act.put,List.setIfInBounds_toArray,List.set_cons_zero,List.set_cons_succ,i64_w,i32_w];rfl
   refine pure_ (i:=9) (N:=some 67) (v:=undef) (a':=?_) #[true,true,true,true,true,true,true,true,true,true,false,false,false,false,false,false,false,false,false,false,false,false] rfl rfl (any_of HT_.out (by kernel_rfl)) (fun _ _ _ h=>h) (Or.inr ⟨by rfl,rfl⟩) ?_ ?_
   rotate_left;·simp only [Act.put,List.setIfInBounds_toArray,List.set_cons_zero,List.set_cons_succ,i64_w,i32_w];rfl
   refine pure_ (i:=10) (N:=some 68) (v:=undef) (a':=?_) #[true,true,true,true,true,true,true,true,true,true,true,false,false,false,false,false,false,false,false,false,false,false] rfl rfl (any_of HT_.out (by kernel_rfl)) (fun _ _ _ h=>h) (Or.inr ⟨by rfl,rfl⟩) ?_ ?_
   rotate_left;·simp only [Act.put,List.setIfInBounds_toArray,List.set_cons_zero,List.set_cons_succ,i64_w,i32_w];rfl
   refine pure_ (i:=11) (N:=some 69) (v:=undef) (a':=?_) #[true,true,true,true,true,true,true,true,true,true,true,true,false,false,false,false,false,false,false,false,false,false] rfl rfl (any_of HT_.out (by kernel_rfl)) (fun _ _ _ h=>h) (Or.inr ⟨by rfl,rfl⟩) ?_ ?_
   rotate_left;·simp only [Act.put,List.setIfInBounds_toArray,List.set_cons_zero,List.set_cons_succ,i64_w,i32_w];rfl
   refine pure_ (i:=12) (N:=some 70) (v:=undef) (a':=?_) #[true,true,true,true,true,true,true,true,true,true,true,true,true,false,false,false,false,false,false,false,false,false] rfl rfl (any_of HT_.out (by kernel_rfl)) (fun _ _ _ h=>h) (Or.inr ⟨by rfl,rfl⟩) ?_ ?_
   rotate_left;·simp only [Act.put,List.setIfInBounds_toArray,List.set_cons_zero,List.set_cons_succ,i64_w,i32_w];rfl
   refine pure_ (i:=13) (N:=some 71) (v:=undef) (a':=?_) #[true,true,true,true,true,true,true,true,true,true,true,true,true,true,false,false,false,false,false,false,false,false] rfl rfl (any_of HT_.out (by kernel_rfl)) (fun _ _ _ h=>h) (Or.inr ⟨by rfl,rfl⟩) ?_ ?_
   rotate_left;·simp only [Act.put,List.setIfInBounds_toArray,List.set_cons_zero,List.set_cons_succ,i64_w,i32_w];rfl
   refine pure_ (i:=14) (N:=some 72) (v:=undef) (a':=?_) #[true,true,true,true,true,true,true,true,true,true,true,true,true,true,true,false,false,false,false,false,false,false] rfl rfl (any_of HT_.out (by kernel_rfl)) (fun _ _ _ h=>h) (Or.inr ⟨by rfl,rfl⟩) ?_ ?_
   rotate_left;·simp only [Act.put,List.setIfInBounds_toArray,List.set_cons_zero,List.set_cons_succ,i64_w,i32_w];rfl
   refine pure_ (i:=15) (N:=some 73) (v:=undef) (a':=?_) #[true,true,true,true,true,true,true,true,true,true,true,true,true,true,true,true,false,false,false,false,false,false] rfl rfl (any_of HT_.out (by kernel_rfl)) (fun _ _ _ h=>h) (Or.inr ⟨by rfl,rfl⟩) ?_ ?_
   rotate_left;·simp only [Act.put,List.setIfInBounds_toArray,List.set_cons_zero,List.set_cons_succ,i64_w,i32_w];rfl
   refine pure_ (i:=16) (N:=some 74) (v:=undef) (a':=?_) #[true,true,true,true,true,true,true,true,true,true,true,true,true,true,true,true,true,false,false,false,false,false] rfl rfl (any_of HT_.out (by kernel_rfl)) (fun _ _ _ h=>h) (Or.inr ⟨by rfl,rfl⟩) ?_ ?_
   rotate_left;·simp only [Act.put,List.setIfInBounds_toArray,List.set_cons_zero,List.set_cons_succ,i64_w,i32_w];rfl
   refine pure_ (i:=17) (N:=some 75) (v:=undef) (a':=?_) #[true,true,true,true,true,true,true,true,true,true,true,true,true,true,true,true,true,true,false,false,false,false] rfl rfl (any_of HT_.out (by kernel_rfl)) (fun _ _ _ h=>h) (Or.inr ⟨by rfl,rfl⟩) ?_ ?_
   rotate_left;·simp only [Act.put,List.setIfInBounds_toArray,List.set_cons_zero,List.set_cons_succ,i64_w,i32_w];rfl
   refine pure_ (i:=18) (N:=some 76) (v:=undef) (a':=?_) #[true,true,true,true,true,true,true,true,true,true,true,true,true,true,true,true,true,true,true,false,false,false] rfl rfl (any_of HT_.out (by kernel_rfl)) (fun _ _ _ h=>h) (Or.inr ⟨by rfl,rfl⟩) ?_ ?_
   rotate_left;·simp only [Act.put,List.setIfInBounds_toArray,List.set_cons_zero,List.set_cons_succ,i64_w,i32_w];rfl
   refine pure_ (i:=19) (N:=some 77) (v:=undef) (a':=?_) #[true,true,true,true,true,true,true,true,true,true,true,true,true,true,true,true,true,true,true,true,false,false] rfl rfl (any_of HT_.out (by kernel_rfl)) (fun _ _ _ h=>h) (Or.inr ⟨by rfl,rfl⟩) ?_ ?_
   rotate_left;·simp only [Act.put,List.setIfInBounds_toArray,List.set_cons_zero,List.set_cons_succ,i64_w,i32_w];rfl
   refine pure_ (i:=20) (N:=some 78) (v:=undef) (a':=?_) #[true,true,true,true,true,true,true,true,true,true,true,true,true,true,true,true,true,true,true,true,true,false] rfl rfl (any_of HT_.out (by kernel_rfl)) (fun _ _ _ h=>h) (Or.inr ⟨by rfl,rfl⟩) ?_ ?_
   rotate_left;·simp only [Act.put,List.setIfInBounds_toArray,List.set_cons_zero,List.set_cons_succ,i64_w,i32_w];rfl
   refine pur (i:=21) (N:=some 79) #[true,true,true,true,true,true,true,true,true,true,true,true,true,true,true,true,true,true,true,true,true,true] ?_
   refine done_ (done_of HT_.out (by kernel_rfl)) ?_
   have hcz152_0:w151.cell? ⟨gb520,0,none⟩ = some (.int .i64 0):=(blk_cell BK520.out 0).trans rfl
   have hcz152_1:w151.cell? ⟨gb520,1,none⟩ = some (.int .i64 0):=(blk_cell BK520.out 1).trans rfl
   have hcz152_2:w151.cell? ⟨gb520,2,none⟩ = some (.slice none 0 0):=(blk_cell BK520.out 2).trans rfl
   have hfz152_0:=blk_frozen BK520.out 0
   have hfz152_1:=blk_frozen BK520.out 1
   have hfz152_2:=blk_frozen BK520.out 2
   try go_wp2
   refine bodyPost_ret (results_ct rfl _ _ gb520 29 #[.int .i64 0,.int .i64 0,.slice none 0 0] (0,0) _ rfl bP Try.underlying29 rfl (by kernel_rfl)) rfl ?_
   exact ⟨_,rfl,by first | exact Kd.R_nil _ _ _ _ _ | exact Kd.N_nil _ _ _ _ _ | exact Kd.V_nil _ _ _ _ _ | exact Kd.Q_nil _ _ _ _ _ | exact Kd.S_nil _ _ _ _ _,bB⟩
 ·replace c50:=Bool.eq_false_iff.mpr c50
  subst c50
  have H1:(some (0,0,([]:List (S29)),false)) = some (r1,r2,r3,r4):=by rw [if_neg (show ¬ (false = true) by decide)] at H;exact H
  clear H
  have H:=H1
  clear H1
  simp only [Option.some.injEq,Prod.mk.injEq] at H
  obtain ⟨rfl,rfl,rfl,rfl⟩:=H
  go_enter Try.func50,Try.ntmps50
  try go_wp2_with (first | ((with_reducible refine gate_dst (N:=1) rfl ?_);refine box1 (N:=1) (cs:=#[.int .i64 a0_0,.int .i64 a0_1,.slice A0_2 l0_2.length c0_2]) (t:=29) ?_;intro gb519 hg w153 hbox hb;have BK519:=aQ (hbox);have GW519:=aQ ((by rw [hg];exact (below_size bB):w.heap.size ≤ gb519));have GE519:=aQ ((by rw [hg];exact (below_size bB):w.heap.size ≤ gb519));replace HB:=aQ (below_step bB hb);clear hb hbox hg) | ((with_reducible refine gate_dst (N:=2) rfl ?_);refine box1 (N:=2) (cs:=#[.int .i64 0,.int .i64 0,.slice none 0 0]) (t:=29) ?_;intro gb520 hg w154 hbox hb;have BK520:=aQ (hbox);have GW520:=aQ ((by rw [hg];exact (below_size bB):w.heap.size ≤ gb520));have GE520:=aQ ((by rw [hg];exact (below_size bB):w.heap.size ≤ gb520));replace HB:=aQ (below_step bB hb);have NB519_520:=aQ ((by rw [hg];exact Nat.ne_of_lt (blk_lt (g:=gb519) (o:=.cells #[.int .i64 a0_0,.int .i64 a0_1,.slice A0_2 l0_2.length c0_2] 29 (0,0)) (nB BK519.out)):gb519 ≠ gb520));have NB520_519:=aQ ((by rw [hg];exact Nat.ne_of_gt (blk_lt (g:=gb519) (o:=.cells #[.int .i64 a0_0,.int .i64 a0_1,.slice A0_2 l0_2.length c0_2] 29 (0,0)) (nB BK519.out)):gb520 ≠ gb519));replace BK519:=aQ (blk_below (g:=gb519) (o:=.cells #[.int .i64 a0_0,.int .i64 a0_1,.slice A0_2 l0_2.length c0_2] 29 (0,0)) (nB BK519.out) hb);clear hb hbox hg;have hnb155:=NB519_520.out;have hnc155:=NB520_519.out;have hcz156_0:w154.cell? ⟨gb519,0,none⟩ = some (.int .i64 a0_0):=(blk_cell BK519.out 0).trans rfl;have hcz156_1:w154.cell? ⟨gb519,1,none⟩ = some (.int .i64 a0_1):=(blk_cell BK519.out 1).trans rfl;have hcz156_2:w154.cell? ⟨gb519,2,none⟩ = some (.slice A0_2 l0_2.length c0_2):=(blk_cell BK519.out 2).trans rfl;have hfz156_0:=blk_frozen BK519.out 0;have hfz156_1:=blk_frozen BK519.out 1;have hfz156_2:=blk_frozen BK519.out 2;have p541:0 ≤ (0:Int):=(by omega);have q541:0 < (l0_2.length:Int):=of_decide_eq_true (by first | (with_reducible assumption) | assumption);obtain ⟨ad541,A541_2,c541_2,e541,hx541_0,hx541_1,hx541_2,hl541_2,hi541_2⟩:=at_T29 HR0_2.out 0 p541 q541;cases e541;have qi541:(0 < l0_2.length) = True:=eq_true (by omega);(try rw [show ((0:Int)).toNat = 0 from rfl] at hx541_0);(try rw [show 0 * 3 = 0 from rfl] at hx541_0);(try rw [Addr.add_zero'] at hx541_0);(try rw [show ((0:Int)).toNat = 0 from rfl] at hx541_1);(try rw [show 0 * 3 = 0 from rfl] at hx541_1);(try rw [Addr.add_zero'] at hx541_1);(try rw [show ((0:Int)).toNat = 0 from rfl] at hx541_2);(try rw [show 0 * 3 = 0 from rfl] at hx541_2);(try rw [Addr.add_zero'] at hx541_2);replace hx541_0:=(HB.out.cell (World.block_lt_of_cell? w _ hx541_0)).trans hx541_0;replace hx541_1:=(HB.out.cell (World.block_lt_of_cell? w _ hx541_1)).trans hx541_1;replace hx541_2:=(HB.out.cell (World.block_lt_of_cell? w _ hx541_2)).trans hx541_2;have HR541_2:=aQ hi541_2;have HC541_2:=aQ hl541_2;clear hi541_2 hl541_2;replace p541:=eq_true p541;replace q541:=eq_true q541) | ((with_reducible refine gate_callee (f:=50) rfl ?_);refine goesL_ (some 47) rfl rfl Try.func50 (by kernel_rfl) rfl #[.agg #[.int .i64 ((rd_T29 l0_2 0).f0),.int .i64 ((rd_T29 l0_2 0).f1),.slice A541_2 ((rd_T29 l0_2 0).f2).length c541_2]] rfl mP ?_;(with_reducible refine (ih k (by omega) ((rd_T29 l0_2 0).f0) ((rd_T29 l0_2 0).f1) _ _ ((rd_T29 l0_2 0).f2) t542 t543 t544 false _ ?side1 ?side2 A47.out).mono ?_);(case side1=>repeat (first | exact (Kd.C_below HR541_2.out HB.out) | (with_reducible refine Kd.C_alloc ?_ _) | (with_reducible refine Kd.C_drewN ?_ _) | (with_reducible refine Kd.C_drew ?_)));(case side2=>exact HC541_2.out);rintro e w157 ⟨v545,rfl,ho0,hb⟩;refine ⟨_,rfl,?_⟩;have HO546:=aQ (Kd.N_lower (Kd.N_mono (ok':=fun k_=>(w.heap.size ≤ k_)∧k_ ≠ gb519∧k_ ≠ gb520) ho0 (fun k_ hk_=>⟨(Nat.le_trans (below_size bB) hk_),(Kd.freshB (g:=gb519) (o:=.cells #[.int .i64 a0_0,.int .i64 a0_1,.slice (some ad541) l0_2.length c0_2] 29 (0,0)) (nB BK519.out) k_ hk_),(Kd.freshB (g:=gb520) (o:=.cells #[.int .i64 0,.int .i64 0,.slice none 0 0] 29 (0,0)) (nB BK520.out) k_ hk_)⟩)) (below_size bB));replace BK519:=aQ (blk_below (g:=gb519) (o:=.cells #[.int .i64 a0_0,.int .i64 a0_1,.slice (some ad541) l0_2.length c0_2] 29 (0,0)) (nB BK519.out) hb);replace BK520:=aQ (blk_below (g:=gb520) (o:=.cells #[.int .i64 0,.int .i64 0,.slice none 0 0] 29 (0,0)) (nB BK520.out) hb);replace HB:=aQ (below_step bB hb);(try clear hb);(try clear ho0)) | ((with_reducible refine gate_dst (N:=4) rfl ?_);refine box1 (N:=4) (cs:=#[.int .i64 0,.int .i64 0,.slice none 0 0]) (t:=29) ?_;intro gb548 hg w158 hbox hb;replace HO546:=aQ (Kd.N_below (Kd.N_elderB (nN HO546.out) gb548 (Nat.le_of_eq hg.symm)) hb);have BK548:=aQ (hbox);have GW548:=aQ ((by rw [hg];exact (below_size bB):w.heap.size ≤ gb548));have GE548:=aQ ((by rw [hg];exact (below_size bB):w.heap.size ≤ gb548));replace HB:=aQ (below_step bB hb);have NB519_548:=aQ ((by rw [hg];exact Nat.ne_of_lt (blk_lt (g:=gb519) (o:=.cells #[.int .i64 a0_0,.int .i64 a0_1,.slice (some ad541) l0_2.length c0_2] 29 (0,0)) (nB BK519.out)):gb519 ≠ gb548));have NB548_519:=aQ ((by rw [hg];exact Nat.ne_of_gt (blk_lt (g:=gb519) (o:=.cells #[.int .i64 a0_0,.int .i64 a0_1,.slice (some ad541) l0_2.length c0_2] 29 (0,0)) (nB BK519.out)):gb548 ≠ gb519));replace BK519:=aQ (blk_below (g:=gb519) (o:=.cells #[.int .i64 a0_0,.int .i64 a0_1,.slice (some ad541) l0_2.length c0_2] 29 (0,0)) (nB BK519.out) hb);have NB520_548:=aQ ((by rw [hg];exact Nat.ne_of_lt (blk_lt (g:=gb520) (o:=.cells #[.int .i64 0,.int .i64 0,.slice none 0 0] 29 (0,0)) (nB BK520.out)):gb520 ≠ gb548));have NB548_520:=aQ ((by rw [hg];exact Nat.ne_of_gt (blk_lt (g:=gb520) (o:=.cells #[.int .i64 0,.int .i64 0,.slice none 0 0] 29 (0,0)) (nB BK520.out)):gb548 ≠ gb520));replace BK520:=aQ (blk_below (g:=gb520) (o:=.cells #[.int .i64 0,.int .i64 0,.slice none 0 0] 29 (0,0)) (nB BK520.out) hb);clear hb hbox hg;have hnb159:=NB548_519.out;have hnc159:=NB519_548.out;have hnb160:=NB548_520.out;have hnc160:=NB520_548.out;have hcz161_0:w158.cell? ⟨gb548,0,none⟩ = some (.int .i64 0):=(blk_cell BK548.out 0).trans rfl;have hcz161_1:w158.cell? ⟨gb548,1,none⟩ = some (.int .i64 0):=(blk_cell BK548.out 1).trans rfl;have hcz161_2:w158.cell? ⟨gb548,2,none⟩ = some (.slice none 0 0):=(blk_cell BK548.out 2).trans rfl;have hfz161_0:=blk_frozen BK548.out 0;have hfz161_1:=blk_frozen BK548.out 1;have hfz161_2:=blk_frozen BK548.out 2;obtain ⟨Ao162,co162,eo162⟩:=Kd.N_slice HO546.out;subst eo162;have hcz163_0:w158.cell? ⟨gb519,0,none⟩ = some (.int .i64 a0_0):=(blk_cell BK519.out 0).trans rfl;have hcz163_1:w158.cell? ⟨gb519,1,none⟩ = some (.int .i64 a0_1):=(blk_cell BK519.out 1).trans rfl;have hcz163_2:w158.cell? ⟨gb519,2,none⟩ = some (.slice (some ad541) l0_2.length c0_2):=(blk_cell BK519.out 2).trans rfl;have hfz163_0:=blk_frozen BK519.out 0;have hfz163_1:=blk_frozen BK519.out 1;have hfz163_2:=blk_frozen BK519.out 2;have p549:0 ≤ (1:Int):=(by omega);have q549:1 < (l0_2.length:Int):=of_decide_eq_true (by first | (with_reducible assumption) | assumption);obtain ⟨ad549,A549_2,c549_2,e549,hx549_0,hx549_1,hx549_2,hl549_2,hi549_2⟩:=at_T29 HR0_2.out 1 p549 q549;obtain rfl:ad541 = ad549:=(by injection e549);(try simp only [show (1:Int).toNat = 1 from rfl,Nat.reduceMul,Nat.reduceEqDiff,Go.Addr.add,↓reduceIte] at hx549_0);(try simp only [show (1:Int).toNat = 1 from rfl,Nat.reduceMul,Nat.reduceEqDiff,Go.Addr.add,↓reduceIte] at hx549_1);(try simp only [show (1:Int).toNat = 1 from rfl,Nat.reduceMul,Nat.reduceEqDiff,Go.Addr.add,↓reduceIte] at hx549_2);have qi549:(1 < l0_2.length) = True:=eq_true (by omega);(try rw [show ((1:Int)).toNat = 1 from rfl] at hx549_0);(try rw [show 1 * 3 = 3 from rfl] at hx549_0);(try rw [show ((1:Int)).toNat = 1 from rfl] at hx549_1);(try rw [show 1 * 3 = 3 from rfl] at hx549_1);(try rw [show ((1:Int)).toNat = 1 from rfl] at hx549_2);(try rw [show 1 * 3 = 3 from rfl] at hx549_2);have hn549_0:ad541.block ≠ gb548:=Nat.ne_of_lt (Nat.lt_of_lt_of_le (by have:=World.block_lt_of_cell? _ _ hx549_0;first | rwa [add_block] at this | exact this) GW548.out);have hn549_1:ad541.block ≠ gb548:=Nat.ne_of_lt (Nat.lt_of_lt_of_le (by have:=World.block_lt_of_cell? _ _ hx549_0;first | rwa [add_block] at this | exact this) GW548.out);have hn549_2:ad541.block ≠ gb548:=Nat.ne_of_lt (Nat.lt_of_lt_of_le (by have:=World.block_lt_of_cell? _ _ hx549_0;first | rwa [add_block] at this | exact this) GW548.out);replace hx549_0:=(HB.out.cell (World.block_lt_of_cell? w _ hx549_0)).trans hx549_0;replace hx549_1:=(HB.out.cell (World.block_lt_of_cell? w _ hx549_1)).trans hx549_1;replace hx549_2:=(HB.out.cell (World.block_lt_of_cell? w _ hx549_2)).trans hx549_2;have HR549_2:=aQ hi549_2;have HC549_2:=aQ hl549_2;clear hi549_2 hl549_2;replace hx549_0:=(cell_far (p:=⟨gb548,0,none⟩) (by first | (rw [add_block];exact hn549_0) | (show (Addr.add _ _).block ≠ _;rw [add_block];exact hn549_0) | exact hn549_0) (.int .i64 t542)).trans hx549_0;replace hx549_1:=(cell_far (p:=⟨gb548,0,none⟩) (by first | (rw [add_block];exact hn549_0) | (show (Addr.add _ _).block ≠ _;rw [add_block];exact hn549_0) | exact hn549_0) (.int .i64 t542)).trans hx549_1;replace hx549_2:=(cell_far (p:=⟨gb548,0,none⟩) (by first | (rw [add_block];exact hn549_0) | (show (Addr.add _ _).block ≠ _;rw [add_block];exact hn549_0) | exact hn549_0) (.int .i64 t542)).trans hx549_2;replace hx549_0:=(cell_far (p:=⟨gb548,1,none⟩) (by first | (rw [add_block];exact hn549_1) | (show (Addr.add _ _).block ≠ _;rw [add_block];exact hn549_1) | exact hn549_1) (.int .i64 t543)).trans hx549_0;replace hx549_1:=(cell_far (p:=⟨gb548,1,none⟩) (by first | (rw [add_block];exact hn549_1) | (show (Addr.add _ _).block ≠ _;rw [add_block];exact hn549_1) | exact hn549_1) (.int .i64 t543)).trans hx549_1;replace hx549_2:=(cell_far (p:=⟨gb548,1,none⟩) (by first | (rw [add_block];exact hn549_1) | (show (Addr.add _ _).block ≠ _;rw [add_block];exact hn549_1) | exact hn549_1) (.int .i64 t543)).trans hx549_2;replace hx549_0:=(cell_far (p:=⟨gb548,2,none⟩) (by first | (rw [add_block];exact hn549_2) | (show (Addr.add _ _).block ≠ _;rw [add_block];exact hn549_2) | exact hn549_2) (.slice Ao162 t544.length co162)).trans hx549_0;replace hx549_1:=(cell_far (p:=⟨gb548,2,none⟩) (by first | (rw [add_block];exact hn549_2) | (show (Addr.add _ _).block ≠ _;rw [add_block];exact hn549_2) | exact hn549_2) (.slice Ao162 t544.length co162)).trans hx549_1;replace hx549_2:=(cell_far (p:=⟨gb548,2,none⟩) (by first | (rw [add_block];exact hn549_2) | (show (Addr.add _ _).block ≠ _;rw [add_block];exact hn549_2) | exact hn549_2) (.slice Ao162 t544.length co162)).trans hx549_2;clear hn549_0;clear hn549_1;clear hn549_2;replace p549:=eq_true p549;replace q549:=eq_true q549) | ((with_reducible refine gate_callee (f:=50) rfl ?_);refine goesL_ (some 55) rfl rfl Try.func50 (by kernel_rfl) rfl #[.agg #[.int .i64 ((rd_T29 l0_2 1).f0),.int .i64 ((rd_T29 l0_2 1).f1),.slice A549_2 ((rd_T29 l0_2 1).f2).length c549_2]] rfl mP ?_;(with_reducible refine (ih k (by omega) ((rd_T29 l0_2 1).f0) ((rd_T29 l0_2 1).f1) _ _ ((rd_T29 l0_2 1).f2) t550 t551 t552 t555 _ ?side1 ?side2 A49.out).mono ?_);(case side1=>exact Kd.C_below HR549_2.out bB);(case side2=>exact HC549_2.out);rintro e w164 ⟨v553,rfl,ho0,hb⟩;refine ⟨_,rfl,?_⟩;have HO554:=aQ (Kd.N_lower (Kd.N_mono (ok':=fun k_=>(w.heap.size ≤ k_)∧some k_ ≠ (.slice Ao162 t544.length co162:Value).ownBlock∧k_ ≠ gb519∧k_ ≠ gb520∧k_ ≠ gb548) ho0 (fun k_ hk_=>⟨(Nat.le_trans (below_size bB) hk_),(Kd.fresh' (Kd.N_lt (nN ((Kd.N_mono (Kd.N_far (p:=⟨gb548,2,none⟩) (Kd.N_far (p:=⟨gb548,1,none⟩) (Kd.N_far (p:=⟨gb548,0,none⟩) (Kd.N_mono HO546.out (fun k_ hk=>(⟨hk,hk.2⟩:_∧k_ ≠ gb548))) (fun _ hk=>hk.2) (.int .i64 t542)) (fun _ hk=>hk.2) (.int .i64 t543)) (fun _ hk=>hk.2) (.slice Ao162 t544.length co162)) (fun _ h_=>h_.1))))) k_ hk_),(Kd.freshB (g:=gb519) (o:=.cells #[.int .i64 a0_0,.int .i64 a0_1,.slice (some ad541) l0_2.length c0_2] 29 (0,0)) bF k_ hk_),(Kd.freshB (g:=gb520) (o:=.cells #[.int .i64 0,.int .i64 0,.slice none 0 0] 29 (0,0)) bF k_ hk_),(Kd.freshB (g:=gb548) (o:=.cells #[.int .i64 t542,.int .i64 t543,.slice Ao162 t544.length co162] 29 (0,0)) bP k_ hk_)⟩)) (below_size bB));replace HO546:=aQ (Kd.N_elder' (nN ((Kd.N_mono (Kd.N_far (p:=⟨gb548,2,none⟩) (Kd.N_far (p:=⟨gb548,1,none⟩) (Kd.N_far (p:=⟨gb548,0,none⟩) (Kd.N_mono HO546.out (fun k_ hk=>(⟨hk,hk.2⟩:_∧k_ ≠ gb548))) (fun _ hk=>hk.2) (.int .i64 t542)) (fun _ hk=>hk.2) (.int .i64 t543)) (fun _ hk=>hk.2) (.slice Ao162 t544.length co162)) (fun _ h_=>h_.1)))) (Kd.N_base ho0) hb);replace BK519:=aQ (blk_below (g:=gb519) (o:=.cells #[.int .i64 a0_0,.int .i64 a0_1,.slice (some ad541) l0_2.length c0_2] 29 (0,0)) bF hb);replace BK520:=aQ (blk_below (g:=gb520) (o:=.cells #[.int .i64 0,.int .i64 0,.slice none 0 0] 29 (0,0)) bF hb);replace BK548:=aQ (blk_below (g:=gb548) (o:=.cells #[.int .i64 t542,.int .i64 t543,.slice Ao162 t544.length co162] 29 (0,0)) bP hb);replace HB:=aQ (below_step bB hb);(try clear hb);(try clear ho0)) | ((with_reducible refine gate_dst (N:=6) rfl ?_);refine box1 (N:=6) (cs:=#[.int .i64 0,.int .i64 0,.slice none 0 0]) (t:=29) ?_;intro gb556 hg w165 hbox hb;replace HO546:=aQ (Kd.N_below (Kd.N_elderB (nN HO546.out) gb556 (Nat.le_of_eq hg.symm)) hb);replace HO554:=aQ (Kd.N_below (Kd.N_elderB (nN HO554.out) gb556 (Nat.le_of_eq hg.symm)) hb);have BK556:=aQ (hbox);have GW556:=aQ ((by rw [hg];exact (below_size bB):w.heap.size ≤ gb556));have GE556:=aQ ((by rw [hg];exact (below_size bB):w.heap.size ≤ gb556));replace HB:=aQ (below_step bB hb);have NB519_556:=aQ ((by rw [hg];exact Nat.ne_of_lt (blk_lt (g:=gb519) (o:=.cells #[.int .i64 a0_0,.int .i64 a0_1,.slice (some ad541) l0_2.length c0_2] 29 (0,0)) (nB BK519.out)):gb519 ≠ gb556));have NB556_519:=aQ ((by rw [hg];exact Nat.ne_of_gt (blk_lt (g:=gb519) (o:=.cells #[.int .i64 a0_0,.int .i64 a0_1,.slice (some ad541) l0_2.length c0_2] 29 (0,0)) (nB BK519.out)):gb556 ≠ gb519));replace BK519:=aQ (blk_below (g:=gb519) (o:=.cells #[.int .i64 a0_0,.int .i64 a0_1,.slice (some ad541) l0_2.length c0_2] 29 (0,0)) (nB BK519.out) hb);have NB520_556:=aQ ((by rw [hg];exact Nat.ne_of_lt (blk_lt (g:=gb520) (o:=.cells #[.int .i64 0,.int .i64 0,.slice none 0 0] 29 (0,0)) (nB BK520.out)):gb520 ≠ gb556));have NB556_520:=aQ ((by rw [hg];exact Nat.ne_of_gt (blk_lt (g:=gb520) (o:=.cells #[.int .i64 0,.int .i64 0,.slice none 0 0] 29 (0,0)) (nB BK520.out)):gb556 ≠ gb520));replace BK520:=aQ (blk_below (g:=gb520) (o:=.cells #[.int .i64 0,.int .i64 0,.slice none 0 0] 29 (0,0)) (nB BK520.out) hb);have NB548_556:=aQ ((by rw [hg];exact Nat.ne_of_lt (blk_lt (g:=gb548) (o:=.cells #[.int .i64 t542,.int .i64 t543,.slice Ao162 t544.length co162] 29 (0,0)) (nB BK548.out)):gb548 ≠ gb556));have NB556_548:=aQ ((by rw [hg];exact Nat.ne_of_gt (blk_lt (g:=gb548) (o:=.cells #[.int .i64 t542,.int .i64 t543,.slice Ao162 t544.length co162] 29 (0,0)) (nB BK548.out)):gb556 ≠ gb548));replace BK548:=aQ (blk_below (g:=gb548) (o:=.cells #[.int .i64 t542,.int .i64 t543,.slice Ao162 t544.length co162] 29 (0,0)) (nB BK548.out) hb);clear hb hbox hg;have hnb166:=NB556_519.out;have hnc166:=NB519_556.out;have hnb167:=NB556_520.out;have hnc167:=NB520_556.out;have hnb168:=NB556_548.out;have hnc168:=NB548_556.out;have hcz169_0:w165.cell? ⟨gb556,0,none⟩ = some (.int .i64 0):=(blk_cell BK556.out 0).trans rfl;have hcz169_1:w165.cell? ⟨gb556,1,none⟩ = some (.int .i64 0):=(blk_cell BK556.out 1).trans rfl;have hcz169_2:w165.cell? ⟨gb556,2,none⟩ = some (.slice none 0 0):=(blk_cell BK556.out 2).trans rfl;have hfz169_0:=blk_frozen BK556.out 0;have hfz169_1:=blk_frozen BK556.out 1;have hfz169_2:=blk_frozen BK556.out 2;obtain ⟨Ao170,co170,eo170⟩:=Kd.N_slice HO554.out;subst eo170))
  have n0_:Aside0 (Kd.N k29 29 (((w165.setCell ⟨gb556,0,none⟩ (.int .i64 t550)).setCell ⟨gb556,1,none⟩ (.int .i64 t551)).setCell ⟨gb556,2,none⟩ (.slice Ao170 t552.length co170)) w.heap.size (fun k_=>(w.heap.size ≤ k_)∧some k_ ≠ (.slice Ao170 t552.length co170:Value).ownBlock∧k_ ≠ gb519∧k_ ≠ gb520∧k_ ≠ gb548∧k_ ≠ gb556) (.slice Ao162 t544.length co162) t544):=⟨Kd.N_mono (nFN (g:=gb556) HO546.out (fun k_ hk=>hk.2)) (fun _ hk=>⟨hk.1.1.1.1,⟨hk.1.2,⟨hk.1.1.1.2.1,⟨hk.1.1.1.2.2,⟨hk.1.1.2,hk.2⟩⟩⟩⟩⟩)⟩
  have n1_:Aside0 (Kd.N k29 29 (((w165.setCell ⟨gb556,0,none⟩ (.int .i64 t550)).setCell ⟨gb556,1,none⟩ (.int .i64 t551)).setCell ⟨gb556,2,none⟩ (.slice Ao170 t552.length co170)) w.heap.size (fun k_=>(w.heap.size ≤ k_)∧some k_ ≠ (.slice Ao162 t544.length co162:Value).ownBlock∧k_ ≠ gb519∧k_ ≠ gb520∧k_ ≠ gb548∧k_ ≠ gb556) (.slice Ao170 t552.length co170) t552):=⟨Kd.N_mono (nFN (g:=gb556) HO554.out (fun k_ hk=>hk.2)) (fun _ hk=>⟨hk.1.1,⟨hk.1.2.1,⟨hk.1.2.2.1,⟨hk.1.2.2.2.1,⟨hk.1.2.2.2.2,hk.2⟩⟩⟩⟩⟩)⟩
  have n2_:Aside0 ((((w165.setCell ⟨gb556,0,none⟩ (.int .i64 t550)).setCell ⟨gb556,1,none⟩ (.int .i64 t551)).setCell ⟨gb556,2,none⟩ (.slice Ao170 t552.length co170)).heap[gb519]? = some (.cells #[.int .i64 a0_0,.int .i64 a0_1,.slice (some ad541) l0_2.length c0_2] 29 (0,0))):=⟨bF⟩
  have n3_:Aside0 ((((w165.setCell ⟨gb556,0,none⟩ (.int .i64 t550)).setCell ⟨gb556,1,none⟩ (.int .i64 t551)).setCell ⟨gb556,2,none⟩ (.slice Ao170 t552.length co170)).heap[gb520]? = some (.cells #[.int .i64 0,.int .i64 0,.slice none 0 0] 29 (0,0))):=⟨bF⟩
  have n4_:Aside0 ((((w165.setCell ⟨gb556,0,none⟩ (.int .i64 t550)).setCell ⟨gb556,1,none⟩ (.int .i64 t551)).setCell ⟨gb556,2,none⟩ (.slice Ao170 t552.length co170)).heap[gb548]? = some (.cells #[.int .i64 t542,.int .i64 t543,.slice Ao162 t544.length co162] 29 (0,0))):=⟨bF⟩
  have n5_:Aside0 ((((w165.setCell ⟨gb556,0,none⟩ (.int .i64 t550)).setCell ⟨gb556,1,none⟩ (.int .i64 t551)).setCell ⟨gb556,2,none⟩ (.slice Ao170 t552.length co170)).heap[gb556]? = some (.cells #[.int .i64 t550,.int .i64 t551,.slice Ao170 t552.length co170] 29 (0,0))):=⟨bP⟩
  have n6_:Aside0 (Below w.heap.size w (((w165.setCell ⟨gb556,0,none⟩ (.int .i64 t550)).setCell ⟨gb556,1,none⟩ (.int .i64 t551)).setCell ⟨gb556,2,none⟩ (.slice Ao170 t552.length co170))):=⟨bB⟩
  (try clear HO546)
  (try clear HO554)
  (try clear BK519)
  (try clear BK520)
  (try clear BK548)
  (try clear BK556)
  (try clear HB)
  generalize (((w165.setCell ⟨gb556,0,none⟩ (.int .i64 t550)).setCell ⟨gb556,1,none⟩ (.int .i64 t551)).setCell ⟨gb556,2,none⟩ (.slice Ao170 t552.length co170)) = w171 at n0_ n1_ n2_ n3_ n4_ n5_ n6_ ⊢
  have HO546:=n0_
  have HO554:=n1_
  have BK519:=n2_
  have BK520:=n3_
  have BK548:=n4_
  have BK556:=n5_
  have HB:=n6_
  clear n0_ n1_ n2_ n3_ n4_ n5_ n6_
  replace HO546:=aQ (Kd.N_drew HO546.out)
  replace HO554:=aQ (Kd.N_drew HO554.out)
  replace BK519:=aQ (blk_drew BK519.out)
  replace BK520:=aQ (blk_drew BK520.out)
  replace BK548:=aQ (blk_drew BK548.out)
  replace BK556:=aQ (blk_drew BK556.out)
  replace HB:=aQ (below_drew1 HB.out)
  refine start_ (n:=22) (S:=fun w'=>True) (ds:=[]) #[false,false,false,false,false,false,false,false,false,false,false,false,false,false,false,false,false,false,false,false,false,false] (by kernel_rfl) rfl rfl trivial (fun hHeld=>?_);refine with_tabW spec_l17Pass.tab12 spec_l17Pass.bits12 (fun HT_ HW_=>?_)
  generalize w171.drew = w172 at HO546 HO554 BK519 BK520 BK548 BK556 HB hHeld ⊢
  refine pur (i:=0) (N:=some 58) #[true,false,false,false,false,false,false,false,false,false,false,false,false,false,false,false,false,false,false,false,false,false] ?_
  refine pur (i:=1) (N:=some 59) #[true,true,false,false,false,false,false,false,false,false,false,false,false,false,false,false,false,false,false,false,false,false] ?_
  refine pur (i:=2) (N:=some 60) #[true,true,true,false,false,false,false,false,false,false,false,false,false,false,false,false,false,false,false,false,false,false] ?_
  refine pure_ (i:=3) (N:=some 61) (v:=undef) (a':=?_) #[true,true,true,true,false,false,false,false,false,false,false,false,false,false,false,false,false,false,false,false,false,false] rfl rfl (any_of HT_.out (by kernel_rfl)) (fun _ _ _ h=>h) (Or.inr ⟨by rfl,rfl⟩) ?_ ?_
  rotate_left;·simp only [Act.put,List.setIfInBounds_toArray,List.set_cons_zero,List.set_cons_succ,i64_w,i32_w];rfl
  refine pure_ (i:=4) (N:=some 62) (v:=undef) (a':=?_) #[true,true,true,true,true,false,false,false,false,false,false,false,false,false,false,false,false,false,false,false,false,false] rfl rfl (any_of HT_.out (by kernel_rfl)) (fun _ _ _ h=>h) (Or.inr ⟨by rfl,rfl⟩) ?_ ?_
  rotate_left;·simp only [Act.put,List.setIfInBounds_toArray,List.set_cons_zero,List.set_cons_succ,i64_w,i32_w];rfl
  refine pur (i:=5) (N:=some 63) #[true,true,true,true,true,true,false,false,false,false,false,false,false,false,false,false,false,false,false,false,false,false] ?_
  refine pur (i:=6) (N:=some 64) #[true,true,true,true,true,true,true,false,false,false,false,false,false,false,false,false,false,false,false,false,false,false] ?_
  refine pure_ (i:=7) (N:=some 65) (v:=undef) (a':=?_) #[true,true,true,true,true,true,true,true,false,false,false,false,false,false,false,false,false,false,false,false,false,false] rfl rfl (any_of HT_.out (by kernel_rfl)) (fun _ _ _ h=>h) (Or.inr ⟨by rfl,rfl⟩) ?_ ?_
  rotate_left;·simp only [Act.put,List.setIfInBounds_toArray,List.set_cons_zero,List.set_cons_succ,i64_w,i32_w];rfl
  refine pure_ (i:=8) (N:=some 66) (v:=undef) (a':=?_) #[true,true,true,true,true,true,true,true,true,false,false,false,false,false,false,false,false,false,false,false,false,false] rfl rfl (any_of HT_.out (by kernel_rfl)) (fun _ _ _ h=>h) (Or.inr ⟨by rfl,rfl⟩) ?_ ?_
  rotate_left;·simp only [Act.put,List.setIfInBounds_toArray,List.set_cons_zero,List.set_cons_succ,i64_w,i32_w];rfl
  refine pure_ (i:=9) (N:=some 67) (v:=undef) (a':=?_) #[true,true,true,true,true,true,true,true,true,true,false,false,false,false,false,false,false,false,false,false,false,false] rfl rfl (any_of HT_.out (by kernel_rfl)) (fun _ _ _ h=>h) (Or.inr ⟨by rfl,rfl⟩) ?_ ?_
  rotate_left;·simp only [Act.put,List.setIfInBounds_toArray,List.set_cons_zero,List.set_cons_succ,i64_w,i32_w];rfl
  refine pure_ (i:=10) (N:=some 68) (v:=undef) (a':=?_) #[true,true,true,true,true,true,true,true,true,true,true,false,false,false,false,false,false,false,false,false,false,false] rfl rfl (any_of HT_.out (by kernel_rfl)) (fun _ _ _ h=>h) (Or.inr ⟨by rfl,rfl⟩) ?_ ?_
  rotate_left;·simp only [Act.put,List.setIfInBounds_toArray,List.set_cons_zero,List.set_cons_succ,i64_w,i32_w];rfl
  refine pure_ (i:=11) (N:=some 69) (v:=undef) (a':=?_) #[true,true,true,true,true,true,true,true,true,true,true,true,false,false,false,false,false,false,false,false,false,false] rfl rfl (any_of HT_.out (by kernel_rfl)) (fun _ _ _ h=>h) (Or.inr ⟨by rfl,rfl⟩) ?_ ?_
  rotate_left;·simp only [Act.put,List.setIfInBounds_toArray,List.set_cons_zero,List.set_cons_succ,i64_w,i32_w];rfl
  refine pure_ (i:=12) (N:=some 70) (v:=undef) (a':=?_) #[true,true,true,true,true,true,true,true,true,true,true,true,true,false,false,false,false,false,false,false,false,false] rfl rfl (any_of HT_.out (by kernel_rfl)) (fun _ _ _ h=>h) (Or.inr ⟨by rfl,rfl⟩) ?_ ?_
  rotate_left;·simp only [Act.put,List.setIfInBounds_toArray,List.set_cons_zero,List.set_cons_succ,i64_w,i32_w];rfl
  refine pure_ (i:=13) (N:=some 71) (v:=undef) (a':=?_) #[true,true,true,true,true,true,true,true,true,true,true,true,true,true,false,false,false,false,false,false,false,false] rfl rfl (any_of HT_.out (by kernel_rfl)) (fun _ _ _ h=>h) (Or.inr ⟨by rfl,rfl⟩) ?_ ?_
  rotate_left;·simp only [Act.put,List.setIfInBounds_toArray,List.set_cons_zero,List.set_cons_succ,i64_w,i32_w];rfl
  refine pure_ (i:=14) (N:=some 72) (v:=undef) (a':=?_) #[true,true,true,true,true,true,true,true,true,true,true,true,true,true,true,false,false,false,false,false,false,false] rfl rfl (any_of HT_.out (by kernel_rfl)) (fun _ _ _ h=>h) (Or.inr ⟨by rfl,rfl⟩) ?_ ?_
  rotate_left;·simp only [Act.put,List.setIfInBounds_toArray,List.set_cons_zero,List.set_cons_succ,i64_w,i32_w];rfl
  refine pure_ (i:=15) (N:=some 73) (v:=undef) (a':=?_) #[true,true,true,true,true,true,true,true,true,true,true,true,true,true,true,true,false,false,false,false,false,false] rfl rfl (any_of HT_.out (by kernel_rfl)) (fun _ _ _ h=>h) (Or.inr ⟨by rfl,rfl⟩) ?_ ?_
  rotate_left;·simp only [Act.put,List.setIfInBounds_toArray,List.set_cons_zero,List.set_cons_succ,i64_w,i32_w];rfl
  refine pure_ (i:=16) (N:=some 74) (v:=undef) (a':=?_) #[true,true,true,true,true,true,true,true,true,true,true,true,true,true,true,true,true,false,false,false,false,false] rfl rfl (any_of HT_.out (by kernel_rfl)) (fun _ _ _ h=>h) (Or.inr ⟨by rfl,rfl⟩) ?_ ?_
  rotate_left;·simp only [Act.put,List.setIfInBounds_toArray,List.set_cons_zero,List.set_cons_succ,i64_w,i32_w];rfl
  refine pure_ (i:=17) (N:=some 75) (v:=undef) (a':=?_) #[true,true,true,true,true,true,true,true,true,true,true,true,true,true,true,true,true,true,false,false,false,false] rfl rfl (any_of HT_.out (by kernel_rfl)) (fun _ _ _ h=>h) (Or.inr ⟨by rfl,rfl⟩) ?_ ?_
  rotate_left;·simp only [Act.put,List.setIfInBounds_toArray,List.set_cons_zero,List.set_cons_succ,i64_w,i32_w];rfl
  refine pure_ (i:=18) (N:=some 76) (v:=undef) (a':=?_) #[true,true,true,true,true,true,true,true,true,true,true,true,true,true,true,true,true,true,true,false,false,false] rfl rfl (any_of HT_.out (by kernel_rfl)) (fun _ _ _ h=>h) (Or.inr ⟨by rfl,rfl⟩) ?_ ?_
  rotate_left;·simp only [Act.put,List.setIfInBounds_toArray,List.set_cons_zero,List.set_cons_succ,i64_w,i32_w];rfl
  refine pure_ (i:=19) (N:=some 77) (v:=undef) (a':=?_) #[true,true,true,true,true,true,true,true,true,true,true,true,true,true,true,true,true,true,true,true,false,false] rfl rfl (any_of HT_.out (by kernel_rfl)) (fun _ _ _ h=>h) (Or.inr ⟨by rfl,rfl⟩) ?_ ?_
  rotate_left;·simp only [Act.put,List.setIfInBounds_toArray,List.set_cons_zero,List.set_cons_succ,i64_w,i32_w];rfl
  refine pure_ (i:=20) (N:=some 78) (v:=undef) (a':=?_) #[true,true,true,true,true,true,true,true,true,true,true,true,true,true,true,true,true,true,true,true,true,false] rfl rfl (any_of HT_.out (by kernel_rfl)) (fun _ _ _ h=>h) (Or.inr ⟨by rfl,rfl⟩) ?_ ?_
  rotate_left;·simp only [Act.put,List.setIfInBounds_toArray,List.set_cons_zero,List.set_cons_succ,i64_w,i32_w];rfl
  refine pur (i:=21) (N:=some 79) #[true,true,true,true,true,true,true,true,true,true,true,true,true,true,true,true,true,true,true,true,true,true] ?_
  refine done_ (done_of HT_.out (by kernel_rfl)) ?_
  have hcz173_0:w172.cell? ⟨gb520,0,none⟩ = some (.int .i64 0):=(blk_cell BK520.out 0).trans rfl
  have hcz173_1:w172.cell? ⟨gb520,1,none⟩ = some (.int .i64 0):=(blk_cell BK520.out 1).trans rfl
  have hcz173_2:w172.cell? ⟨gb520,2,none⟩ = some (.slice none 0 0):=(blk_cell BK520.out 2).trans rfl
  have hfz173_0:=blk_frozen BK520.out 0
  have hfz173_1:=blk_frozen BK520.out 1
  have hfz173_2:=blk_frozen BK520.out 2
  try go_wp2
  refine bodyPost_ret (results_ct rfl _ _ gb520 29 #[.int .i64 0,.int .i64 0,.slice none 0 0] (0,0) _ rfl bP Try.underlying29 rfl (by kernel_rfl)) rfl ?_
  exact ⟨_,rfl,by first | exact Kd.R_nil _ _ _ _ _ | exact Kd.N_nil _ _ _ _ _ | exact Kd.V_nil _ _ _ _ _ | exact Kd.Q_nil _ _ _ _ _ | exact Kd.S_nil _ _ _ _ _,bB⟩
def laws_toClock.body (g:List (S24) → Option ((List (S29)))) (a0_0:Int) (a0_1:Int) (l0_2:List (S24)):Option (Int × Int × (List (S29))):=(g l0_2).bind fun t147=>(some (a0_0,a0_1,t147))
theorem laws_toClock.body_mono {g g':List (S24) → Option ((List (S29)))} (hg:∀ y0,LeO (g y0) (g' y0)):∀ a0_0 a0_1 l0_2,LeO (laws_toClock.body g a0_0 a0_1 l0_2) (laws_toClock.body g' a0_0 a0_1 l0_2):=by
 intro a0_0 a0_1 l0_2
 unfold laws_toClock.body
 repeat' first
   | (with_reducible exact hg _)
   | (with_reducible exact LeO.refl _)
   | (with_reducible exact LeO.none _)
   | (with_reducible refine LeO.ite ?_ ?_)
   | (with_reducible refine LeO.bind ?_ (fun _=>?_))
   | exact hg _
   | exact LeO.none _
   | refine LeO.ite ?_ ?_
   | refine LeO.bind ?_ (fun _=>?_)
mutual
def laws_toClockS.l0:Nat → List (S24) → List (S29) → Int → Option ((List (S29)))
 | 0,_,_,_=>none
 | k + 1,x0,x3,x4=>if x4 < (x0.length:Int) then (if 0 ≤ x4 then ((laws_toClock.body (fun y0=>laws_toClockS.f k y0) ((rd_T24 x0 x4).f0) ((rd_T24 x0 x4).f1) ((rd_T24 x0 x4).f2)).bind fun bt138=>(if x4 < (x3.length:Int) then (laws_toClockS.l0 k x0 (x3.set (x4:Int).toNat (⟨bt138.1,bt138.2.1,bt138.2.2⟩:S29)) (wrap64 (x4 + 1))) else (none))) else (none)) else (some x3)
def laws_toClockS.f:Nat → List (S24) → Option ((List (S29)))
 | 0,_=>none
 | k + 1,l0=>if 0 ≤ (l0.length:Int) then (if ((l0.length:Int):Int).toNat ≤ 7036874417766 then (laws_toClockS.l0 k l0 (List.replicate ((l0.length:Int):Int).toNat z29) 0) else (none)) else (none)
end
abbrev laws_toClock.f (k:Nat) (a0_0:Int) (a0_1:Int) (l0_2:List (S24)):Option (Int × Int × (List (S29))):=laws_toClock.body (fun y0=>laws_toClockS.f k y0) a0_0 a0_1 l0_2
theorem laws_toClockS.mono_l:∀ k,(∀ y0,LeO (laws_toClockS.f k y0) (laws_toClockS.f (k + 1) y0))∧(∀ y0 y1 y2,LeO (laws_toClockS.l0 k y0 y1 y2) (laws_toClockS.l0 (k + 1) y0 y1 y2))
 | 0=>⟨fun _ r h=>by simp [laws_toClockS.f] at h,fun _ _ _ r h=>by simp [laws_toClockS.l0] at h⟩
 | k + 1=>by
  obtain ⟨ih0,ih1⟩:=laws_toClockS.mono_l k
  refine ⟨?_,?_⟩
  ·intro y0
   unfold laws_toClockS.f
   repeat' first
   | (with_reducible exact ih0 _)
   | (with_reducible exact ih1 _ _ _)
   | (with_reducible exact laws_toClock.body_mono (fun y0=>ih0 y0) _ _ _)
   | (with_reducible exact LeO.refl _)
   | (with_reducible exact LeO.none _)
   | (with_reducible refine LeO.ite ?_ ?_)
   | (with_reducible refine LeO.bind ?_ (fun _=>?_))
   | exact ih0 _
   | exact ih1 _ _ _
   | exact LeO.none _
   | refine LeO.ite ?_ ?_
   | refine LeO.bind ?_ (fun _=>?_)
  ·intro y0 y1 y2
   unfold laws_toClockS.l0
   repeat' first
   | (with_reducible exact ih0 _)
   | (with_reducible exact ih1 _ _ _)
   | (with_reducible exact laws_toClock.body_mono (fun y0=>ih0 y0) _ _ _)
   | (with_reducible exact LeO.refl _)
   | (with_reducible exact LeO.none _)
   | (with_reducible refine LeO.ite ?_ ?_)
   | (with_reducible refine LeO.bind ?_ (fun _=>?_))
   | exact ih0 _
   | exact ih1 _ _ _
   | exact LeO.none _
   | refine LeO.ite ?_ ?_
   | refine LeO.bind ?_ (fun _=>?_)
theorem laws_toClockS.mono:∀ a0 k,LeO (laws_toClockS.f k a0) (laws_toClockS.f (k + 1) a0):=by
 intro a0 k
 obtain ⟨ih0,ih1⟩:=laws_toClockS.mono_l k
 exact ih0 a0
theorem laws_toClock.mono:∀ a0_0 a0_1 l0_2 k,LeO (laws_toClock.f k a0_0 a0_1 l0_2) (laws_toClock.f (k + 1) a0_0 a0_1 l0_2):=fun a0_0 a0_1 l0_2 k=>laws_toClock.body_mono (fun y0=>laws_toClockS.mono y0 k) a0_0 a0_1 l0_2
abbrev laws_toClockS.Con (k:Nat):Prop:=∀ (A0:Option Addr) (c0:Nat) (l0:List (S24)) (r:List (S29)) (w:World) (hr0:Kd.C k24 w A0 l0.length l0) (hc0:l0.length ≤ c0) (h:laws_toClockS.f k l0 = some r),
  Calls Try.prog 41 #[.slice A0 l0.length c0] w fun e w'=>∃ v0_:Value,e = .returned (v0_)∧Kd.R k29 29 w' w.heap.size (fun _=>True) v0_ r∧Below w.heap.size w w'
set_option maxHeartbeats 8000000 in
set_option maxRecDepth 100000 in
theorem laws_toClock.calls_of (k:Nat) (ihS:∀ j_,j_ ≤ k → laws_toClockS.Con j_) (a0_0:Int) (a0_1:Int) (A0_2:Option Addr) (c0_2:Nat) (l0_2:List (S24)) (r1:Int) (r2:Int) (r3:List (S29)) (w:World) (hr0_2:Kd.C k24 w A0_2 l0_2.length l0_2) (hc0_2:l0_2.length ≤ c0_2) (h:laws_toClock.f k a0_0 a0_1 l0_2 = some (r1,r2,r3)) :
  Calls Try.prog 15 #[.agg #[.int .i64 a0_0,.int .i64 a0_1,.slice A0_2 l0_2.length c0_2]] w fun e w'=>∃ v2_:Value,e = .returned (.agg #[.int .i64 r1,.int .i64 r2,v2_])∧Kd.R k29 29 w' w.heap.size (fun _=>True) v2_ r3∧Below w.heap.size w w':=by
 have hu24:=Try.underlying24
 have hu29:=Try.underlying29
 have HR0_2:=aQ hr0_2
 have HC0_2:=aQ hc0_2
 clear hr0_2 hc0_2
 have HB:=aQ (Below.refl w.heap.size w)
 have H:=h
 clear h
 obtain ⟨t147,A2,H⟩:=bQ H
 (try dsimp only at H)
 simp only [Option.some.injEq,Prod.mk.injEq] at H
 obtain ⟨rfl,rfl,rfl⟩:=H
 go_enter Try.func15,Try.ntmps15
 go_wp2_with (first | ((with_reducible refine gate_dst (N:=1) rfl ?_);refine box1 (N:=1) (cs:=#[.int .i64 a0_0,.int .i64 a0_1,.slice A0_2 l0_2.length c0_2]) (t:=24) ?_;intro gb144 hg w3 hbox hb;have BK144:=aQ (hbox);have GW144:=aQ ((by rw [hg];exact (below_size bB):w.heap.size ≤ gb144));have GE144:=aQ ((by rw [hg];exact (below_size bB):w.heap.size ≤ gb144));replace HB:=aQ (below_step bB hb);clear hb hbox hg) | ((with_reducible refine gate_dst (N:=2) rfl ?_);refine box1 (N:=2) (cs:=#[.int .i64 0,.int .i64 0,.slice none 0 0]) (t:=29) ?_;intro gb145 hg w4 hbox hb;have BK145:=aQ (hbox);have GW145:=aQ ((by rw [hg];exact (below_size bB):w.heap.size ≤ gb145));have GE145:=aQ ((by rw [hg];exact (below_size bB):w.heap.size ≤ gb145));replace HB:=aQ (below_step bB hb);have NB144_145:=aQ ((by rw [hg];exact Nat.ne_of_lt (blk_lt (g:=gb144) (o:=.cells #[.int .i64 a0_0,.int .i64 a0_1,.slice A0_2 l0_2.length c0_2] 24 (0,0)) (nB BK144.out)):gb144 ≠ gb145));have NB145_144:=aQ ((by rw [hg];exact Nat.ne_of_gt (blk_lt (g:=gb144) (o:=.cells #[.int .i64 a0_0,.int .i64 a0_1,.slice A0_2 l0_2.length c0_2] 24 (0,0)) (nB BK144.out)):gb145 ≠ gb144));replace BK144:=aQ (blk_below (g:=gb144) (o:=.cells #[.int .i64 a0_0,.int .i64 a0_1,.slice A0_2 l0_2.length c0_2] 24 (0,0)) (nB BK144.out) hb);clear hb hbox hg) | ((with_reducible refine gate_dst (N:=3) rfl ?_);refine box1 (N:=3) (cs:=#[.int .i64 0,.int .i64 0,.slice none 0 0]) (t:=29) ?_;intro gb146 hg w5 hbox hb;have BK146:=aQ (hbox);have GW146:=aQ ((by rw [hg];exact (below_size bB):w.heap.size ≤ gb146));have GE146:=aQ ((by rw [hg];exact (below_size bB):w.heap.size ≤ gb146));replace HB:=aQ (below_step bB hb);have NB144_146:=aQ ((by rw [hg];exact Nat.ne_of_lt (blk_lt (g:=gb144) (o:=.cells #[.int .i64 a0_0,.int .i64 a0_1,.slice A0_2 l0_2.length c0_2] 24 (0,0)) (nB BK144.out)):gb144 ≠ gb146));have NB146_144:=aQ ((by rw [hg];exact Nat.ne_of_gt (blk_lt (g:=gb144) (o:=.cells #[.int .i64 a0_0,.int .i64 a0_1,.slice A0_2 l0_2.length c0_2] 24 (0,0)) (nB BK144.out)):gb146 ≠ gb144));replace BK144:=aQ (blk_below (g:=gb144) (o:=.cells #[.int .i64 a0_0,.int .i64 a0_1,.slice A0_2 l0_2.length c0_2] 24 (0,0)) (nB BK144.out) hb);have NB145_146:=aQ ((by rw [hg];exact Nat.ne_of_lt (blk_lt (g:=gb145) (o:=.cells #[.int .i64 0,.int .i64 0,.slice none 0 0] 29 (0,0)) (nB BK145.out)):gb145 ≠ gb146));have NB146_145:=aQ ((by rw [hg];exact Nat.ne_of_gt (blk_lt (g:=gb145) (o:=.cells #[.int .i64 0,.int .i64 0,.slice none 0 0] 29 (0,0)) (nB BK145.out)):gb146 ≠ gb145));replace BK145:=aQ (blk_below (g:=gb145) (o:=.cells #[.int .i64 0,.int .i64 0,.slice none 0 0] 29 (0,0)) (nB BK145.out) hb);clear hb hbox hg;have hnb6:=NB144_145.out;have hnc6:=NB145_144.out;have hnb7:=NB144_146.out;have hnc7:=NB146_144.out;have hcz8_0:w5.cell? ⟨gb144,0,none⟩ = some (.int .i64 a0_0):=(blk_cell BK144.out 0).trans rfl;have hcz8_1:w5.cell? ⟨gb144,1,none⟩ = some (.int .i64 a0_1):=(blk_cell BK144.out 1).trans rfl;have hcz8_2:w5.cell? ⟨gb144,2,none⟩ = some (.slice A0_2 l0_2.length c0_2):=(blk_cell BK144.out 2).trans rfl;have hfz8_0:=blk_frozen BK144.out 0;have hfz8_1:=blk_frozen BK144.out 1;have hfz8_2:=blk_frozen BK144.out 2;have hnb9:=NB146_145.out;have hnc9:=NB145_146.out;have hcz10_0:w5.cell? ⟨gb146,0,none⟩ = some (.int .i64 0):=(blk_cell BK146.out 0).trans rfl;have hcz10_1:w5.cell? ⟨gb146,1,none⟩ = some (.int .i64 0):=(blk_cell BK146.out 1).trans rfl;have hcz10_2:w5.cell? ⟨gb146,2,none⟩ = some (.slice none 0 0):=(blk_cell BK146.out 2).trans rfl;have hfz10_0:=blk_frozen BK146.out 0;have hfz10_1:=blk_frozen BK146.out 1;have hfz10_2:=blk_frozen BK146.out 2) | ((with_reducible refine gate_callee (f:=41) rfl ?_);refine goesL_ (some 12) rfl rfl Try.func41 (by kernel_rfl) rfl #[.slice A0_2 l0_2.length c0_2] rfl mP ?_;(with_reducible refine (ihS k (Nat.le_refl _) _ _ l0_2 t147 _ ?side1 ?side2 A2.out).mono ?_);(case side1=>exact Kd.C_below HR0_2.out bB);(case side2=>exact HC0_2.out);rintro e w11 ⟨v148,rfl,ho0,hb⟩;refine ⟨_,rfl,?_⟩;have HO149:=aQ (Kd.R_lower (Kd.R_newB (Kd.R_newB ho0 (g:=gb145) (o:=.cells #[.int .i64 0,.int .i64 0,.slice none 0 0] 29 (0,0)) bF) (g:=gb146) (o:=.cells #[.int .i64 a0_0,.int .i64 a0_1,.slice none 0 0] 29 (0,0)) bP) (below_size bB));replace BK144:=aQ (blk_below (g:=gb144) (o:=.cells #[.int .i64 a0_0,.int .i64 a0_1,.slice A0_2 l0_2.length c0_2] 24 (0,0)) bF hb);replace BK145:=aQ (blk_below (g:=gb145) (o:=.cells #[.int .i64 0,.int .i64 0,.slice none 0 0] 29 (0,0)) bF hb);replace BK146:=aQ (blk_below (g:=gb146) (o:=.cells #[.int .i64 a0_0,.int .i64 a0_1,.slice none 0 0] 29 (0,0)) bP hb);replace HB:=aQ (below_step bB hb);(try clear hb);(try clear ho0);obtain ⟨Ao12,co12,eo12⟩:=Kd.R_slice HO149.out;subst eo12;have hcz13_0:w11.cell? ⟨gb146,0,none⟩ = some (.int .i64 a0_0):=(blk_cell BK146.out 0).trans rfl;have hcz13_1:w11.cell? ⟨gb146,1,none⟩ = some (.int .i64 a0_1):=(blk_cell BK146.out 1).trans rfl;have hcz13_2:w11.cell? ⟨gb146,2,none⟩ = some (.slice none 0 0):=(blk_cell BK146.out 2).trans rfl;have hfz13_0:=blk_frozen BK146.out 0;have hfz13_1:=blk_frozen BK146.out 1;have hfz13_2:=blk_frozen BK146.out 2;have hcz14_0:w11.cell? ⟨gb145,0,none⟩ = some (.int .i64 0):=(blk_cell BK145.out 0).trans rfl;have hcz14_1:w11.cell? ⟨gb145,1,none⟩ = some (.int .i64 0):=(blk_cell BK145.out 1).trans rfl;have hcz14_2:w11.cell? ⟨gb145,2,none⟩ = some (.slice none 0 0):=(blk_cell BK145.out 2).trans rfl;have hfz14_0:=blk_frozen BK145.out 0;have hfz14_1:=blk_frozen BK145.out 1;have hfz14_2:=blk_frozen BK145.out 2))
 refine bodyPost_ret (results_cell_row rfl _ _ gb145 29 #[.int .i64 a0_0,.int .i64 a0_1,.slice Ao12 t147.length co12] (0,0) _ rfl (by (with_reducible repeat (first | refine blk_drewN ?_ _ | refine blk_drew ?_ | refine blk_alloc ?_ _));refine blk_put (cs:=#[.int .i64 a0_0,.int .i64 a0_1,.slice none 0 0]) ?_ 2 _ rfl;(with_reducible repeat (first | refine blk_drewN ?_ _ | refine blk_drew ?_ | refine blk_alloc ?_ _));refine blk_put (cs:=#[.int .i64 a0_0,.int .i64 0,.slice none 0 0]) ?_ 1 _ rfl;(with_reducible repeat (first | refine blk_drewN ?_ _ | refine blk_drew ?_ | refine blk_alloc ?_ _));refine blk_put (cs:=#[.int .i64 0,.int .i64 0,.slice none 0 0]) ?_ 0 _ rfl;(with_reducible repeat (first | refine blk_drewN ?_ _ | refine blk_drew ?_ | refine blk_alloc ?_ _));refine blk_far ?_ NB145_146.out _;(with_reducible repeat (first | refine blk_drewN ?_ _ | refine blk_drew ?_ | refine blk_alloc ?_ _));exact BK145.out) Try.underlying29 rfl (by kernel_rfl)) rfl ?_
 exact ⟨_,rfl,by (with_reducible repeat (first | apply Kd.R_alloc | apply Kd.R_drewN | apply Kd.R_drew));exact Kd.R_mono (Kd.R_far (p:=⟨gb145,2,none⟩) (Kd.R_far (p:=⟨gb145,1,none⟩) (Kd.R_far (p:=⟨gb145,0,none⟩) (Kd.R_far (p:=⟨gb146,2,none⟩) (Kd.R_mono (Kd.R_mono HO149.out (fun k_ hk=>(⟨hk,hk.2⟩:_∧k_ ≠ gb146))) (fun k_ hk=>(⟨hk,hk.1.1.2⟩:_∧k_ ≠ gb145))) (fun _ hk=>hk.1.2) (.slice Ao12 t147.length co12)) (fun _ hk=>hk.2) (.int .i64 a0_0)) (fun _ hk=>hk.2) (.int .i64 a0_1)) (fun _ hk=>hk.2) (.slice Ao12 t147.length co12)) (fun _ hk=>trivial),bB⟩
set_option maxHeartbeats 8000000 in
set_option maxRecDepth 100000 in
theorem laws_toClockS.calls (k:Nat):∀ (A0:Option Addr) (c0:Nat) (l0:List (S24)) (r:List (S29)) (w:World) (hr0:Kd.C k24 w A0 l0.length l0) (hc0:l0.length ≤ c0) (h:laws_toClockS.f k l0 = some r),
  Calls Try.prog 41 #[.slice A0 l0.length c0] w fun e w'=>∃ v0_:Value,e = .returned (v0_)∧Kd.R k29 29 w' w.heap.size (fun _=>True) v0_ r∧Below w.heap.size w w':=by
 induction k using Nat.strongRecOn with
 | _ k ih =>
 intro A0 c0 l0 r w hr0 hc0 h
 cases k with
 | zero=>exact absurd h (by simp [laws_toClockS.f])
 | succ k =>
 simp only [laws_toClockS.f] at h
 have hu24:=Try.underlying24
 have hu29:=Try.underlying29
 have HR0:=aQ hr0
 have HC0:=aQ hc0
 clear hr0 hc0
 have HB:=aQ (Below.refl w.heap.size w)
 have H:=h
 clear h
 by_cases c2:0 ≤ (l0.length:Int);rotate_left
 ·rw [if_neg c2] at H
  exact absurd H (by simp)
 rw [if_pos c2] at H
 have c2b0:=eq_true c2
 have c2b1:decide (0 ≤ (l0.length:Int)) = true:=decide_eq_true c2
 clear c2
 by_cases c3:((l0.length:Int):Int).toNat ≤ 7036874417766;rotate_left
 ·rw [if_neg c3] at H
  exact absurd H (by simp)
 rw [if_pos c3] at H
 have c3b0:=eq_true c3
 have c3b1:decide (((l0.length:Int):Int).toNat ≤ 7036874417766) = true:=decide_eq_true c3
 clear c3
 obtain ⟨y134,hy134⟩:∃ y_:List (S29),y_ = (List.replicate ((l0.length:Int):Int).toNat z29):=⟨_,rfl⟩
 replace H:(laws_toClockS.l0 k l0 y134 0) = some r:=by rw [hy134];exact H
 have Ny134:=aQ hy134
 clear hy134
 have H':=aQ H
 clear H
 go_enter Try.func41,Try.ntmps41
 go_wp2_with (first | ((with_reducible refine gate_dst (N:=7) rfl ?_);refine Kd.R_make k29 _ 29 rfl (N:=7) rfl 27 _ _ rfl (l0.length:Int) rfl rfl Try.underlying27 (.agg #[(.int .i64 0),(.int .i64 0),(.slice none 0 0)]) 40 info29 rfl (by decide) (by omega) z29 (ok:=fun _=>True) (okp:=fun _=>True) (k29_mkM _ _ _ z29 (Kd.R_nil _ _ _ _ _)) (fun _ hk=>hk) trivial (of_decide_eq_true (by first | (with_reducible assumption) | assumption)) (Nat.le_trans (Nat.mul_le_mul_right _ (of_decide_eq_true (by first | (with_reducible assumption) | assumption):(l0.length:Int).toNat ≤ 7036874417766)) (by omega)) (Below.refl _ _) (Nat.le_refl _) ?_;intro v135 w4 ho5 hb hg_ hnew_;clear hg_ hnew_;(first | rw [← Ny134.out] at ho5 | (simp only [Int.reduceToNat] at ho5;rw [← Ny134.out] at ho5));have HO136:=aQ (Kd.R_lower ho5 (below_size bB));replace HB:=aQ (below_step bB hb);clear hb ho5))
 go_loopg [4] k (fun kq v4 w'=>∃ (x3_1:List (S29)) (x4_1:Int),v4 = .int .i64 x4_1∧Aside0 (laws_toClockS.l0 kq l0 x3_1 x4_1 = some r)∧Aside0 (kq ≤ k)∧Aside0 (Kd.R k29 29 w' w.heap.size (fun _=>True) v135 x3_1)∧Aside0 (Below w.heap.size w w'))
 case atStart=>exact ⟨(y134),(0),rfl,H',⟨Nat.le_refl _⟩,⟨nR HO136.out⟩,⟨bB⟩⟩
 case round =>
  clear H'
  try clear c2b0
  try clear c2b1
  try clear c3b0
  try clear c3b1
  repeat (first | clear HO_3 | clear HB)
  obtain ⟨x3_1,x4_1,rfl,HA,HK1,HO_3,HB⟩:=hrel
  cases gk with
  | zero=>exact absurd HA.out (by simp [laws_toClockS.l0])
  | succ k1 =>
   have H:=HA.out
   clear HA
   simp only [laws_toClockS.l0] at H
   by_cases c6:x4_1 < (l0.length:Int);rotate_left
   ·rw [if_neg c6] at H
    have c6b0:decide (x4_1 < (l0.length:Int)) = false:=decide_eq_false c6
    clear c6
    obtain rfl:=Option.some.inj H
    go_wp2
    go_ret
    exact ⟨_,rfl,by (with_reducible repeat (first | apply Kd.R_alloc | apply Kd.R_drewN | apply Kd.R_drew));exact HO_3.out,bB⟩
   rw [if_pos c6] at H
   have c6b0:decide (x4_1 < (l0.length:Int)) = true:=decide_eq_true c6
   clear c6
   by_cases c7:0 ≤ x4_1;rotate_left
   ·rw [if_neg c7] at H
    exact absurd H (by simp)
   rw [if_pos c7] at H
   have c7b0:decide (0 ≤ x4_1) = true:=decide_eq_true c7
   clear c7
   obtain ⟨⟨t138,t139,t140⟩,A8,H⟩:=bQ H
   dsimp only at H
   by_cases c9:x4_1 < (x3_1.length:Int);rotate_left
   ·rw [if_neg c9] at H
    exact absurd H (by simp)
   rw [if_pos c9] at H
   have c9b0:decide (x4_1 < (x3_1.length:Int)) = true:=decide_eq_true c9
   clear c9
   obtain ⟨y143,hy143⟩:∃ y_:List (S29),y_ = (x3_1.set (x4_1:Int).toNat (⟨t138,t139,t140⟩:S29)):=⟨_,rfl⟩
   replace H:(laws_toClockS.l0 k1 l0 y143 (wrap64 (x4_1 + 1))) = some r:=by rw [hy143];exact H
   have Ny143:=aQ hy143
   clear hy143
   have H':=aQ H
   clear H
   have p137:0 ≤ (x4_1:Int):=of_decide_eq_true (by first | (with_reducible assumption) | assumption)
   have q137:x4_1 < (l0.length:Int):=of_decide_eq_true (by first | (with_reducible assumption) | assumption)
   obtain ⟨ad137,A137_2,c137_2,e137,hx137_0,hx137_1,hx137_2,hl137_2,hi137_2⟩:=at_T24 HR0.out x4_1 p137 q137
   cases e137
   replace hx137_0:=(HB.out.cell (World.block_lt_of_cell? w _ hx137_0)).trans hx137_0
   replace hx137_1:=(HB.out.cell (World.block_lt_of_cell? w _ hx137_1)).trans hx137_1
   replace hx137_2:=(HB.out.cell (World.block_lt_of_cell? w _ hx137_2)).trans hx137_2
   have HR137_2:=aQ hi137_2
   have HC137_2:=aQ hl137_2
   clear hi137_2 hl137_2
   replace p137:=eq_true p137
   replace q137:=eq_true q137
   go_wp2_with (first | ((with_reducible refine gate_callee (f:=15) rfl ?_);refine goesL_ (some 20) rfl rfl Try.func15 (by kernel_rfl) rfl #[.agg #[.int .i64 ((rd_T24 l0 x4_1).f0),.int .i64 ((rd_T24 l0 x4_1).f1),.slice A137_2 ((rd_T24 l0 x4_1).f2).length c137_2]] rfl mP ?_;(with_reducible refine (laws_toClock.calls_of k1 (fun j_ hj_=>ih j_ (by first | omega | (have:=HK1.out;omega) | (have:=HK1.out;have:=HK2.out;omega))) ((rd_T24 l0 x4_1).f0) ((rd_T24 l0 x4_1).f1) _ _ ((rd_T24 l0 x4_1).f2) t138 t139 t140 _ ?side1 ?side2 A8.out).mono ?_);(case side1=>repeat (first | exact (Kd.C_below HR137_2.out HB.out) | (with_reducible refine Kd.C_alloc ?_ _) | (with_reducible refine Kd.C_drewN ?_ _) | (with_reducible refine Kd.C_drew ?_)));(case side2=>exact HC137_2.out);rintro e w11 ⟨v141,rfl,ho0,hb⟩;refine ⟨_,rfl,?_⟩;have HO142:=aQ (Kd.R_lower (Kd.R_new' ho0 (Kd.R_lt (nR HO_3.out))) (below_size bB));replace HO_3:=aQ (Kd.R_elder' (nR HO_3.out) (Kd.R_base ho0) hb);replace HB:=aQ (below_step bB hb);(try clear hb);(try clear ho0);have p10:0 ≤ (x4_1:Int):=of_decide_eq_true (by first | (with_reducible assumption) | assumption);have q10:(x4_1:Int) < ((x3_1.length:Int):Int):=of_decide_eq_true (by first | (with_reducible assumption) | assumption);obtain ⟨go10,co10,eo10,gb10,gl10,cl10,HG10⟩:=Kd.R_form HO_3.out (by omega);(first | cases eo10 | (injection eo10 with ea_ en_ ec_;(first | subst ea_ | (injection ea_ with ea_;subst ea_));subst ec_;clear en_));have GB10:=aQ gb10;have GG10:=aQ HG10;clear gb10 gl10 HG10;obtain ⟨ce10,hcl10,hM10,hcc10,hfr10⟩:=Kd.R_elem HO_3.out z29 (x4_1:Int) p10 q10;obtain ⟨ve10_2,rfl,ge10_2⟩:=k29_openM hM10;have hx10_0:w11.cell? ⟨go10,(x4_1:Int).toNat * 3,none⟩ = some (.int .i64 ((rd_T29 x3_1 x4_1).f0)):=hcc10 0 _ rfl;have hx10_1:w11.cell? ⟨go10,(x4_1:Int).toNat * 3 + 1,none⟩ = some (.int .i64 ((rd_T29 x3_1 x4_1).f1)):=hcc10 1 _ rfl;have hx10_2:w11.cell? ⟨go10,(x4_1:Int).toNat * 3 + 2,none⟩ = some (ve10_2):=hcc10 2 _ rfl;have hf10_0:w11.frozen? ⟨go10,(x4_1:Int).toNat * 3,none⟩ = false:=hfr10 0;have hf10_1:w11.frozen? ⟨go10,(x4_1:Int).toNat * 3 + 1,none⟩ = false:=hfr10 1;have hf10_2:w11.frozen? ⟨go10,(x4_1:Int).toNat * 3 + 2,none⟩ = false:=hfr10 2;clear hcl10 hcc10 hfr10;(try clear hM10);replace p10:=eq_true p10;replace q10:=eq_true q10;have n_:=aQ (Kd.R_mono (ok':=(fun k_=>some k_ ≠ (v141:Value).ownBlock)) HO_3.out (fun k_ hk=>hk.2));clear HO_3;have HO_3:=n_;clear n_;have HX12:=aQ (show Kd.R k29 29 w11 w.heap.size (fun _=>True) (.slice (some ⟨go10,0,none⟩) x3_1.length co10) x3_1 from (nR (Kd.R_mono HO_3.out (fun _ hk=>trivial))));obtain ⟨ce12,hcl12,hM12,hcc12,hfr12⟩:=Kd.R_elem HX12.out z29 (x4_1:Int) (of_decide_eq_true (by first | (with_reducible assumption) | assumption)) (by have h_:(x4_1:Int) < ((x3_1.length:Int):Int):=of_decide_eq_true (by first | (with_reducible assumption) | assumption);first | exact h_ | (have e_:=(Kd.R_reads' HO_3.out).1;omega) | simpa using h_);obtain ⟨ve12_2,rfl,ge12_2⟩:=k29_openM hM12;have HP12:=Kd.R_seg HX12.out (x4_1:Int) (of_decide_eq_true (by first | (with_reducible assumption) | assumption)) (by have h_:(x4_1:Int) < ((x3_1.length:Int):Int):=of_decide_eq_true (by first | (with_reducible assumption) | assumption);first | exact h_ | (have e_:=(Kd.R_reads' HO_3.out).1;omega) | simpa using h_) (seg:=[.int .i64 t138,.int .i64 t139,v141]) (j:=0) hcl12 hcc12 (show 3 ≤ 3 from by decide) (x':=(⟨t138,t139,t140⟩:S29)) (k29_mkM _ _ _ (⟨t138,t139,t140⟩:S29) (Kd.R_mono (HO142.out) (fun k_ hk=>⟨trivial,fun e_=>(hk.2) (by rw [e_];rfl)⟩))) (fun _ hk=>hk);have hx12_0:=hcc12 0 _ rfl;(try simp only [show (k29).sz = 3 from rfl,Nat.mul_one,Nat.add_zero] at hx12_0);have hf12_0:=hfr12 0;(try simp only [show (k29).sz = 3 from rfl,Nat.mul_one,Nat.add_zero] at hf12_0);have hx12_1:=hcc12 1 _ rfl;(try simp only [show (k29).sz = 3 from rfl,Nat.mul_one,Nat.add_zero] at hx12_1);have hf12_1:=hfr12 1;(try simp only [show (k29).sz = 3 from rfl,Nat.mul_one,Nat.add_zero] at hf12_1);have hx12_2:=hcc12 2 _ rfl;(try simp only [show (k29).sz = 3 from rfl,Nat.mul_one,Nat.add_zero] at hx12_2);have hf12_2:=hfr12 2;(try simp only [show (k29).sz = 3 from rfl,Nat.mul_one,Nat.add_zero] at hf12_2);clear hcl12 hcc12 hfr12;(try clear hM12)) | ((with_reducible refine gate_store (t:=29) (p:=21) rfl ?_);refine store_event (t:=29) (p:=21) (v:=?vo_w13) (w1:=(((w11.setCell ⟨go10,(x4_1:Int).toNat * 3,none⟩ (.int .i64 t138)).setCell ⟨go10,(x4_1:Int).toNat * 3 + 1,none⟩ (.int .i64 t139)).setCell ⟨go10,(x4_1:Int).toNat * 3 + 2,none⟩ (v141))) ?hg ?ho ?hn ?hr ?_;(case ho=>rfl);(case hg=>rfl);(case hn=>rfl);(case hr=>first | (go_simp;done) | (go_simp;rfl) | (obtain ⟨Ax_,cx_,ex_⟩:=Kd.R_slice (v:=v141) (Aside0.out (by assumption));subst ex_;first | (go_simp;done) | (go_simp;rfl)) | (obtain ⟨Ax_,cx_,ex_⟩:=Kd.S_slice (v:=v141) (Aside0.out (by assumption));subst ex_;first | (go_simp;done) | (go_simp;rfl)));intro w13 hw;have hg:w11.grownBy w13 (some go10):=(by rw [hw];exact HP12.2);have hp_:Kd.R k29 29 w13 w.heap.size (fun _=>True) (.slice (some ⟨go10,0,none⟩) x3_1.length co10) y143:=(by rw [hw,Ny143.out];exact HP12.1);clear HP12;have n0_:=aQ (hp_);have n1_:=aQ ((by rw [hw];exact below_set (below_set (below_set (HB.out) GB10.out) GB10.out) GB10.out:Below w.heap.size w w13));clear HO_3;clear HB;clear HO142;have HO_3:=n0_;have HB:=n1_;clear n0_ n1_;clear hg hw hp_))
   go_roundg k1
   case measure=>have:=HK1.out;omega
   case rel=>exact ⟨(y143),(wrap64 (x4_1 + 1)),rfl,H',⟨by have:=HK1.out;omega⟩,⟨nR HO_3.out⟩,⟨bB⟩⟩
theorem laws_toClock.calls (k:Nat) (a0_0:Int) (a0_1:Int) (A0_2:Option Addr) (c0_2:Nat) (l0_2:List (S24)) (r1:Int) (r2:Int) (r3:List (S29)) (w:World) (hr0_2:Kd.C k24 w A0_2 l0_2.length l0_2) (hc0_2:l0_2.length ≤ c0_2) (h:laws_toClock.f k a0_0 a0_1 l0_2 = some (r1,r2,r3)) :
  Calls Try.prog 15 #[.agg #[.int .i64 a0_0,.int .i64 a0_1,.slice A0_2 l0_2.length c0_2]] w fun e w'=>∃ v2_:Value,e = .returned (.agg #[.int .i64 r1,.int .i64 r2,v2_])∧Kd.R k29 29 w' w.heap.size (fun _=>True) v2_ r3∧Below w.heap.size w w':=laws_toClock.calls_of k (fun j_ _=>laws_toClockS.calls j_) a0_0 a0_1 A0_2 c0_2 l0_2 r1 r2 r3 w hr0_2 hc0_2 h
def spec_ClockUrgent.l0:Nat → Int → Int → Int → List (S29) → Option (Int)
 | 0,_,_,_,_=>none
 | k + 1,x3,x571000,x571001,x571002=>(spec_l17Pass.f k x571000 x571001 x571002).bind fun bt572=>(if bt572.2.2.2 = true then (if x3 = 100 then (some x3) else (spec_ClockUrgent.l0 k (wrap64 (x3 + 1)) bt572.1 bt572.2.1 bt572.2.2.1)) else (some x3))
def spec_ClockUrgent.f (k:Nat) (a0_0:Int) (a0_1:Int) (l0_2:List (S29)):Option (Int):=(spec_ClockOk.f k a0_0 a0_1 l0_2).bind fun t571=>(if t571 = true then (spec_ClockUrgent.l0 k 0 a0_0 a0_1 l0_2) else (some (-1)))
theorem spec_ClockUrgent.mono_l:∀ k,(∀ y0 y1 y2 y3,LeO (spec_ClockUrgent.l0 k y0 y1 y2 y3) (spec_ClockUrgent.l0 (k + 1) y0 y1 y2 y3))
 | 0=>fun _ _ _ _ r h=>by simp [spec_ClockUrgent.l0] at h
 | k + 1=>by
  have ih0:=spec_ClockUrgent.mono_l k
  ·intro y0 y1 y2 y3
   unfold spec_ClockUrgent.l0
   repeat' first
   | (with_reducible exact ih0 _ _ _ _)
   | (with_reducible exact spec_ClockOk.mono _ _ _ _)
   | (with_reducible exact spec_l17Pass.mono _ _ _ _)
   | (with_reducible exact LeO.refl _)
   | (with_reducible exact LeO.none _)
   | (with_reducible refine LeO.ite ?_ ?_)
   | (with_reducible refine LeO.bind ?_ (fun _=>?_))
   | exact ih0 _ _ _ _
   | exact spec_ClockOk.mono _ _ _ _
   | exact spec_l17Pass.mono _ _ _ _
   | exact LeO.none _
   | refine LeO.ite ?_ ?_
   | refine LeO.bind ?_ (fun _=>?_)
theorem spec_ClockUrgent.mono:∀ a0 a1 a2 k,LeO (spec_ClockUrgent.f k a0 a1 a2) (spec_ClockUrgent.f (k + 1) a0 a1 a2):=by
 intro a0 a1 a2 k
 have ih0:=spec_ClockUrgent.mono_l k
 unfold spec_ClockUrgent.f
 repeat' first
   | (with_reducible exact ih0 _ _ _ _)
   | (with_reducible exact spec_ClockOk.mono _ _ _ _)
   | (with_reducible exact spec_l17Pass.mono _ _ _ _)
   | (with_reducible exact LeO.refl _)
   | (with_reducible exact LeO.none _)
   | (with_reducible refine LeO.ite ?_ ?_)
   | (with_reducible refine LeO.bind ?_ (fun _=>?_))
   | exact ih0 _ _ _ _
   | exact spec_ClockOk.mono _ _ _ _
   | exact spec_l17Pass.mono _ _ _ _
   | exact LeO.none _
   | refine LeO.ite ?_ ?_
   | refine LeO.bind ?_ (fun _=>?_)
set_option maxHeartbeats 8000000 in
set_option maxRecDepth 100000 in
theorem spec_ClockUrgent.calls (k:Nat) (a0_0:Int) (a0_1:Int) (P0_2_:Nat → Prop) (A0_2:Option Addr) (c0_2:Nat) (l0_2:List (S29)) (r:Int) (w:World) (hs0_2:Kd.V k29 29 w w.heap.size (fun k_=>P0_2_ k_) (.slice A0_2 l0_2.length c0_2) l0_2) (h:spec_ClockUrgent.f k a0_0 a0_1 l0_2 = some r) :
  Calls Try.prog 21 #[.agg #[.int .i64 a0_0,.int .i64 a0_1,.slice A0_2 l0_2.length c0_2]] w fun e w'=>e = .returned (.int .i64 r)∧Below w.heap.size w w':=by
 have hu29:=Try.underlying29
 have HO0_2:=aQ (show Kd.V k29 29 w w.heap.size (fun k_=>(P0_2_ k_ ∨ w.heap.size ≤ k_)) (.slice A0_2 l0_2.length c0_2) l0_2 from Kd.V_mono hs0_2 (fun k_ hk=>.inl hk))
 have HB:=aQ (Below.refl w.heap.size w)
 have H:((spec_ClockOk.f k a0_0 a0_1 l0_2).bind fun t571=>(if t571 = true then (spec_ClockUrgent.l0 k 0 a0_0 a0_1 l0_2) else (some (-1)))) = some r:=h
 clear h
 obtain ⟨t571,A2,H⟩:=bQ H
 replace H:(if t571 = true then (spec_ClockUrgent.l0 k 0 a0_0 a0_1 l0_2) else (some (-1))) = some r:=H
 by_cases c3:t571 = true
 ·subst c3
  have H1:(spec_ClockUrgent.l0 k 0 a0_0 a0_1 l0_2) = some r:=by rw [if_pos rfl] at H;exact H
  clear H
  have H:=H1
  clear H1
  have H':=aQ H
  clear H
  go_enter Try.func21,Try.ntmps21
  go_wp2_with (first | ((with_reducible refine gate_dst (N:=1) rfl ?_);refine box_event ?hg (N:=1) ?hd (cs:=#[.int .i64 a0_0,.int .i64 a0_1,.slice A0_2 l0_2.length c0_2]) (t:=29) ?hr ?_;(case hd=>rfl);(case hg=>rfl);(case hr=>first | (go_simp;done) | (go_simp;rfl));intro gb570 hg w4 hbox hb;replace HO0_2:=aQ (Kd.V_below (Kd.V_elderB (by (with_reducible repeat (first | apply Kd.V_alloc | apply Kd.V_drewN | apply Kd.V_drew));exact HO0_2.out) gb570 (Nat.le_of_eq hg.symm)) hb);have BK570:=aQ (hbox);have GW570:=aQ ((by rw [hg];exact (below_size (by repeat (first | (with_reducible first | exact HB.out | apply below_alloc | apply pw_below_drewN | apply below_drew1) | exact HB.out))):w.heap.size ≤ gb570));have GE570:=aQ ((by rw [hg];exact (below_size (by repeat (first | (with_reducible first | exact HB.out | apply below_alloc | apply pw_below_drewN | apply below_drew1) | exact HB.out))):w.heap.size ≤ gb570));replace HB:=aQ (below_step (by repeat (first | (with_reducible first | exact HB.out | apply below_alloc | apply pw_below_drewN | apply below_drew1) | exact HB.out)) hb);clear hb hbox hg;have hcz5_0:w4.cell? ⟨gb570,0,none⟩ = some (.int .i64 a0_0):=(blk_cell BK570.out 0).trans rfl;have hcz5_1:w4.cell? ⟨gb570,1,none⟩ = some (.int .i64 a0_1):=(blk_cell BK570.out 1).trans rfl;have hcz5_2:w4.cell? ⟨gb570,2,none⟩ = some (.slice A0_2 l0_2.length c0_2):=(blk_cell BK570.out 2).trans rfl;have hfz5_0:=blk_frozen BK570.out 0;have hfz5_1:=blk_frozen BK570.out 1;have hfz5_2:=blk_frozen BK570.out 2) | ((with_reducible refine gate_callee (f:=14) rfl ?_);refine goesL_ (some 7) rfl rfl Try.func14 (by kernel_rfl) rfl #[.agg #[.int .i64 a0_0,.int .i64 a0_1,.slice A0_2 l0_2.length c0_2]] rfl mP ?_;(with_reducible refine (spec_ClockOk.calls k a0_0 a0_1 _ _ l0_2 true _ ?side1 ?side2 A2.out).mono ?_);(case side1=>repeat (first | exact (Kd.V_reads' HO0_2.out).2.2 | (with_reducible refine Kd.C_alloc ?_ _) | (with_reducible refine Kd.C_drewN ?_ _) | (with_reducible refine Kd.C_drew ?_)));(case side2=>exact (Kd.V_reads' HO0_2.out).2.1);rintro e w6 ⟨rfl,hb⟩;refine ⟨_,rfl,?_⟩;replace HO0_2:=aQ (Kd.V_below (by (with_reducible repeat (first | apply Kd.V_alloc | apply Kd.V_drewN | apply Kd.V_drew));exact HO0_2.out) hb);replace BK570:=aQ (blk_below (g:=gb570) (o:=.cells #[.int .i64 a0_0,.int .i64 a0_1,.slice A0_2 l0_2.length c0_2] 29 (0,0)) (by (with_reducible repeat (first | refine blk_drewN ?_ _ | refine blk_drew ?_ | refine blk_alloc ?_ _));exact BK570.out) hb);replace HB:=aQ (below_step (by repeat (first | (with_reducible first | exact HB.out | apply below_alloc | apply pw_below_drewN | apply below_drew1 | refine below_set ?_ GE570.out) | exact HB.out)) hb);(try clear hb)))
  go_loopg [3] k (fun kq v3 w'=>∃ (x3_1:Int) (x571000_1:Int) (x571001_1:Int) (x571002_1:List (S29)) (u571002:Value),v3 = .int .i64 x3_1∧Aside0 (spec_ClockUrgent.l0 kq x3_1 x571000_1 x571001_1 x571002_1 = some r)∧Aside0 (kq ≤ k)∧Aside0 (Kd.V k29 29 w' w.heap.size (fun k_=>(P0_2_ k_ ∨ w.heap.size ≤ k_)∧k_ ≠ gb570) u571002 x571002_1)∧Aside0 (w'.heap[gb570]? = some (.cells #[.int .i64 x571000_1,.int .i64 x571001_1,u571002] 29 (0,0)))∧Aside0 (Below w.heap.size w w'))
  case atStart=>exact ⟨(0),(a0_0),(a0_1),(l0_2),(.slice A0_2 l0_2.length c0_2),rfl,H',⟨Nat.le_refl _⟩,⟨by (with_reducible repeat (first | apply Kd.V_alloc | apply Kd.V_drewN | apply Kd.V_drew));exact HO0_2.out⟩,⟨by (with_reducible repeat (first | refine blk_drewN ?_ _ | refine blk_drew ?_ | refine blk_alloc ?_ _));exact BK570.out⟩,⟨by repeat (first | (with_reducible first | exact HB.out | apply below_alloc | apply pw_below_drewN | apply below_drew1 | refine below_set ?_ GE570.out) | exact HB.out)⟩⟩
  case round =>
   clear H'
   try clear hcz5_0
   try clear hcz5_1
   try clear hcz5_2
   try clear hfz5_0
   try clear hfz5_1
   try clear hfz5_2
   repeat (first | clear HO_571002 | clear BK570 | clear HB)
   obtain ⟨x3_1,x571000_1,x571001_1,x571002_1,u571002,rfl,HA,HK1,HO_571002,BK570,HB⟩:=hrel
   cases gk with
   | zero=>exact absurd HA.out (by simp [spec_ClockUrgent.l0])
   | succ k1 =>
    have H:=HA.out
    clear HA
    simp only [spec_ClockUrgent.l0] at H
    obtain ⟨⟨t572,t573,t574,t577⟩,A7,H⟩:=bQ H
    replace H:(if t577 = true then (if x3_1 = 100 then (some x3_1) else (spec_ClockUrgent.l0 k1 (wrap64 (x3_1 + 1)) t572 t573 t574)) else (some x3_1)) = some r:=H
    by_cases c8:t577 = true
    ·subst c8
     have H1:(if x3_1 = 100 then (some x3_1) else (spec_ClockUrgent.l0 k1 (wrap64 (x3_1 + 1)) t572 t573 t574)) = some r:=by rw [if_pos rfl] at H;exact H
     clear H
     have H:=H1
     clear H1
     by_cases c9:x3_1 = 100
     ·rw [if_pos c9] at H
      have c9b0:(x3_1 == 100) = true:=beq_iff_eq.mpr c9
      have c9b1:(x3_1 != 100) = false:=bne_eq_false_iff_eq.mpr c9
      clear c9
      obtain rfl:=Option.some.inj H
      have hcz10_0:wr.cell? ⟨gb570,0,none⟩ = some (.int .i64 x571000_1):=(blk_cell BK570.out 0).trans rfl
      have hcz10_1:wr.cell? ⟨gb570,1,none⟩ = some (.int .i64 x571001_1):=(blk_cell BK570.out 1).trans rfl
      have hcz10_2:wr.cell? ⟨gb570,2,none⟩ = some (u571002):=(blk_cell BK570.out 2).trans rfl
      have hfz10_0:=blk_frozen BK570.out 0
      have hfz10_1:=blk_frozen BK570.out 1
      have hfz10_2:=blk_frozen BK570.out 2
      obtain ⟨Ao11,co11,eo11⟩:=Kd.V_slice HO_571002.out
      subst eo11
      go_wp2_with (first | ((with_reducible refine gate_callee (f:=50) rfl ?_);refine goesL_ (some 11) rfl rfl Try.func50 (by kernel_rfl) rfl #[.agg #[.int .i64 x571000_1,.int .i64 x571001_1,.slice Ao11 x571002_1.length co11]] rfl mP ?_;(with_reducible refine (spec_l17Pass.calls k1 x571000_1 x571001_1 _ _ x571002_1 t572 t573 t574 true _ ?side1 ?side2 A7.out).mono ?_);(case side1=>repeat (first | exact (Kd.V_reads' HO_571002.out).2.2 | (with_reducible refine Kd.C_alloc ?_ _) | (with_reducible refine Kd.C_drewN ?_ _) | (with_reducible refine Kd.C_drew ?_)));(case side2=>exact (Kd.V_reads' HO_571002.out).2.1);rintro e w12 ⟨v575,rfl,ho0,hb⟩;refine ⟨_,rfl,?_⟩;replace HO_571002:=aQ (Kd.V_elder' (by (with_reducible repeat (first | apply Kd.V_alloc | apply Kd.V_drewN | apply Kd.V_drew));exact HO_571002.out) (Kd.N_base ho0) hb);have HO576:=aQ (Kd.N_lower (Kd.N_mono (ok':=fun k_=>(P0_2_ k_ ∨ w.heap.size ≤ k_)∧k_ ≠ gb570) ho0 (fun k_ hk_=>⟨(.inr (Nat.le_trans (below_size (by repeat (first | (with_reducible first | exact HB.out | apply below_alloc | apply pw_below_drewN | apply below_drew1 | refine below_set ?_ GE570.out) | exact HB.out))) hk_)),(Kd.freshB (g:=gb570) (o:=.cells #[.int .i64 x571000_1,.int .i64 x571001_1,.slice Ao11 x571002_1.length co11] 29 (0,0)) (by (with_reducible repeat (first | refine blk_drewN ?_ _ | refine blk_drew ?_ | refine blk_alloc ?_ _));exact BK570.out) k_ hk_)⟩)) (below_size (by repeat (first | (with_reducible first | exact HB.out | apply below_alloc | apply pw_below_drewN | apply below_drew1 | refine below_set ?_ GE570.out) | exact HB.out))));replace BK570:=aQ (blk_below (g:=gb570) (o:=.cells #[.int .i64 x571000_1,.int .i64 x571001_1,.slice Ao11 x571002_1.length co11] 29 (0,0)) (by (with_reducible repeat (first | refine blk_drewN ?_ _ | refine blk_drew ?_ | refine blk_alloc ?_ _));exact BK570.out) hb);replace HB:=aQ (below_step (by repeat (first | (with_reducible first | exact HB.out | apply below_alloc | apply pw_below_drewN | apply below_drew1 | refine below_set ?_ GE570.out) | exact HB.out)) hb);(try clear hb);(try clear ho0)) | ((with_reducible refine gate_dst (N:=4) rfl ?_);refine box_event ?hg (N:=4) ?hd (cs:=#[.int .i64 0,.int .i64 0,.slice none 0 0]) (t:=29) ?hr ?_;(case hd=>rfl);(case hg=>rfl);(case hr=>first | (go_simp;done) | (go_simp;rfl));intro gb578 hg w13 hbox hb;replace HO_571002:=aQ (Kd.V_below (Kd.V_elderB (by (with_reducible repeat (first | apply Kd.V_alloc | apply Kd.V_drewN | apply Kd.V_drew));exact HO_571002.out) gb578 (Nat.le_of_eq hg.symm)) hb);replace HO576:=aQ (Kd.N_below (Kd.N_elderB (by (with_reducible repeat (first | apply Kd.N_alloc | apply Kd.N_drewN | apply Kd.N_drew));exact HO576.out) gb578 (Nat.le_of_eq hg.symm)) hb);have BK578:=aQ (hbox);have GW578:=aQ ((by rw [hg];exact (below_size (by repeat (first | (with_reducible first | exact HB.out | apply below_alloc | apply pw_below_drewN | apply below_drew1 | refine below_set ?_ GE570.out) | exact HB.out))):w.heap.size ≤ gb578));have GE578:=aQ ((by rw [hg];exact (below_size (by repeat (first | (with_reducible first | exact HB.out | apply below_alloc | apply pw_below_drewN | apply below_drew1 | refine below_set ?_ GE570.out) | exact HB.out))):w.heap.size ≤ gb578));replace HB:=aQ (below_step (by repeat (first | (with_reducible first | exact HB.out | apply below_alloc | apply pw_below_drewN | apply below_drew1 | refine below_set ?_ GE570.out) | exact HB.out)) hb);have NB570_578:=aQ ((by rw [hg];exact Nat.ne_of_lt (blk_lt (g:=gb570) (o:=.cells #[.int .i64 x571000_1,.int .i64 x571001_1,.slice Ao11 x571002_1.length co11] 29 (0,0)) (by (with_reducible repeat (first | refine blk_drewN ?_ _ | refine blk_drew ?_ | refine blk_alloc ?_ _));exact BK570.out)):gb570 ≠ gb578));have NB578_570:=aQ ((by rw [hg];exact Nat.ne_of_gt (blk_lt (g:=gb570) (o:=.cells #[.int .i64 x571000_1,.int .i64 x571001_1,.slice Ao11 x571002_1.length co11] 29 (0,0)) (by (with_reducible repeat (first | refine blk_drewN ?_ _ | refine blk_drew ?_ | refine blk_alloc ?_ _));exact BK570.out)):gb578 ≠ gb570));replace BK570:=aQ (blk_below (g:=gb570) (o:=.cells #[.int .i64 x571000_1,.int .i64 x571001_1,.slice Ao11 x571002_1.length co11] 29 (0,0)) (by (with_reducible repeat (first | refine blk_drewN ?_ _ | refine blk_drew ?_ | refine blk_alloc ?_ _));exact BK570.out) hb);clear hb hbox hg;have hnb14:=NB578_570.out;have hnc14:=NB570_578.out;have hcz15_0:w13.cell? ⟨gb578,0,none⟩ = some (.int .i64 0):=(blk_cell BK578.out 0).trans rfl;have hcz15_1:w13.cell? ⟨gb578,1,none⟩ = some (.int .i64 0):=(blk_cell BK578.out 1).trans rfl;have hcz15_2:w13.cell? ⟨gb578,2,none⟩ = some (.slice none 0 0):=(blk_cell BK578.out 2).trans rfl;have hfz15_0:=blk_frozen BK578.out 0;have hfz15_1:=blk_frozen BK578.out 1;have hfz15_2:=blk_frozen BK578.out 2;obtain ⟨Ao16,co16,eo16⟩:=Kd.N_slice HO576.out;subst eo16))
      go_ret
      exact ⟨by first | rfl | (simp [errW_none,errW_some] <;> rfl) | (simp [*,errW_none,errW_some] <;> rfl),by repeat (first | (with_reducible first | exact HB.out | apply below_alloc | apply pw_below_drewN | apply below_drew1 | refine below_set ?_ GE570.out | refine below_set ?_ GE578.out) | exact HB.out)⟩
     rw [if_neg c9] at H
     have c9b0:(x3_1 == 100) = false:=beq_eq_false_iff_ne.mpr c9
     have c9b1:(x3_1 != 100) = true:=bne_iff_ne.mpr c9
     have H':=aQ H
     clear H
     have hcz17_0:wr.cell? ⟨gb570,0,none⟩ = some (.int .i64 x571000_1):=(blk_cell BK570.out 0).trans rfl
     have hcz17_1:wr.cell? ⟨gb570,1,none⟩ = some (.int .i64 x571001_1):=(blk_cell BK570.out 1).trans rfl
     have hcz17_2:wr.cell? ⟨gb570,2,none⟩ = some (u571002):=(blk_cell BK570.out 2).trans rfl
     have hfz17_0:=blk_frozen BK570.out 0
     have hfz17_1:=blk_frozen BK570.out 1
     have hfz17_2:=blk_frozen BK570.out 2
     obtain ⟨Ao18,co18,eo18⟩:=Kd.V_slice HO_571002.out
     subst eo18
     go_wp2_with (first | ((with_reducible refine gate_callee (f:=50) rfl ?_);refine goesL_ (some 11) rfl rfl Try.func50 (by kernel_rfl) rfl #[.agg #[.int .i64 x571000_1,.int .i64 x571001_1,.slice Ao18 x571002_1.length co18]] rfl mP ?_;(with_reducible refine (spec_l17Pass.calls k1 x571000_1 x571001_1 _ _ x571002_1 t572 t573 t574 true _ ?side1 ?side2 A7.out).mono ?_);(case side1=>repeat (first | exact (Kd.V_reads' HO_571002.out).2.2 | (with_reducible refine Kd.C_alloc ?_ _) | (with_reducible refine Kd.C_drewN ?_ _) | (with_reducible refine Kd.C_drew ?_)));(case side2=>exact (Kd.V_reads' HO_571002.out).2.1);rintro e w19 ⟨v575,rfl,ho0,hb⟩;refine ⟨_,rfl,?_⟩;replace HO_571002:=aQ (Kd.V_elder' (by (with_reducible repeat (first | apply Kd.V_alloc | apply Kd.V_drewN | apply Kd.V_drew));exact HO_571002.out) (Kd.N_base ho0) hb);have HO576:=aQ (Kd.N_lower (Kd.N_mono (ok':=fun k_=>(P0_2_ k_ ∨ w.heap.size ≤ k_)∧k_ ≠ gb570) ho0 (fun k_ hk_=>⟨(.inr (Nat.le_trans (below_size (by repeat (first | (with_reducible first | exact HB.out | apply below_alloc | apply pw_below_drewN | apply below_drew1 | refine below_set ?_ GE570.out) | exact HB.out))) hk_)),(Kd.freshB (g:=gb570) (o:=.cells #[.int .i64 x571000_1,.int .i64 x571001_1,.slice Ao18 x571002_1.length co18] 29 (0,0)) (by (with_reducible repeat (first | refine blk_drewN ?_ _ | refine blk_drew ?_ | refine blk_alloc ?_ _));exact BK570.out) k_ hk_)⟩)) (below_size (by repeat (first | (with_reducible first | exact HB.out | apply below_alloc | apply pw_below_drewN | apply below_drew1 | refine below_set ?_ GE570.out) | exact HB.out))));replace BK570:=aQ (blk_below (g:=gb570) (o:=.cells #[.int .i64 x571000_1,.int .i64 x571001_1,.slice Ao18 x571002_1.length co18] 29 (0,0)) (by (with_reducible repeat (first | refine blk_drewN ?_ _ | refine blk_drew ?_ | refine blk_alloc ?_ _));exact BK570.out) hb);replace HB:=aQ (below_step (by repeat (first | (with_reducible first | exact HB.out | apply below_alloc | apply pw_below_drewN | apply below_drew1 | refine below_set ?_ GE570.out) | exact HB.out)) hb);(try clear hb);(try clear ho0)) | ((with_reducible refine gate_dst (N:=4) rfl ?_);refine box_event ?hg (N:=4) ?hd (cs:=#[.int .i64 0,.int .i64 0,.slice none 0 0]) (t:=29) ?hr ?_;(case hd=>rfl);(case hg=>rfl);(case hr=>first | (go_simp;done) | (go_simp;rfl));intro gb578 hg w20 hbox hb;replace HO_571002:=aQ (Kd.V_below (Kd.V_elderB (by (with_reducible repeat (first | apply Kd.V_alloc | apply Kd.V_drewN | apply Kd.V_drew));exact HO_571002.out) gb578 (Nat.le_of_eq hg.symm)) hb);replace HO576:=aQ (Kd.N_below (Kd.N_elderB (by (with_reducible repeat (first | apply Kd.N_alloc | apply Kd.N_drewN | apply Kd.N_drew));exact HO576.out) gb578 (Nat.le_of_eq hg.symm)) hb);have BK578:=aQ (hbox);have GW578:=aQ ((by rw [hg];exact (below_size (by repeat (first | (with_reducible first | exact HB.out | apply below_alloc | apply pw_below_drewN | apply below_drew1 | refine below_set ?_ GE570.out) | exact HB.out))):w.heap.size ≤ gb578));have GE578:=aQ ((by rw [hg];exact (below_size (by repeat (first | (with_reducible first | exact HB.out | apply below_alloc | apply pw_below_drewN | apply below_drew1 | refine below_set ?_ GE570.out) | exact HB.out))):w.heap.size ≤ gb578));replace HB:=aQ (below_step (by repeat (first | (with_reducible first | exact HB.out | apply below_alloc | apply pw_below_drewN | apply below_drew1 | refine below_set ?_ GE570.out) | exact HB.out)) hb);have NB570_578:=aQ ((by rw [hg];exact Nat.ne_of_lt (blk_lt (g:=gb570) (o:=.cells #[.int .i64 x571000_1,.int .i64 x571001_1,.slice Ao18 x571002_1.length co18] 29 (0,0)) (by (with_reducible repeat (first | refine blk_drewN ?_ _ | refine blk_drew ?_ | refine blk_alloc ?_ _));exact BK570.out)):gb570 ≠ gb578));have NB578_570:=aQ ((by rw [hg];exact Nat.ne_of_gt (blk_lt (g:=gb570) (o:=.cells #[.int .i64 x571000_1,.int .i64 x571001_1,.slice Ao18 x571002_1.length co18] 29 (0,0)) (by (with_reducible repeat (first | refine blk_drewN ?_ _ | refine blk_drew ?_ | refine blk_alloc ?_ _));exact BK570.out)):gb578 ≠ gb570));replace BK570:=aQ (blk_below (g:=gb570) (o:=.cells #[.int .i64 x571000_1,.int .i64 x571001_1,.slice Ao18 x571002_1.length co18] 29 (0,0)) (by (with_reducible repeat (first | refine blk_drewN ?_ _ | refine blk_drew ?_ | refine blk_alloc ?_ _));exact BK570.out) hb);clear hb hbox hg;have hnb21:=NB578_570.out;have hnc21:=NB570_578.out;have hcz22_0:w20.cell? ⟨gb578,0,none⟩ = some (.int .i64 0):=(blk_cell BK578.out 0).trans rfl;have hcz22_1:w20.cell? ⟨gb578,1,none⟩ = some (.int .i64 0):=(blk_cell BK578.out 1).trans rfl;have hcz22_2:w20.cell? ⟨gb578,2,none⟩ = some (.slice none 0 0):=(blk_cell BK578.out 2).trans rfl;have hfz22_0:=blk_frozen BK578.out 0;have hfz22_1:=blk_frozen BK578.out 1;have hfz22_2:=blk_frozen BK578.out 2;obtain ⟨Ao23,co23,eo23⟩:=Kd.N_slice HO576.out;subst eo23;have hcz24_0:w20.cell? ⟨gb570,0,none⟩ = some (.int .i64 x571000_1):=(blk_cell BK570.out 0).trans rfl;have hcz24_1:w20.cell? ⟨gb570,1,none⟩ = some (.int .i64 x571001_1):=(blk_cell BK570.out 1).trans rfl;have hcz24_2:w20.cell? ⟨gb570,2,none⟩ = some (.slice Ao18 x571002_1.length co18):=(blk_cell BK570.out 2).trans rfl;have hfz24_0:=blk_frozen BK570.out 0;have hfz24_1:=blk_frozen BK570.out 1;have hfz24_2:=blk_frozen BK570.out 2))
     go_roundg k1
     case measure=>have:=HK1.out;omega
     case rel=>exact ⟨(wrap64 (x3_1 + 1)),(t572),(t573),(t574),(.slice Ao23 t574.length co23),rfl,H',⟨by have:=HK1.out;omega⟩,⟨Kd.N_V (by (with_reducible repeat (first | apply Kd.N_alloc | apply Kd.N_drewN | apply Kd.N_drew));exact Kd.N_mono (Kd.N_far (p:=⟨gb570,2,none⟩) (Kd.N_far (p:=⟨gb570,1,none⟩) (Kd.N_far (p:=⟨gb570,0,none⟩) (Kd.N_far (p:=⟨gb578,2,none⟩) (Kd.N_far (p:=⟨gb578,1,none⟩) (Kd.N_far (p:=⟨gb578,0,none⟩) (Kd.N_mono (Kd.N_mono HO576.out (fun k_ hk=>(⟨hk,hk.2⟩:_∧k_ ≠ gb578))) (fun k_ hk=>(⟨hk,hk.1.1.2⟩:_∧k_ ≠ gb570))) (fun _ hk=>hk.1.2) (.int .i64 t572)) (fun _ hk=>hk.1.2) (.int .i64 t573)) (fun _ hk=>hk.1.2) (.slice Ao23 t574.length co23)) (fun _ hk=>hk.2) (.int .i64 t572)) (fun _ hk=>hk.2) (.int .i64 t573)) (fun _ hk=>hk.2) (.slice Ao23 t574.length co23)) (fun _ hk=>⟨hk.1.1.1.1,hk.1.1.1.2⟩))⟩,⟨by (with_reducible repeat (first | refine blk_drewN ?_ _ | refine blk_drew ?_ | refine blk_alloc ?_ _));refine blk_put (cs:=#[.int .i64 t572,.int .i64 t573,.slice Ao18 x571002_1.length co18]) ?_ 2 _ rfl;(with_reducible repeat (first | refine blk_drewN ?_ _ | refine blk_drew ?_ | refine blk_alloc ?_ _));refine blk_put (cs:=#[.int .i64 t572,.int .i64 x571001_1,.slice Ao18 x571002_1.length co18]) ?_ 1 _ rfl;(with_reducible repeat (first | refine blk_drewN ?_ _ | refine blk_drew ?_ | refine blk_alloc ?_ _));refine blk_put (cs:=#[.int .i64 x571000_1,.int .i64 x571001_1,.slice Ao18 x571002_1.length co18]) ?_ 0 _ rfl;(with_reducible repeat (first | refine blk_drewN ?_ _ | refine blk_drew ?_ | refine blk_alloc ?_ _));refine blk_far ?_ NB570_578.out _;(with_reducible repeat (first | refine blk_drewN ?_ _ | refine blk_drew ?_ | refine blk_alloc ?_ _));refine blk_far ?_ NB570_578.out _;(with_reducible repeat (first | refine blk_drewN ?_ _ | refine blk_drew ?_ | refine blk_alloc ?_ _));refine blk_far ?_ NB570_578.out _;(with_reducible repeat (first | refine blk_drewN ?_ _ | refine blk_drew ?_ | refine blk_alloc ?_ _));exact BK570.out⟩,⟨by repeat (first | (with_reducible first | exact HB.out | apply below_alloc | apply pw_below_drewN | apply below_drew1 | refine below_set ?_ GE570.out | refine below_set ?_ GE578.out) | exact HB.out)⟩⟩
    ·replace c8:=Bool.eq_false_iff.mpr c8
     subst c8
     have H1:(some x3_1) = some r:=by rw [if_neg (show ¬ (false = true) by decide)] at H;exact H
     clear H
     have H:=H1
     clear H1
     obtain rfl:=Option.some.inj H
     have hcz25_0:wr.cell? ⟨gb570,0,none⟩ = some (.int .i64 x571000_1):=(blk_cell BK570.out 0).trans rfl
     have hcz25_1:wr.cell? ⟨gb570,1,none⟩ = some (.int .i64 x571001_1):=(blk_cell BK570.out 1).trans rfl
     have hcz25_2:wr.cell? ⟨gb570,2,none⟩ = some (u571002):=(blk_cell BK570.out 2).trans rfl
     have hfz25_0:=blk_frozen BK570.out 0
     have hfz25_1:=blk_frozen BK570.out 1
     have hfz25_2:=blk_frozen BK570.out 2
     obtain ⟨Ao26,co26,eo26⟩:=Kd.V_slice HO_571002.out
     subst eo26
     go_wp2_with (first | ((with_reducible refine gate_callee (f:=50) rfl ?_);refine goesL_ (some 11) rfl rfl Try.func50 (by kernel_rfl) rfl #[.agg #[.int .i64 x571000_1,.int .i64 x571001_1,.slice Ao26 x571002_1.length co26]] rfl mP ?_;(with_reducible refine (spec_l17Pass.calls k1 x571000_1 x571001_1 _ _ x571002_1 t572 t573 t574 false _ ?side1 ?side2 A7.out).mono ?_);(case side1=>repeat (first | exact (Kd.V_reads' HO_571002.out).2.2 | (with_reducible refine Kd.C_alloc ?_ _) | (with_reducible refine Kd.C_drewN ?_ _) | (with_reducible refine Kd.C_drew ?_)));(case side2=>exact (Kd.V_reads' HO_571002.out).2.1);rintro e w27 ⟨v575,rfl,ho0,hb⟩;refine ⟨_,rfl,?_⟩;replace HO_571002:=aQ (Kd.V_elder' (by (with_reducible repeat (first | apply Kd.V_alloc | apply Kd.V_drewN | apply Kd.V_drew));exact HO_571002.out) (Kd.N_base ho0) hb);have HO576:=aQ (Kd.N_lower (Kd.N_mono (ok':=fun k_=>(P0_2_ k_ ∨ w.heap.size ≤ k_)∧k_ ≠ gb570) ho0 (fun k_ hk_=>⟨(.inr (Nat.le_trans (below_size (by repeat (first | (with_reducible first | exact HB.out | apply below_alloc | apply pw_below_drewN | apply below_drew1 | refine below_set ?_ GE570.out) | exact HB.out))) hk_)),(Kd.freshB (g:=gb570) (o:=.cells #[.int .i64 x571000_1,.int .i64 x571001_1,.slice Ao26 x571002_1.length co26] 29 (0,0)) (by (with_reducible repeat (first | refine blk_drewN ?_ _ | refine blk_drew ?_ | refine blk_alloc ?_ _));exact BK570.out) k_ hk_)⟩)) (below_size (by repeat (first | (with_reducible first | exact HB.out | apply below_alloc | apply pw_below_drewN | apply below_drew1 | refine below_set ?_ GE570.out) | exact HB.out))));replace BK570:=aQ (blk_below (g:=gb570) (o:=.cells #[.int .i64 x571000_1,.int .i64 x571001_1,.slice Ao26 x571002_1.length co26] 29 (0,0)) (by (with_reducible repeat (first | refine blk_drewN ?_ _ | refine blk_drew ?_ | refine blk_alloc ?_ _));exact BK570.out) hb);replace HB:=aQ (below_step (by repeat (first | (with_reducible first | exact HB.out | apply below_alloc | apply pw_below_drewN | apply below_drew1 | refine below_set ?_ GE570.out) | exact HB.out)) hb);(try clear hb);(try clear ho0)) | ((with_reducible refine gate_dst (N:=4) rfl ?_);refine box_event ?hg (N:=4) ?hd (cs:=#[.int .i64 0,.int .i64 0,.slice none 0 0]) (t:=29) ?hr ?_;(case hd=>rfl);(case hg=>rfl);(case hr=>first | (go_simp;done) | (go_simp;rfl));intro gb578 hg w28 hbox hb;replace HO_571002:=aQ (Kd.V_below (Kd.V_elderB (by (with_reducible repeat (first | apply Kd.V_alloc | apply Kd.V_drewN | apply Kd.V_drew));exact HO_571002.out) gb578 (Nat.le_of_eq hg.symm)) hb);replace HO576:=aQ (Kd.N_below (Kd.N_elderB (by (with_reducible repeat (first | apply Kd.N_alloc | apply Kd.N_drewN | apply Kd.N_drew));exact HO576.out) gb578 (Nat.le_of_eq hg.symm)) hb);have BK578:=aQ (hbox);have GW578:=aQ ((by rw [hg];exact (below_size (by repeat (first | (with_reducible first | exact HB.out | apply below_alloc | apply pw_below_drewN | apply below_drew1 | refine below_set ?_ GE570.out) | exact HB.out))):w.heap.size ≤ gb578));have GE578:=aQ ((by rw [hg];exact (below_size (by repeat (first | (with_reducible first | exact HB.out | apply below_alloc | apply pw_below_drewN | apply below_drew1 | refine below_set ?_ GE570.out) | exact HB.out))):w.heap.size ≤ gb578));replace HB:=aQ (below_step (by repeat (first | (with_reducible first | exact HB.out | apply below_alloc | apply pw_below_drewN | apply below_drew1 | refine below_set ?_ GE570.out) | exact HB.out)) hb);have NB570_578:=aQ ((by rw [hg];exact Nat.ne_of_lt (blk_lt (g:=gb570) (o:=.cells #[.int .i64 x571000_1,.int .i64 x571001_1,.slice Ao26 x571002_1.length co26] 29 (0,0)) (by (with_reducible repeat (first | refine blk_drewN ?_ _ | refine blk_drew ?_ | refine blk_alloc ?_ _));exact BK570.out)):gb570 ≠ gb578));have NB578_570:=aQ ((by rw [hg];exact Nat.ne_of_gt (blk_lt (g:=gb570) (o:=.cells #[.int .i64 x571000_1,.int .i64 x571001_1,.slice Ao26 x571002_1.length co26] 29 (0,0)) (by (with_reducible repeat (first | refine blk_drewN ?_ _ | refine blk_drew ?_ | refine blk_alloc ?_ _));exact BK570.out)):gb578 ≠ gb570));replace BK570:=aQ (blk_below (g:=gb570) (o:=.cells #[.int .i64 x571000_1,.int .i64 x571001_1,.slice Ao26 x571002_1.length co26] 29 (0,0)) (by (with_reducible repeat (first | refine blk_drewN ?_ _ | refine blk_drew ?_ | refine blk_alloc ?_ _));exact BK570.out) hb);clear hb hbox hg;have hnb29:=NB578_570.out;have hnc29:=NB570_578.out;have hcz30_0:w28.cell? ⟨gb578,0,none⟩ = some (.int .i64 0):=(blk_cell BK578.out 0).trans rfl;have hcz30_1:w28.cell? ⟨gb578,1,none⟩ = some (.int .i64 0):=(blk_cell BK578.out 1).trans rfl;have hcz30_2:w28.cell? ⟨gb578,2,none⟩ = some (.slice none 0 0):=(blk_cell BK578.out 2).trans rfl;have hfz30_0:=blk_frozen BK578.out 0;have hfz30_1:=blk_frozen BK578.out 1;have hfz30_2:=blk_frozen BK578.out 2;obtain ⟨Ao31,co31,eo31⟩:=Kd.N_slice HO576.out;subst eo31))
     go_ret
     exact ⟨by first | rfl | (simp [errW_none,errW_some] <;> rfl) | (simp [*,errW_none,errW_some] <;> rfl),by repeat (first | (with_reducible first | exact HB.out | apply below_alloc | apply pw_below_drewN | apply below_drew1 | refine below_set ?_ GE570.out | refine below_set ?_ GE578.out) | exact HB.out)⟩
 ·replace c3:=Bool.eq_false_iff.mpr c3
  subst c3
  have H1:(some (-1)) = some r:=by rw [if_neg (show ¬ (false = true) by decide)] at H;exact H
  clear H
  have H:=H1
  clear H1
  obtain rfl:=Option.some.inj H
  go_enter Try.func21,Try.ntmps21
  go_wp2_with (first | ((with_reducible refine gate_dst (N:=1) rfl ?_);refine box_event ?hg (N:=1) ?hd (cs:=#[.int .i64 a0_0,.int .i64 a0_1,.slice A0_2 l0_2.length c0_2]) (t:=29) ?hr ?_;(case hd=>rfl);(case hg=>rfl);(case hr=>first | (go_simp;done) | (go_simp;rfl));intro gb570 hg w32 hbox hb;replace HO0_2:=aQ (Kd.V_below (Kd.V_elderB (by (with_reducible repeat (first | apply Kd.V_alloc | apply Kd.V_drewN | apply Kd.V_drew));exact HO0_2.out) gb570 (Nat.le_of_eq hg.symm)) hb);have BK570:=aQ (hbox);have GW570:=aQ ((by rw [hg];exact (below_size (by repeat (first | (with_reducible first | exact HB.out | apply below_alloc | apply pw_below_drewN | apply below_drew1) | exact HB.out))):w.heap.size ≤ gb570));have GE570:=aQ ((by rw [hg];exact (below_size (by repeat (first | (with_reducible first | exact HB.out | apply below_alloc | apply pw_below_drewN | apply below_drew1) | exact HB.out))):w.heap.size ≤ gb570));replace HB:=aQ (below_step (by repeat (first | (with_reducible first | exact HB.out | apply below_alloc | apply pw_below_drewN | apply below_drew1) | exact HB.out)) hb);clear hb hbox hg;have hcz33_0:w32.cell? ⟨gb570,0,none⟩ = some (.int .i64 a0_0):=(blk_cell BK570.out 0).trans rfl;have hcz33_1:w32.cell? ⟨gb570,1,none⟩ = some (.int .i64 a0_1):=(blk_cell BK570.out 1).trans rfl;have hcz33_2:w32.cell? ⟨gb570,2,none⟩ = some (.slice A0_2 l0_2.length c0_2):=(blk_cell BK570.out 2).trans rfl;have hfz33_0:=blk_frozen BK570.out 0;have hfz33_1:=blk_frozen BK570.out 1;have hfz33_2:=blk_frozen BK570.out 2) | ((with_reducible refine gate_callee (f:=14) rfl ?_);refine goesL_ (some 7) rfl rfl Try.func14 (by kernel_rfl) rfl #[.agg #[.int .i64 a0_0,.int .i64 a0_1,.slice A0_2 l0_2.length c0_2]] rfl mP ?_;(with_reducible refine (spec_ClockOk.calls k a0_0 a0_1 _ _ l0_2 false _ ?side1 ?side2 A2.out).mono ?_);(case side1=>repeat (first | exact (Kd.V_reads' HO0_2.out).2.2 | (with_reducible refine Kd.C_alloc ?_ _) | (with_reducible refine Kd.C_drewN ?_ _) | (with_reducible refine Kd.C_drew ?_)));(case side2=>exact (Kd.V_reads' HO0_2.out).2.1);rintro e w34 ⟨rfl,hb⟩;refine ⟨_,rfl,?_⟩;replace HO0_2:=aQ (Kd.V_below (by (with_reducible repeat (first | apply Kd.V_alloc | apply Kd.V_drewN | apply Kd.V_drew));exact HO0_2.out) hb);replace BK570:=aQ (blk_below (g:=gb570) (o:=.cells #[.int .i64 a0_0,.int .i64 a0_1,.slice A0_2 l0_2.length c0_2] 29 (0,0)) (by (with_reducible repeat (first | refine blk_drewN ?_ _ | refine blk_drew ?_ | refine blk_alloc ?_ _));exact BK570.out) hb);replace HB:=aQ (below_step (by repeat (first | (with_reducible first | exact HB.out | apply below_alloc | apply pw_below_drewN | apply below_drew1 | refine below_set ?_ GE570.out) | exact HB.out)) hb);(try clear hb)))
  go_ret
  exact ⟨by first | rfl | (simp [errW_none,errW_some] <;> rfl) | (simp [*,errW_none,errW_some] <;> rfl),by repeat (first | (with_reducible first | exact HB.out | apply below_alloc | apply pw_below_drewN | apply below_drew1 | refine below_set ?_ GE570.out) | exact HB.out)⟩
end Go.Proofs.Ytnkgcjdlfenepaa.P
