/- What the Go functions that the laws reach compute, and that their calls come to just that: told by a program of this session (aprint.py). No condition. -/
import Derived.Test.YtnkgcjdlfenepaaP0
import Derived.Test.YtnkgcjdlfenepaaP1
import Derived.Test.YtnkgcjdlfenepaaP2
import Derived.Test.YtnkgcjdlfenepaaP3
import Derived.Test.YtnkgcjdlfenepaaHPass
import Derived.Test.YtnkgcjdlfenepaaCut
namespace Go.Proofs.Ytnkgcjdlfenepaa.P
open Go.RowKit Go.Proofs.YtnkgcjdlfenepaaW.PrintWords Go.Proofs.YtnkgcjdlfenepaaW.PrintLast Go.Proofs.YtnkgcjdlfenepaaW.PrintMore
attribute [local go_sem] max2_int min2_int max_two min_two max_three min_three max_four min_four
set_option linter.unusedVariables false
set_option linter.unusedSimpArgs false
def impl_ClockPass.f (k:Nat) (a0_0:Int) (a0_1:Int) (l0_2:List (S29)):Option (Int × Int × (List (S29)) × Bool):=(impl_ClockOk.f k a0_0 a0_1 l0_2).bind fun t635=>(if t635 = true then ((impl_pass.f k a0_0 a0_1 l0_2).bind fun bt636=>(if bt636.2.2.2 = true then (some (bt636.1,bt636.2.1,bt636.2.2.1,true)) else (some (0,0,([]:List (S29)),false)))) else (some (0,0,([]:List (S29)),false)))
theorem impl_ClockPass.mono:∀ a0 a1 a2 k,LeO (impl_ClockPass.f k a0 a1 a2) (impl_ClockPass.f (k + 1) a0 a1 a2):=by
 intro a0 a1 a2 k
 unfold impl_ClockPass.f
 repeat' first
   | (with_reducible exact impl_ClockOk.mono _ _ _ _)
   | (with_reducible exact impl_pass.mono _ _ _ _)
   | (with_reducible exact LeO.refl _)
   | (with_reducible exact LeO.none _)
   | (with_reducible refine LeO.ite ?_ ?_)
   | (with_reducible refine LeO.bind ?_ (fun _=>?_))
   | exact impl_ClockOk.mono _ _ _ _
   | exact impl_pass.mono _ _ _ _
   | exact LeO.none _
   | refine LeO.ite ?_ ?_
   | refine LeO.bind ?_ (fun _=>?_)
set_option maxHeartbeats 8000000 in
set_option maxRecDepth 100000 in
theorem impl_ClockPass.calls (k:Nat) (a0_0:Int) (a0_1:Int) (P0_2_:Nat → Prop) (A0_2:Option Addr) (c0_2:Nat) (l0_2:List (S29)) (r1:Int) (r2:Int) (r3:List (S29)) (r4:Bool) (w:World) (hs0_2:Kd.V k29 29 w w.heap.size (fun k_=>P0_2_ k_) (.slice A0_2 l0_2.length c0_2) l0_2) (h:impl_ClockPass.f k a0_0 a0_1 l0_2 = some (r1,r2,r3,r4)) :
  Calls Try.prog 25 #[.agg #[.int .i64 a0_0,.int .i64 a0_1,.slice A0_2 l0_2.length c0_2]] w fun e w'=>∃ v2_:Value,e = .returned (.tuple #[.agg #[.int .i64 r1,.int .i64 r2,v2_],.bool r4])∧Kd.N k29 29 w' w.heap.size (fun k_=>(P0_2_ k_ ∨ w.heap.size ≤ k_)) v2_ r3∧Below w.heap.size w w':=by
 have hu29:=Try.underlying29
 have HO0_2:=aQ (show Kd.V k29 29 w w.heap.size (fun k_=>(P0_2_ k_ ∨ w.heap.size ≤ k_)) (.slice A0_2 l0_2.length c0_2) l0_2 from Kd.V_mono hs0_2 (fun k_ hk=>.inl hk))
 have HB:=aQ (Below.refl w.heap.size w)
 have H:=h
 clear h
 obtain ⟨t635,A2,H⟩:=bQ H
 (try dsimp only at H)
 by_cases c3:t635 = true
 ·subst c3
  have H1:((impl_pass.f k a0_0 a0_1 l0_2).bind fun bt636=>(if bt636.2.2.2 = true then (some (bt636.1,bt636.2.1,bt636.2.2.1,true)) else (some (0,0,([]:List (S29)),false)))) = some (r1,r2,r3,r4):=by rw [if_pos rfl] at H;exact H
  clear H
  have H:=H1
  clear H1
  obtain ⟨⟨t636,t637,t638,t641⟩,A4,H⟩:=bQ H
  dsimp only at H
  by_cases c5:t641 = true
  ·subst c5
   have H1:(some (t636,t637,t638,true)) = some (r1,r2,r3,r4):=by rw [if_pos rfl] at H;exact H
   clear H
   have H:=H1
   clear H1
   simp only [Option.some.injEq,Prod.mk.injEq] at H
   obtain ⟨rfl,rfl,rfl,rfl⟩:=H
   go_enter Try.func25,Try.ntmps25
   go_wp2_with (first | ((with_reducible refine gate_dst (N:=1) rfl ?_);refine box1 (N:=1) (cs:=#[.int .i64 a0_0,.int .i64 a0_1,.slice A0_2 l0_2.length c0_2]) (t:=29) ?_;intro gb633 hg w6 hbox hb;replace HO0_2:=aQ (Kd.V_below (Kd.V_elderB (nV HO0_2.out) gb633 (Nat.le_of_eq hg.symm)) hb);have BK633:=aQ (hbox);have GW633:=aQ ((by rw [hg];exact (below_size bB):w.heap.size ≤ gb633));have GE633:=aQ ((by rw [hg];exact (below_size bB):w.heap.size ≤ gb633));replace HB:=aQ (below_step bB hb);clear hb hbox hg) | ((with_reducible refine gate_dst (N:=2) rfl ?_);refine box1 (N:=2) (cs:=#[.int .i64 0,.int .i64 0,.slice none 0 0]) (t:=29) ?_;intro gb634 hg w7 hbox hb;replace HO0_2:=aQ (Kd.V_below (Kd.V_elderB (nV HO0_2.out) gb634 (Nat.le_of_eq hg.symm)) hb);have BK634:=aQ (hbox);have GW634:=aQ ((by rw [hg];exact (below_size bB):w.heap.size ≤ gb634));have GE634:=aQ ((by rw [hg];exact (below_size bB):w.heap.size ≤ gb634));replace HB:=aQ (below_step bB hb);have NB633_634:=aQ ((by rw [hg];exact Nat.ne_of_lt (blk_lt (g:=gb633) (o:=.cells #[.int .i64 a0_0,.int .i64 a0_1,.slice A0_2 l0_2.length c0_2] 29 (0,0)) (nB BK633.out)):gb633 ≠ gb634));have NB634_633:=aQ ((by rw [hg];exact Nat.ne_of_gt (blk_lt (g:=gb633) (o:=.cells #[.int .i64 a0_0,.int .i64 a0_1,.slice A0_2 l0_2.length c0_2] 29 (0,0)) (nB BK633.out)):gb634 ≠ gb633));replace BK633:=aQ (blk_below (g:=gb633) (o:=.cells #[.int .i64 a0_0,.int .i64 a0_1,.slice A0_2 l0_2.length c0_2] 29 (0,0)) (nB BK633.out) hb);clear hb hbox hg;have hnb8:=NB633_634.out;have hnc8:=NB634_633.out;have hcz9_0:w7.cell? ⟨gb633,0,none⟩ = some (.int .i64 a0_0):=(blk_cell BK633.out 0).trans rfl;have hcz9_1:w7.cell? ⟨gb633,1,none⟩ = some (.int .i64 a0_1):=(blk_cell BK633.out 1).trans rfl;have hcz9_2:w7.cell? ⟨gb633,2,none⟩ = some (.slice A0_2 l0_2.length c0_2):=(blk_cell BK633.out 2).trans rfl;have hfz9_0:=blk_frozen BK633.out 0;have hfz9_1:=blk_frozen BK633.out 1;have hfz9_2:=blk_frozen BK633.out 2) | ((with_reducible refine gate_callee (f:=16) rfl ?_);refine goesL_ (some 7) rfl rfl Try.func16 (by kernel_rfl) rfl #[.agg #[.int .i64 a0_0,.int .i64 a0_1,.slice A0_2 l0_2.length c0_2]] rfl mP ?_;(with_reducible refine (impl_ClockOk.calls k a0_0 a0_1 _ _ l0_2 true _ ?side1 ?side2 A2.out).mono ?_);(case side1=>repeat (first | exact (Kd.V_reads' HO0_2.out).2.2 | (with_reducible refine Kd.C_alloc ?_ _) | (with_reducible refine Kd.C_drewN ?_ _) | (with_reducible refine Kd.C_drew ?_)));(case side2=>exact (Kd.V_reads' HO0_2.out).2.1);rintro e w10 ⟨rfl,hb⟩;refine ⟨_,rfl,?_⟩;replace HO0_2:=aQ (Kd.V_below (nV HO0_2.out) hb);replace BK633:=aQ (blk_below (g:=gb633) (o:=.cells #[.int .i64 a0_0,.int .i64 a0_1,.slice A0_2 l0_2.length c0_2] 29 (0,0)) (nB BK633.out) hb);replace BK634:=aQ (blk_below (g:=gb634) (o:=.cells #[.int .i64 0,.int .i64 0,.slice none 0 0] 29 (0,0)) (nB BK634.out) hb);replace HB:=aQ (below_step bB hb);(try clear hb);have hcz11_0:w10.cell? ⟨gb633,0,none⟩ = some (.int .i64 a0_0):=(blk_cell BK633.out 0).trans rfl;have hcz11_1:w10.cell? ⟨gb633,1,none⟩ = some (.int .i64 a0_1):=(blk_cell BK633.out 1).trans rfl;have hcz11_2:w10.cell? ⟨gb633,2,none⟩ = some (.slice A0_2 l0_2.length c0_2):=(blk_cell BK633.out 2).trans rfl;have hfz11_0:=blk_frozen BK633.out 0;have hfz11_1:=blk_frozen BK633.out 1;have hfz11_2:=blk_frozen BK633.out 2) | ((with_reducible refine gate_callee (f:=49) rfl ?_);refine goesL_ (some 12) rfl rfl Try.func49 (by kernel_rfl) rfl #[.agg #[.int .i64 a0_0,.int .i64 a0_1,.slice A0_2 l0_2.length c0_2]] rfl mP ?_;(with_reducible refine (impl_pass.calls k a0_0 a0_1 (fun k_=>(((P0_2_ k_ ∨ w.heap.size ≤ k_)∧k_ ≠ gb633)∧k_ ≠ gb634)) _ _ l0_2 t636 t637 t638 true _ ?side1 A4.out).mono ?_);(case side1=>exact HO0_2.out);rintro e w12 ⟨v639,rfl,ho0,hb⟩;refine ⟨_,rfl,?_⟩;replace HO0_2:=aQ (Kd.V_elder' (nV HO0_2.out) (Kd.N_base ho0) hb);have HO640:=aQ (Kd.N_lower (Kd.N_mono (ok':=fun k_=>(P0_2_ k_ ∨ w.heap.size ≤ k_)∧k_ ≠ gb633∧k_ ≠ gb634) ho0 (fun k_ hk_=>⟨Or.elim hk_ (fun hs_=>hs_.1.1) (fun hn_=>(.inr (Nat.le_trans (below_size bB) hn_))),Or.elim hk_ (fun hs_=>hs_.1.2) (fun hn_=>(Kd.freshB (g:=gb633) (o:=.cells #[.int .i64 a0_0,.int .i64 a0_1,.slice A0_2 l0_2.length c0_2] 29 (0,0)) (nB BK633.out) k_ hn_)),Or.elim hk_ (fun hs_=>hs_.2) (fun hn_=>(Kd.freshB (g:=gb634) (o:=.cells #[.int .i64 0,.int .i64 0,.slice none 0 0] 29 (0,0)) (nB BK634.out) k_ hn_))⟩)) (below_size bB));replace BK633:=aQ (blk_below (g:=gb633) (o:=.cells #[.int .i64 a0_0,.int .i64 a0_1,.slice A0_2 l0_2.length c0_2] 29 (0,0)) (nB BK633.out) hb);replace BK634:=aQ (blk_below (g:=gb634) (o:=.cells #[.int .i64 0,.int .i64 0,.slice none 0 0] 29 (0,0)) (nB BK634.out) hb);replace HB:=aQ (below_step bB hb);(try clear hb);(try clear ho0)) | ((with_reducible refine gate_dst (N:=4) rfl ?_);refine box1 (N:=4) (cs:=#[.int .i64 0,.int .i64 0,.slice none 0 0]) (t:=29) ?_;intro gb642 hg w13 hbox hb;replace HO0_2:=aQ (Kd.V_below (Kd.V_elderB (nV HO0_2.out) gb642 (Nat.le_of_eq hg.symm)) hb);replace HO640:=aQ (Kd.N_below (Kd.N_elderB (nN HO640.out) gb642 (Nat.le_of_eq hg.symm)) hb);have BK642:=aQ (hbox);have GW642:=aQ ((by rw [hg];exact (below_size bB):w.heap.size ≤ gb642));have GE642:=aQ ((by rw [hg];exact (below_size bB):w.heap.size ≤ gb642));replace HB:=aQ (below_step bB hb);have NB633_642:=aQ ((by rw [hg];exact Nat.ne_of_lt (blk_lt (g:=gb633) (o:=.cells #[.int .i64 a0_0,.int .i64 a0_1,.slice A0_2 l0_2.length c0_2] 29 (0,0)) (nB BK633.out)):gb633 ≠ gb642));have NB642_633:=aQ ((by rw [hg];exact Nat.ne_of_gt (blk_lt (g:=gb633) (o:=.cells #[.int .i64 a0_0,.int .i64 a0_1,.slice A0_2 l0_2.length c0_2] 29 (0,0)) (nB BK633.out)):gb642 ≠ gb633));replace BK633:=aQ (blk_below (g:=gb633) (o:=.cells #[.int .i64 a0_0,.int .i64 a0_1,.slice A0_2 l0_2.length c0_2] 29 (0,0)) (nB BK633.out) hb);have NB634_642:=aQ ((by rw [hg];exact Nat.ne_of_lt (blk_lt (g:=gb634) (o:=.cells #[.int .i64 0,.int .i64 0,.slice none 0 0] 29 (0,0)) (nB BK634.out)):gb634 ≠ gb642));have NB642_634:=aQ ((by rw [hg];exact Nat.ne_of_gt (blk_lt (g:=gb634) (o:=.cells #[.int .i64 0,.int .i64 0,.slice none 0 0] 29 (0,0)) (nB BK634.out)):gb642 ≠ gb634));replace BK634:=aQ (blk_below (g:=gb634) (o:=.cells #[.int .i64 0,.int .i64 0,.slice none 0 0] 29 (0,0)) (nB BK634.out) hb);clear hb hbox hg;have hnb14:=NB642_633.out;have hnc14:=NB633_642.out;have hnb15:=NB642_634.out;have hnc15:=NB634_642.out;have hcz16_0:w13.cell? ⟨gb642,0,none⟩ = some (.int .i64 0):=(blk_cell BK642.out 0).trans rfl;have hcz16_1:w13.cell? ⟨gb642,1,none⟩ = some (.int .i64 0):=(blk_cell BK642.out 1).trans rfl;have hcz16_2:w13.cell? ⟨gb642,2,none⟩ = some (.slice none 0 0):=(blk_cell BK642.out 2).trans rfl;have hfz16_0:=blk_frozen BK642.out 0;have hfz16_1:=blk_frozen BK642.out 1;have hfz16_2:=blk_frozen BK642.out 2;obtain ⟨Ao17,co17,eo17⟩:=Kd.N_slice HO640.out;subst eo17;have hcz18_0:w13.cell? ⟨gb634,0,none⟩ = some (.int .i64 0):=(blk_cell BK634.out 0).trans rfl;have hcz18_1:w13.cell? ⟨gb634,1,none⟩ = some (.int .i64 0):=(blk_cell BK634.out 1).trans rfl;have hcz18_2:w13.cell? ⟨gb634,2,none⟩ = some (.slice none 0 0):=(blk_cell BK634.out 2).trans rfl;have hfz18_0:=blk_frozen BK634.out 0;have hfz18_1:=blk_frozen BK634.out 1;have hfz18_2:=blk_frozen BK634.out 2))
   refine bodyPost_ret (results_ct rfl _ _ gb634 29 #[.int .i64 t636,.int .i64 t637,.slice Ao17 t638.length co17] (0,0) _ rfl (by (with_reducible repeat (first | refine blk_drewN ?_ _ | refine blk_drew ?_ | refine blk_alloc ?_ _));refine blk_put (cs:=#[.int .i64 t636,.int .i64 t637,.slice none 0 0]) ?_ 2 _ rfl;(with_reducible repeat (first | refine blk_drewN ?_ _ | refine blk_drew ?_ | refine blk_alloc ?_ _));refine blk_put (cs:=#[.int .i64 t636,.int .i64 0,.slice none 0 0]) ?_ 1 _ rfl;(with_reducible repeat (first | refine blk_drewN ?_ _ | refine blk_drew ?_ | refine blk_alloc ?_ _));refine blk_put (cs:=#[.int .i64 0,.int .i64 0,.slice none 0 0]) ?_ 0 _ rfl;(with_reducible repeat (first | refine blk_drewN ?_ _ | refine blk_drew ?_ | refine blk_alloc ?_ _));refine blk_far ?_ NB634_642.out _;(with_reducible repeat (first | refine blk_drewN ?_ _ | refine blk_drew ?_ | refine blk_alloc ?_ _));refine blk_far ?_ NB634_642.out _;(with_reducible repeat (first | refine blk_drewN ?_ _ | refine blk_drew ?_ | refine blk_alloc ?_ _));refine blk_far ?_ NB634_642.out _;(with_reducible repeat (first | refine blk_drewN ?_ _ | refine blk_drew ?_ | refine blk_alloc ?_ _));exact BK634.out) Try.underlying29 rfl (by kernel_rfl)) rfl ?_
   exact ⟨_,rfl,by (with_reducible repeat (first | apply Kd.N_alloc | apply Kd.N_drewN | apply Kd.N_drew));exact Kd.N_mono (Kd.N_far (p:=⟨gb634,2,none⟩) (Kd.N_far (p:=⟨gb634,1,none⟩) (Kd.N_far (p:=⟨gb634,0,none⟩) (Kd.N_far (p:=⟨gb642,2,none⟩) (Kd.N_far (p:=⟨gb642,1,none⟩) (Kd.N_far (p:=⟨gb642,0,none⟩) (Kd.N_mono (Kd.N_mono HO640.out (fun k_ hk=>(⟨hk,hk.2⟩:_∧k_ ≠ gb642))) (fun k_ hk=>(⟨hk,hk.1.1.2.2⟩:_∧k_ ≠ gb634))) (fun _ hk=>hk.1.2) (.int .i64 t636)) (fun _ hk=>hk.1.2) (.int .i64 t637)) (fun _ hk=>hk.1.2) (.slice Ao17 t638.length co17)) (fun _ hk=>hk.2) (.int .i64 t636)) (fun _ hk=>hk.2) (.int .i64 t637)) (fun _ hk=>hk.2) (.slice Ao17 t638.length co17)) (fun _ hk=>hk.1.1.1.1),bB⟩
  ·replace c5:=Bool.eq_false_iff.mpr c5
   subst c5
   have H1:(some (0,0,([]:List (S29)),false)) = some (r1,r2,r3,r4):=by rw [if_neg (show ¬ (false = true) by decide)] at H;exact H
   clear H
   have H:=H1
   clear H1
   simp only [Option.some.injEq,Prod.mk.injEq] at H
   obtain ⟨rfl,rfl,rfl,rfl⟩:=H
   go_enter Try.func25,Try.ntmps25
   go_wp2_with (first | ((with_reducible refine gate_dst (N:=1) rfl ?_);refine box1 (N:=1) (cs:=#[.int .i64 a0_0,.int .i64 a0_1,.slice A0_2 l0_2.length c0_2]) (t:=29) ?_;intro gb633 hg w19 hbox hb;replace HO0_2:=aQ (Kd.V_below (Kd.V_elderB (nV HO0_2.out) gb633 (Nat.le_of_eq hg.symm)) hb);have BK633:=aQ (hbox);have GW633:=aQ ((by rw [hg];exact (below_size bB):w.heap.size ≤ gb633));have GE633:=aQ ((by rw [hg];exact (below_size bB):w.heap.size ≤ gb633));replace HB:=aQ (below_step bB hb);clear hb hbox hg) | ((with_reducible refine gate_dst (N:=2) rfl ?_);refine box1 (N:=2) (cs:=#[.int .i64 0,.int .i64 0,.slice none 0 0]) (t:=29) ?_;intro gb634 hg w20 hbox hb;replace HO0_2:=aQ (Kd.V_below (Kd.V_elderB (nV HO0_2.out) gb634 (Nat.le_of_eq hg.symm)) hb);have BK634:=aQ (hbox);have GW634:=aQ ((by rw [hg];exact (below_size bB):w.heap.size ≤ gb634));have GE634:=aQ ((by rw [hg];exact (below_size bB):w.heap.size ≤ gb634));replace HB:=aQ (below_step bB hb);have NB633_634:=aQ ((by rw [hg];exact Nat.ne_of_lt (blk_lt (g:=gb633) (o:=.cells #[.int .i64 a0_0,.int .i64 a0_1,.slice A0_2 l0_2.length c0_2] 29 (0,0)) (nB BK633.out)):gb633 ≠ gb634));have NB634_633:=aQ ((by rw [hg];exact Nat.ne_of_gt (blk_lt (g:=gb633) (o:=.cells #[.int .i64 a0_0,.int .i64 a0_1,.slice A0_2 l0_2.length c0_2] 29 (0,0)) (nB BK633.out)):gb634 ≠ gb633));replace BK633:=aQ (blk_below (g:=gb633) (o:=.cells #[.int .i64 a0_0,.int .i64 a0_1,.slice A0_2 l0_2.length c0_2] 29 (0,0)) (nB BK633.out) hb);clear hb hbox hg;have hnb21:=NB633_634.out;have hnc21:=NB634_633.out;have hcz22_0:w20.cell? ⟨gb633,0,none⟩ = some (.int .i64 a0_0):=(blk_cell BK633.out 0).trans rfl;have hcz22_1:w20.cell? ⟨gb633,1,none⟩ = some (.int .i64 a0_1):=(blk_cell BK633.out 1).trans rfl;have hcz22_2:w20.cell? ⟨gb633,2,none⟩ = some (.slice A0_2 l0_2.length c0_2):=(blk_cell BK633.out 2).trans rfl;have hfz22_0:=blk_frozen BK633.out 0;have hfz22_1:=blk_frozen BK633.out 1;have hfz22_2:=blk_frozen BK633.out 2) | ((with_reducible refine gate_callee (f:=16) rfl ?_);refine goesL_ (some 7) rfl rfl Try.func16 (by kernel_rfl) rfl #[.agg #[.int .i64 a0_0,.int .i64 a0_1,.slice A0_2 l0_2.length c0_2]] rfl mP ?_;(with_reducible refine (impl_ClockOk.calls k a0_0 a0_1 _ _ l0_2 true _ ?side1 ?side2 A2.out).mono ?_);(case side1=>repeat (first | exact (Kd.V_reads' HO0_2.out).2.2 | (with_reducible refine Kd.C_alloc ?_ _) | (with_reducible refine Kd.C_drewN ?_ _) | (with_reducible refine Kd.C_drew ?_)));(case side2=>exact (Kd.V_reads' HO0_2.out).2.1);rintro e w23 ⟨rfl,hb⟩;refine ⟨_,rfl,?_⟩;replace HO0_2:=aQ (Kd.V_below (nV HO0_2.out) hb);replace BK633:=aQ (blk_below (g:=gb633) (o:=.cells #[.int .i64 a0_0,.int .i64 a0_1,.slice A0_2 l0_2.length c0_2] 29 (0,0)) (nB BK633.out) hb);replace BK634:=aQ (blk_below (g:=gb634) (o:=.cells #[.int .i64 0,.int .i64 0,.slice none 0 0] 29 (0,0)) (nB BK634.out) hb);replace HB:=aQ (below_step bB hb);(try clear hb);have hcz24_0:w23.cell? ⟨gb633,0,none⟩ = some (.int .i64 a0_0):=(blk_cell BK633.out 0).trans rfl;have hcz24_1:w23.cell? ⟨gb633,1,none⟩ = some (.int .i64 a0_1):=(blk_cell BK633.out 1).trans rfl;have hcz24_2:w23.cell? ⟨gb633,2,none⟩ = some (.slice A0_2 l0_2.length c0_2):=(blk_cell BK633.out 2).trans rfl;have hfz24_0:=blk_frozen BK633.out 0;have hfz24_1:=blk_frozen BK633.out 1;have hfz24_2:=blk_frozen BK633.out 2) | ((with_reducible refine gate_callee (f:=49) rfl ?_);refine goesL_ (some 12) rfl rfl Try.func49 (by kernel_rfl) rfl #[.agg #[.int .i64 a0_0,.int .i64 a0_1,.slice A0_2 l0_2.length c0_2]] rfl mP ?_;(with_reducible refine (impl_pass.calls k a0_0 a0_1 (fun k_=>(((P0_2_ k_ ∨ w.heap.size ≤ k_)∧k_ ≠ gb633)∧k_ ≠ gb634)) _ _ l0_2 t636 t637 t638 false _ ?side1 A4.out).mono ?_);(case side1=>exact HO0_2.out);rintro e w25 ⟨v639,rfl,ho0,hb⟩;refine ⟨_,rfl,?_⟩;replace HO0_2:=aQ (Kd.V_elder' (nV HO0_2.out) (Kd.N_base ho0) hb);have HO640:=aQ (Kd.N_lower (Kd.N_mono (ok':=fun k_=>(P0_2_ k_ ∨ w.heap.size ≤ k_)∧k_ ≠ gb633∧k_ ≠ gb634) ho0 (fun k_ hk_=>⟨Or.elim hk_ (fun hs_=>hs_.1.1) (fun hn_=>(.inr (Nat.le_trans (below_size bB) hn_))),Or.elim hk_ (fun hs_=>hs_.1.2) (fun hn_=>(Kd.freshB (g:=gb633) (o:=.cells #[.int .i64 a0_0,.int .i64 a0_1,.slice A0_2 l0_2.length c0_2] 29 (0,0)) (nB BK633.out) k_ hn_)),Or.elim hk_ (fun hs_=>hs_.2) (fun hn_=>(Kd.freshB (g:=gb634) (o:=.cells #[.int .i64 0,.int .i64 0,.slice none 0 0] 29 (0,0)) (nB BK634.out) k_ hn_))⟩)) (below_size bB));replace BK633:=aQ (blk_below (g:=gb633) (o:=.cells #[.int .i64 a0_0,.int .i64 a0_1,.slice A0_2 l0_2.length c0_2] 29 (0,0)) (nB BK633.out) hb);replace BK634:=aQ (blk_below (g:=gb634) (o:=.cells #[.int .i64 0,.int .i64 0,.slice none 0 0] 29 (0,0)) (nB BK634.out) hb);replace HB:=aQ (below_step bB hb);(try clear hb);(try clear ho0)) | ((with_reducible refine gate_dst (N:=4) rfl ?_);refine box1 (N:=4) (cs:=#[.int .i64 0,.int .i64 0,.slice none 0 0]) (t:=29) ?_;intro gb642 hg w26 hbox hb;replace HO0_2:=aQ (Kd.V_below (Kd.V_elderB (nV HO0_2.out) gb642 (Nat.le_of_eq hg.symm)) hb);replace HO640:=aQ (Kd.N_below (Kd.N_elderB (nN HO640.out) gb642 (Nat.le_of_eq hg.symm)) hb);have BK642:=aQ (hbox);have GW642:=aQ ((by rw [hg];exact (below_size bB):w.heap.size ≤ gb642));have GE642:=aQ ((by rw [hg];exact (below_size bB):w.heap.size ≤ gb642));replace HB:=aQ (below_step bB hb);have NB633_642:=aQ ((by rw [hg];exact Nat.ne_of_lt (blk_lt (g:=gb633) (o:=.cells #[.int .i64 a0_0,.int .i64 a0_1,.slice A0_2 l0_2.length c0_2] 29 (0,0)) (nB BK633.out)):gb633 ≠ gb642));have NB642_633:=aQ ((by rw [hg];exact Nat.ne_of_gt (blk_lt (g:=gb633) (o:=.cells #[.int .i64 a0_0,.int .i64 a0_1,.slice A0_2 l0_2.length c0_2] 29 (0,0)) (nB BK633.out)):gb642 ≠ gb633));replace BK633:=aQ (blk_below (g:=gb633) (o:=.cells #[.int .i64 a0_0,.int .i64 a0_1,.slice A0_2 l0_2.length c0_2] 29 (0,0)) (nB BK633.out) hb);have NB634_642:=aQ ((by rw [hg];exact Nat.ne_of_lt (blk_lt (g:=gb634) (o:=.cells #[.int .i64 0,.int .i64 0,.slice none 0 0] 29 (0,0)) (nB BK634.out)):gb634 ≠ gb642));have NB642_634:=aQ ((by rw [hg];exact Nat.ne_of_gt (blk_lt (g:=gb634) (o:=.cells #[.int .i64 0,.int .i64 0,.slice none 0 0] 29 (0,0)) (nB BK634.out)):gb642 ≠ gb634));replace BK634:=aQ (blk_below (g:=gb634) (o:=.cells #[.int .i64 0,.int .i64 0,.slice none 0 0] 29 (0,0)) (nB BK634.out) hb);clear hb hbox hg;have hnb27:=NB642_633.out;have hnc27:=NB633_642.out;have hnb28:=NB642_634.out;have hnc28:=NB634_642.out;have hcz29_0:w26.cell? ⟨gb642,0,none⟩ = some (.int .i64 0):=(blk_cell BK642.out 0).trans rfl;have hcz29_1:w26.cell? ⟨gb642,1,none⟩ = some (.int .i64 0):=(blk_cell BK642.out 1).trans rfl;have hcz29_2:w26.cell? ⟨gb642,2,none⟩ = some (.slice none 0 0):=(blk_cell BK642.out 2).trans rfl;have hfz29_0:=blk_frozen BK642.out 0;have hfz29_1:=blk_frozen BK642.out 1;have hfz29_2:=blk_frozen BK642.out 2;obtain ⟨Ao30,co30,eo30⟩:=Kd.N_slice HO640.out;subst eo30;have hcz31_0:w26.cell? ⟨gb634,0,none⟩ = some (.int .i64 0):=(blk_cell BK634.out 0).trans rfl;have hcz31_1:w26.cell? ⟨gb634,1,none⟩ = some (.int .i64 0):=(blk_cell BK634.out 1).trans rfl;have hcz31_2:w26.cell? ⟨gb634,2,none⟩ = some (.slice none 0 0):=(blk_cell BK634.out 2).trans rfl;have hfz31_0:=blk_frozen BK634.out 0;have hfz31_1:=blk_frozen BK634.out 1;have hfz31_2:=blk_frozen BK634.out 2))
   refine bodyPost_ret (results_ct rfl _ _ gb634 29 #[.int .i64 0,.int .i64 0,.slice none 0 0] (0,0) _ rfl (by (with_reducible repeat (first | refine blk_drewN ?_ _ | refine blk_drew ?_ | refine blk_alloc ?_ _));refine blk_put (cs:=#[.int .i64 0,.int .i64 0,.slice none 0 0]) ?_ 2 _ rfl;(with_reducible repeat (first | refine blk_drewN ?_ _ | refine blk_drew ?_ | refine blk_alloc ?_ _));refine blk_put (cs:=#[.int .i64 0,.int .i64 0,.slice none 0 0]) ?_ 1 _ rfl;(with_reducible repeat (first | refine blk_drewN ?_ _ | refine blk_drew ?_ | refine blk_alloc ?_ _));refine blk_put (cs:=#[.int .i64 0,.int .i64 0,.slice none 0 0]) ?_ 0 _ rfl;(with_reducible repeat (first | refine blk_drewN ?_ _ | refine blk_drew ?_ | refine blk_alloc ?_ _));refine blk_far ?_ NB634_642.out _;(with_reducible repeat (first | refine blk_drewN ?_ _ | refine blk_drew ?_ | refine blk_alloc ?_ _));refine blk_far ?_ NB634_642.out _;(with_reducible repeat (first | refine blk_drewN ?_ _ | refine blk_drew ?_ | refine blk_alloc ?_ _));refine blk_far ?_ NB634_642.out _;(with_reducible repeat (first | refine blk_drewN ?_ _ | refine blk_drew ?_ | refine blk_alloc ?_ _));exact BK634.out) Try.underlying29 rfl (by kernel_rfl)) rfl ?_
   exact ⟨_,rfl,by first | exact Kd.R_nil _ _ _ _ _ | exact Kd.N_nil _ _ _ _ _ | exact Kd.V_nil _ _ _ _ _ | exact Kd.Q_nil _ _ _ _ _ | exact Kd.S_nil _ _ _ _ _,bB⟩
 ·replace c3:=Bool.eq_false_iff.mpr c3
  subst c3
  have H1:(some (0,0,([]:List (S29)),false)) = some (r1,r2,r3,r4):=by rw [if_neg (show ¬ (false = true) by decide)] at H;exact H
  clear H
  have H:=H1
  clear H1
  simp only [Option.some.injEq,Prod.mk.injEq] at H
  obtain ⟨rfl,rfl,rfl,rfl⟩:=H
  go_enter Try.func25,Try.ntmps25
  go_wp2_with (first | ((with_reducible refine gate_dst (N:=1) rfl ?_);refine box1 (N:=1) (cs:=#[.int .i64 a0_0,.int .i64 a0_1,.slice A0_2 l0_2.length c0_2]) (t:=29) ?_;intro gb633 hg w32 hbox hb;replace HO0_2:=aQ (Kd.V_below (Kd.V_elderB (nV HO0_2.out) gb633 (Nat.le_of_eq hg.symm)) hb);have BK633:=aQ (hbox);have GW633:=aQ ((by rw [hg];exact (below_size bB):w.heap.size ≤ gb633));have GE633:=aQ ((by rw [hg];exact (below_size bB):w.heap.size ≤ gb633));replace HB:=aQ (below_step bB hb);clear hb hbox hg) | ((with_reducible refine gate_dst (N:=2) rfl ?_);refine box1 (N:=2) (cs:=#[.int .i64 0,.int .i64 0,.slice none 0 0]) (t:=29) ?_;intro gb634 hg w33 hbox hb;replace HO0_2:=aQ (Kd.V_below (Kd.V_elderB (nV HO0_2.out) gb634 (Nat.le_of_eq hg.symm)) hb);have BK634:=aQ (hbox);have GW634:=aQ ((by rw [hg];exact (below_size bB):w.heap.size ≤ gb634));have GE634:=aQ ((by rw [hg];exact (below_size bB):w.heap.size ≤ gb634));replace HB:=aQ (below_step bB hb);have NB633_634:=aQ ((by rw [hg];exact Nat.ne_of_lt (blk_lt (g:=gb633) (o:=.cells #[.int .i64 a0_0,.int .i64 a0_1,.slice A0_2 l0_2.length c0_2] 29 (0,0)) (nB BK633.out)):gb633 ≠ gb634));have NB634_633:=aQ ((by rw [hg];exact Nat.ne_of_gt (blk_lt (g:=gb633) (o:=.cells #[.int .i64 a0_0,.int .i64 a0_1,.slice A0_2 l0_2.length c0_2] 29 (0,0)) (nB BK633.out)):gb634 ≠ gb633));replace BK633:=aQ (blk_below (g:=gb633) (o:=.cells #[.int .i64 a0_0,.int .i64 a0_1,.slice A0_2 l0_2.length c0_2] 29 (0,0)) (nB BK633.out) hb);clear hb hbox hg;have hnb34:=NB633_634.out;have hnc34:=NB634_633.out;have hcz35_0:w33.cell? ⟨gb633,0,none⟩ = some (.int .i64 a0_0):=(blk_cell BK633.out 0).trans rfl;have hcz35_1:w33.cell? ⟨gb633,1,none⟩ = some (.int .i64 a0_1):=(blk_cell BK633.out 1).trans rfl;have hcz35_2:w33.cell? ⟨gb633,2,none⟩ = some (.slice A0_2 l0_2.length c0_2):=(blk_cell BK633.out 2).trans rfl;have hfz35_0:=blk_frozen BK633.out 0;have hfz35_1:=blk_frozen BK633.out 1;have hfz35_2:=blk_frozen BK633.out 2) | ((with_reducible refine gate_callee (f:=16) rfl ?_);refine goesL_ (some 7) rfl rfl Try.func16 (by kernel_rfl) rfl #[.agg #[.int .i64 a0_0,.int .i64 a0_1,.slice A0_2 l0_2.length c0_2]] rfl mP ?_;(with_reducible refine (impl_ClockOk.calls k a0_0 a0_1 _ _ l0_2 false _ ?side1 ?side2 A2.out).mono ?_);(case side1=>repeat (first | exact (Kd.V_reads' HO0_2.out).2.2 | (with_reducible refine Kd.C_alloc ?_ _) | (with_reducible refine Kd.C_drewN ?_ _) | (with_reducible refine Kd.C_drew ?_)));(case side2=>exact (Kd.V_reads' HO0_2.out).2.1);rintro e w36 ⟨rfl,hb⟩;refine ⟨_,rfl,?_⟩;replace HO0_2:=aQ (Kd.V_below (nV HO0_2.out) hb);replace BK633:=aQ (blk_below (g:=gb633) (o:=.cells #[.int .i64 a0_0,.int .i64 a0_1,.slice A0_2 l0_2.length c0_2] 29 (0,0)) (nB BK633.out) hb);replace BK634:=aQ (blk_below (g:=gb634) (o:=.cells #[.int .i64 0,.int .i64 0,.slice none 0 0] 29 (0,0)) (nB BK634.out) hb);replace HB:=aQ (below_step bB hb);(try clear hb);have hcz37_0:w36.cell? ⟨gb634,0,none⟩ = some (.int .i64 0):=(blk_cell BK634.out 0).trans rfl;have hcz37_1:w36.cell? ⟨gb634,1,none⟩ = some (.int .i64 0):=(blk_cell BK634.out 1).trans rfl;have hcz37_2:w36.cell? ⟨gb634,2,none⟩ = some (.slice none 0 0):=(blk_cell BK634.out 2).trans rfl;have hfz37_0:=blk_frozen BK634.out 0;have hfz37_1:=blk_frozen BK634.out 1;have hfz37_2:=blk_frozen BK634.out 2))
  refine bodyPost_ret (results_ct rfl _ _ gb634 29 #[.int .i64 0,.int .i64 0,.slice none 0 0] (0,0) _ rfl bP Try.underlying29 rfl (by kernel_rfl)) rfl ?_
  exact ⟨_,rfl,by first | exact Kd.R_nil _ _ _ _ _ | exact Kd.N_nil _ _ _ _ _ | exact Kd.V_nil _ _ _ _ _ | exact Kd.Q_nil _ _ _ _ _ | exact Kd.S_nil _ _ _ _ _,bB⟩
mutual
def laws_FnClockSteps.j0:Nat → List (S44) → Bool → Int → Int → List (S29) → Option (Bool)
 | 0,_,_,_,_,_=>none
 | k + 1,x4,x38,x649000,x649001,x649002=>if x38 = true then (some false) else ((impl_ClockPass.f k x649000 x649001 x649002).bind fun bt658=>((impl_ClockSteps.f k bt658.1 bt658.2.1 bt658.2.2.1).bind fun bt665=>(laws_FnClockSteps.l0 k x4 bt658.2.2.2 bt665.1 0)))
def laws_FnClockSteps.l0:Nat → List (S44) → Bool → List (S44) → Int → Option (Bool)
 | 0,_,_,_,_=>none
 | k + 1,x4,x9,x10,x12=>if x12 < (x4.length:Int) then (if 0 ≤ x12 then (if ((rd_T44 x4 x12).f0) = 0 then (laws_FnClockSteps.j2 k x4 x9 x10 x12 x9) else (laws_FnClockSteps.j2 k x4 x9 x10 x12 false)) else (none)) else (some true)
def laws_FnClockSteps.j2:Nat → List (S44) → Bool → List (S44) → Int → Bool → Option (Bool)
 | 0,_,_,_,_,_=>none
 | k + 1,x4,x9,x10,x12,x63=>if x63 = true then (some false) else (laws_FnClockSteps.l1 k x4 x9 x10 x12 false 0)
def laws_FnClockSteps.l1:Nat → List (S44) → Bool → List (S44) → Int → Bool → Int → Option (Bool)
 | 0,_,_,_,_,_,_=>none
 | k + 1,x4,x9,x10,x12,x13,x14=>if x14 < (x10.length:Int) then (if x13 = true then (laws_FnClockSteps.l1 k x4 x9 x10 x12 true (wrap64 (x14 + 1))) else (if 0 ≤ x14 then (if 0 ≤ x12 then (if x12 < (x4.length:Int) then (laws_FnClockSteps.l1 k x4 x9 x10 x12 (((rd_T44 x10 x14).f0) == ((rd_T44 x4 x12).f0)) (wrap64 (x14 + 1))) else (none)) else (none)) else (none))) else (if x9 = true then (if x13 = true then (laws_FnClockSteps.l0 k x4 x9 x10 (wrap64 (x12 + 1))) else (some false)) else (laws_FnClockSteps.l0 k x4 x9 x10 (wrap64 (x12 + 1))))
end
def laws_FnClockSteps.f (k:Nat) (l0:List Int):Option (Bool):=if (l0.length:Int) > 1048576 then (some true) else ((spec_DrawClockSteps.f k l0).bind fun bt643=>((impl_ClockSteps.f k bt643.1 bt643.2.1 bt643.2.2).bind fun bt649=>((spec_ClockSteps.f k bt643.1 bt643.2.1 bt643.2.2).bind fun bt653=>((laws_mnTicks.f k bt649.1 bt653.1).bind fun t657=>(if t657 = true then (laws_FnClockSteps.j0 k bt649.1 (bt649.2 != bt653.2) bt643.1 bt643.2.1 bt643.2.2) else (laws_FnClockSteps.j0 k bt649.1 true bt643.1 bt643.2.1 bt643.2.2))))))
theorem laws_FnClockSteps.mono_l:∀ k,(∀ y0 y1 y2 y3 y4,LeO (laws_FnClockSteps.j0 k y0 y1 y2 y3 y4) (laws_FnClockSteps.j0 (k + 1) y0 y1 y2 y3 y4))∧(∀ y0 y1 y2 y3,LeO (laws_FnClockSteps.l0 k y0 y1 y2 y3) (laws_FnClockSteps.l0 (k + 1) y0 y1 y2 y3))∧(∀ y0 y1 y2 y3 y4,LeO (laws_FnClockSteps.j2 k y0 y1 y2 y3 y4) (laws_FnClockSteps.j2 (k + 1) y0 y1 y2 y3 y4))∧(∀ y0 y1 y2 y3 y4 y5,LeO (laws_FnClockSteps.l1 k y0 y1 y2 y3 y4 y5) (laws_FnClockSteps.l1 (k + 1) y0 y1 y2 y3 y4 y5))
 | 0=>⟨fun _ _ _ _ _ r h=>by simp [laws_FnClockSteps.j0] at h,fun _ _ _ _ r h=>by simp [laws_FnClockSteps.l0] at h,fun _ _ _ _ _ r h=>by simp [laws_FnClockSteps.j2] at h,fun _ _ _ _ _ _ r h=>by simp [laws_FnClockSteps.l1] at h⟩
 | k + 1=>by
  obtain ⟨ih0,ih1,ih2,ih3⟩:=laws_FnClockSteps.mono_l k
  refine ⟨?_,?_,?_,?_⟩
  ·intro y0 y1 y2 y3 y4
   unfold laws_FnClockSteps.j0
   repeat' first
   | (with_reducible exact ih0 _ _ _ _ _)
   | (with_reducible exact ih1 _ _ _ _)
   | (with_reducible exact ih2 _ _ _ _ _)
   | (with_reducible exact ih3 _ _ _ _ _ _)
   | (with_reducible exact impl_ClockPass.mono _ _ _ _)
   | (with_reducible exact impl_ClockSteps.mono _ _ _ _)
   | (with_reducible exact laws_mnTicks.mono _ _ _)
   | (with_reducible exact spec_ClockSteps.mono _ _ _ _)
   | (with_reducible exact spec_DrawClockSteps.mono _ _)
   | (with_reducible exact LeO.refl _)
   | (with_reducible exact LeO.none _)
   | (with_reducible refine LeO.ite ?_ ?_)
   | (with_reducible refine LeO.bind ?_ (fun _=>?_))
   | exact ih0 _ _ _ _ _
   | exact ih1 _ _ _ _
   | exact ih2 _ _ _ _ _
   | exact ih3 _ _ _ _ _ _
   | exact impl_ClockPass.mono _ _ _ _
   | exact impl_ClockSteps.mono _ _ _ _
   | exact laws_mnTicks.mono _ _ _
   | exact spec_ClockSteps.mono _ _ _ _
   | exact spec_DrawClockSteps.mono _ _
   | exact LeO.none _
   | refine LeO.ite ?_ ?_
   | refine LeO.bind ?_ (fun _=>?_)
  ·intro y0 y1 y2 y3
   unfold laws_FnClockSteps.l0
   repeat' first
   | (with_reducible exact ih0 _ _ _ _ _)
   | (with_reducible exact ih1 _ _ _ _)
   | (with_reducible exact ih2 _ _ _ _ _)
   | (with_reducible exact ih3 _ _ _ _ _ _)
   | (with_reducible exact impl_ClockPass.mono _ _ _ _)
   | (with_reducible exact impl_ClockSteps.mono _ _ _ _)
   | (with_reducible exact laws_mnTicks.mono _ _ _)
   | (with_reducible exact spec_ClockSteps.mono _ _ _ _)
   | (with_reducible exact spec_DrawClockSteps.mono _ _)
   | (with_reducible exact LeO.refl _)
   | (with_reducible exact LeO.none _)
   | (with_reducible refine LeO.ite ?_ ?_)
   | (with_reducible refine LeO.bind ?_ (fun _=>?_))
   | exact ih0 _ _ _ _ _
   | exact ih1 _ _ _ _
   | exact ih2 _ _ _ _ _
   | exact ih3 _ _ _ _ _ _
   | exact impl_ClockPass.mono _ _ _ _
   | exact impl_ClockSteps.mono _ _ _ _
   | exact laws_mnTicks.mono _ _ _
   | exact spec_ClockSteps.mono _ _ _ _
   | exact spec_DrawClockSteps.mono _ _
   | exact LeO.none _
   | refine LeO.ite ?_ ?_
   | refine LeO.bind ?_ (fun _=>?_)
  ·intro y0 y1 y2 y3 y4
   unfold laws_FnClockSteps.j2
   repeat' first
   | (with_reducible exact ih0 _ _ _ _ _)
   | (with_reducible exact ih1 _ _ _ _)
   | (with_reducible exact ih2 _ _ _ _ _)
   | (with_reducible exact ih3 _ _ _ _ _ _)
   | (with_reducible exact impl_ClockPass.mono _ _ _ _)
   | (with_reducible exact impl_ClockSteps.mono _ _ _ _)
   | (with_reducible exact laws_mnTicks.mono _ _ _)
   | (with_reducible exact spec_ClockSteps.mono _ _ _ _)
   | (with_reducible exact spec_DrawClockSteps.mono _ _)
   | (with_reducible exact LeO.refl _)
   | (with_reducible exact LeO.none _)
   | (with_reducible refine LeO.ite ?_ ?_)
   | (with_reducible refine LeO.bind ?_ (fun _=>?_))
   | exact ih0 _ _ _ _ _
   | exact ih1 _ _ _ _
   | exact ih2 _ _ _ _ _
   | exact ih3 _ _ _ _ _ _
   | exact impl_ClockPass.mono _ _ _ _
   | exact impl_ClockSteps.mono _ _ _ _
   | exact laws_mnTicks.mono _ _ _
   | exact spec_ClockSteps.mono _ _ _ _
   | exact spec_DrawClockSteps.mono _ _
   | exact LeO.none _
   | refine LeO.ite ?_ ?_
   | refine LeO.bind ?_ (fun _=>?_)
  ·intro y0 y1 y2 y3 y4 y5
   unfold laws_FnClockSteps.l1
   repeat' first
   | (with_reducible exact ih0 _ _ _ _ _)
   | (with_reducible exact ih1 _ _ _ _)
   | (with_reducible exact ih2 _ _ _ _ _)
   | (with_reducible exact ih3 _ _ _ _ _ _)
   | (with_reducible exact impl_ClockPass.mono _ _ _ _)
   | (with_reducible exact impl_ClockSteps.mono _ _ _ _)
   | (with_reducible exact laws_mnTicks.mono _ _ _)
   | (with_reducible exact spec_ClockSteps.mono _ _ _ _)
   | (with_reducible exact spec_DrawClockSteps.mono _ _)
   | (with_reducible exact LeO.refl _)
   | (with_reducible exact LeO.none _)
   | (with_reducible refine LeO.ite ?_ ?_)
   | (with_reducible refine LeO.bind ?_ (fun _=>?_))
   | exact ih0 _ _ _ _ _
   | exact ih1 _ _ _ _
   | exact ih2 _ _ _ _ _
   | exact ih3 _ _ _ _ _ _
   | exact impl_ClockPass.mono _ _ _ _
   | exact impl_ClockSteps.mono _ _ _ _
   | exact laws_mnTicks.mono _ _ _
   | exact spec_ClockSteps.mono _ _ _ _
   | exact spec_DrawClockSteps.mono _ _
   | exact LeO.none _
   | refine LeO.ite ?_ ?_
   | refine LeO.bind ?_ (fun _=>?_)
theorem laws_FnClockSteps.mono:∀ a0 k,LeO (laws_FnClockSteps.f k a0) (laws_FnClockSteps.f (k + 1) a0):=by
 intro a0 k
 obtain ⟨ih0,ih1,ih2,ih3⟩:=laws_FnClockSteps.mono_l k
 unfold laws_FnClockSteps.f
 repeat' first
   | (with_reducible exact ih0 _ _ _ _ _)
   | (with_reducible exact ih1 _ _ _ _)
   | (with_reducible exact ih2 _ _ _ _ _)
   | (with_reducible exact ih3 _ _ _ _ _ _)
   | (with_reducible exact impl_ClockPass.mono _ _ _ _)
   | (with_reducible exact impl_ClockSteps.mono _ _ _ _)
   | (with_reducible exact laws_mnTicks.mono _ _ _)
   | (with_reducible exact spec_ClockSteps.mono _ _ _ _)
   | (with_reducible exact spec_DrawClockSteps.mono _ _)
   | (with_reducible exact LeO.refl _)
   | (with_reducible exact LeO.none _)
   | (with_reducible refine LeO.ite ?_ ?_)
   | (with_reducible refine LeO.bind ?_ (fun _=>?_))
   | exact ih0 _ _ _ _ _
   | exact ih1 _ _ _ _
   | exact ih2 _ _ _ _ _
   | exact ih3 _ _ _ _ _ _
   | exact impl_ClockPass.mono _ _ _ _
   | exact impl_ClockSteps.mono _ _ _ _
   | exact laws_mnTicks.mono _ _ _
   | exact spec_ClockSteps.mono _ _ _ _
   | exact spec_DrawClockSteps.mono _ _
   | exact LeO.none _
   | refine LeO.ite ?_ ?_
   | refine LeO.bind ?_ (fun _=>?_)
set_option maxHeartbeats 8000000 in
set_option maxRecDepth 100000 in
theorem laws_FnClockSteps.calls (k:Nat) (A0:Option Addr) (c0:Nat) (l0:List Int) (r:Bool) (w:World) (hr0:Kd.C (Kd.int .u8) w A0 l0.length l0) (hc0:l0.length ≤ c0) (h:laws_FnClockSteps.f k l0 = some r) :
  Calls Try.prog 6 #[.slice A0 l0.length c0] w fun e w'=>e = .returned (.bool r)∧Below w.heap.size w w':=by
 have hu29:=Try.underlying29
 have HR0:=aQ hr0
 have HC0:=aQ hc0
 clear hr0 hc0
 have HB:=aQ (Below.refl w.heap.size w)
 have H:(if (l0.length:Int) > 1048576 then (some true) else ((spec_DrawClockSteps.f k l0).bind fun bt643=>((impl_ClockSteps.f k bt643.1 bt643.2.1 bt643.2.2).bind fun bt649=>((spec_ClockSteps.f k bt643.1 bt643.2.1 bt643.2.2).bind fun bt653=>((laws_mnTicks.f k bt649.1 bt653.1).bind fun t657=>(if t657 = true then (laws_FnClockSteps.j0 k bt649.1 (bt649.2 != bt653.2) bt643.1 bt643.2.1 bt643.2.2) else (laws_FnClockSteps.j0 k bt649.1 true bt643.1 bt643.2.1 bt643.2.2))))))) = some r:=h
 clear h
 by_cases c2:(l0.length:Int) > 1048576
 ·rw [if_pos c2] at H
  have c2b0:decide (1048576 < (l0.length:Int)) = true:=decide_eq_true c2
  have c2b1:decide (1048576 < l0.length) = true:=decide_eq_true (by omega)
  clear c2
  obtain rfl:=Option.some.inj H
  go_enter Try.func6,Try.ntmps6
  go_wp2
  repeat (go_quiet (fail);try go_wp2)
  go_ret
  exact ⟨eW,bB⟩
 rw [if_neg c2] at H
 have c2b0:decide (1048576 < (l0.length:Int)) = false:=decide_eq_false c2
 have c2b1:decide (1048576 < l0.length) = false:=decide_eq_false (by omega)
 clear c2
 obtain ⟨⟨t643,t644,t645⟩,A3,H⟩:=bQ H
 dsimp only at H
 obtain ⟨⟨t649,t652⟩,A4,H⟩:=bQ H
 dsimp only at H
 obtain ⟨⟨t653,t656⟩,A5,H⟩:=bQ H
 dsimp only at H
 have HC6:=aQ H
 clear H
 go_enter Try.func6,Try.ntmps6
 go_upto_region 6 with (first | (go_at_call 22;(with_reducible refine (spec_DrawClockSteps.calls k _ _ l0 t643 t644 t645 _ ?side1 ?side2 A3.out).mono ?_);(case side1=>repeat (first | exact HR0.out | (with_reducible refine Kd.C_alloc ?_ _) | (with_reducible refine Kd.C_drewN ?_ _) | (with_reducible refine Kd.C_drew ?_)));(case side2=>exact HC0.out);rintro e w7 ⟨v646,rfl,ho0,hb⟩;have HO647:=aQ (Kd.N_lower (Kd.N_mono (ok':=fun k_=>True) ho0 (fun k_ hk_=>trivial)) (below_size bB));replace HB:=aQ (below_step bB hb);(try clear hb);(try clear ho0)) | ((with_reducible refine gate_dst (N:=3) rfl ?_);refine box1 (N:=3) (cs:=#[.int .i64 0,.int .i64 0,.slice none 0 0]) (t:=29) ?_;intro gb648 hg w8 hbox hb;replace HO647:=aQ (Kd.N_below (Kd.N_elderB (nN HO647.out) gb648 (Nat.le_of_eq hg.symm)) hb);have BK648:=aQ (hbox);have GW648:=aQ ((by rw [hg];exact (below_size bB):w.heap.size ≤ gb648));have GE648:=aQ ((by rw [hg];exact (below_size bB):w.heap.size ≤ gb648));replace HB:=aQ (below_step bB hb);clear hb hbox hg;have hcz9_0:w8.cell? ⟨gb648,0,none⟩ = some (.int .i64 0):=(blk_cell BK648.out 0).trans rfl;have hcz9_1:w8.cell? ⟨gb648,1,none⟩ = some (.int .i64 0):=(blk_cell BK648.out 1).trans rfl;have hcz9_2:w8.cell? ⟨gb648,2,none⟩ = some (.slice none 0 0):=(blk_cell BK648.out 2).trans rfl;have hfz9_0:=blk_frozen BK648.out 0;have hfz9_1:=blk_frozen BK648.out 1;have hfz9_2:=blk_frozen BK648.out 2;obtain ⟨Ao10,co10,eo10⟩:=Kd.N_slice HO647.out;subst eo10) | ((with_reducible refine gate_store (t:=29) (p:=3) rfl ?_);(try (rw [drewN_self w8];generalize hq_:World.drewN w8 _ = w8;have n0_:=aQ (Kd.N_at hq_ HO647.out);have n1_:=aQ (blk_at hq_ BK648.out);have n2_:=aQ (below_at hq_ HB.out);clear hq_ HO647 BK648 HB;have HO647:=n0_;have BK648:=n1_;have HB:=n2_;clear n0_ n1_ n2_));refine store_event (t:=29) (p:=3) (v:=?vo_w11) (w1:=(((w8.setCell ⟨gb648,0,none⟩ (.int .i64 t643)).setCell ⟨gb648,1,none⟩ (.int .i64 t644)).setCell ⟨gb648,2,none⟩ (.slice Ao10 t645.length co10))) ?hg ?ho ?hn ?hr ?_;(case ho=>rfl);(case hg=>rfl);(case hn=>rfl);(case hr=>first | (go_simp;done) | (go_simp;rfl));intro w11 hw;have n0_:Aside0 (Kd.N k29 29 w11 w.heap.size (fun k_=>k_ ≠ gb648) (.slice Ao10 t645.length co10) t645):=⟨(by rw [hw];exact (Kd.N_mono (nFN (g:=gb648) HO647.out (fun k_ hk=>hk.2)) (fun _ hk=>hk.2)))⟩;have n1_:Aside0 (w11.heap[gb648]? = some (.cells #[.int .i64 t643,.int .i64 t644,.slice Ao10 t645.length co10] 29 (0,0))):=⟨(by rw [hw];exact bP)⟩;have n2_:Aside0 (Below w.heap.size w w11):=⟨(by rw [hw];exact bB)⟩;clear hw;clear HO647;clear BK648;clear HB;have HO647:=n0_;have BK648:=n1_;have HB:=n2_;clear n0_ n1_ n2_;have hcz12_0:w11.cell? ⟨gb648,0,none⟩ = some (.int .i64 t643):=(blk_cell BK648.out 0).trans rfl;have hcz12_1:w11.cell? ⟨gb648,1,none⟩ = some (.int .i64 t644):=(blk_cell BK648.out 1).trans rfl;have hcz12_2:w11.cell? ⟨gb648,2,none⟩ = some (.slice Ao10 t645.length co10):=(blk_cell BK648.out 2).trans rfl;have hfz12_0:=blk_frozen BK648.out 0;have hfz12_1:=blk_frozen BK648.out 1;have hfz12_2:=blk_frozen BK648.out 2) | (go_at_call 19;(with_reducible refine (impl_ClockSteps.calls k t643 t644 (fun k_=>k_ ≠ gb648) _ _ t645 t649 t652 _ ?side1 A4.out).mono ?_);(case side1=>exact Kd.N_V (HO647.out));rintro e w13 ⟨v650,rfl,ho0,hb⟩;replace HO647:=aQ (Kd.N_elder' (nN HO647.out) (Kd.N_base ho0) hb);have HO651:=aQ (Kd.N_lower (Kd.N_mono (ok':=fun k_=>k_ ≠ gb648) ho0 (fun k_ hk_=>Or.elim hk_ (fun hs_=>hs_) (fun hn_=>(Kd.freshB (g:=gb648) (o:=.cells #[.int .i64 t643,.int .i64 t644,.slice Ao10 t645.length co10] 29 (0,0)) (nB BK648.out) k_ hn_)))) (below_size bB));replace BK648:=aQ (blk_below (g:=gb648) (o:=.cells #[.int .i64 t643,.int .i64 t644,.slice Ao10 t645.length co10] 29 (0,0)) (nB BK648.out) hb);replace HB:=aQ (below_step bB hb);(try clear hb);(try clear ho0);have hcz14_0:w13.cell? ⟨gb648,0,none⟩ = some (.int .i64 t643):=(blk_cell BK648.out 0).trans rfl;have hcz14_1:w13.cell? ⟨gb648,1,none⟩ = some (.int .i64 t644):=(blk_cell BK648.out 1).trans rfl;have hcz14_2:w13.cell? ⟨gb648,2,none⟩ = some (.slice Ao10 t645.length co10):=(blk_cell BK648.out 2).trans rfl;have hfz14_0:=blk_frozen BK648.out 0;have hfz14_1:=blk_frozen BK648.out 1;have hfz14_2:=blk_frozen BK648.out 2) | (go_at_call 23;(with_reducible refine (spec_ClockSteps.calls k t643 t644 (fun k_=>(k_ ≠ gb648∧some k_ ≠ (v650:Value).ownBlock)) _ _ t645 t653 t656 _ ?side1 A5.out).mono ?_);(case side1=>exact Kd.N_V (HO647.out));rintro e w15 ⟨v654,rfl,ho0,hb⟩;replace HO647:=aQ (Kd.N_elder' (nN HO647.out) (Kd.N_base ho0) hb);have HO655:=aQ (Kd.N_lower (Kd.N_mono (ok':=fun k_=>some k_ ≠ (v650:Value).ownBlock∧k_ ≠ gb648) ho0 (fun k_ hk_=>⟨Or.elim hk_ (fun hs_=>hs_.2) (fun hn_=>(Kd.fresh' (Kd.N_lt (nN HO651.out)) k_ hn_)),Or.elim hk_ (fun hs_=>hs_.1) (fun hn_=>(Kd.freshB (g:=gb648) (o:=.cells #[.int .i64 t643,.int .i64 t644,.slice Ao10 t645.length co10] 29 (0,0)) (nB BK648.out) k_ hn_))⟩)) (below_size bB));replace HO651:=aQ (Kd.N_elder' (nN HO651.out) (Kd.N_base ho0) hb);replace BK648:=aQ (blk_below (g:=gb648) (o:=.cells #[.int .i64 t643,.int .i64 t644,.slice Ao10 t645.length co10] 29 (0,0)) (nB BK648.out) hb);replace HB:=aQ (below_step bB hb);(try clear hb);(try clear ho0)))
 repeat (go_quiet (first | (go_at_call 22;(with_reducible refine (spec_DrawClockSteps.calls k _ _ l0 t643 t644 t645 _ ?side1 ?side2 A3.out).mono ?_);(case side1=>repeat (first | exact HR0.out | (with_reducible refine Kd.C_alloc ?_ _) | (with_reducible refine Kd.C_drewN ?_ _) | (with_reducible refine Kd.C_drew ?_)));(case side2=>exact HC0.out);rintro e w7 ⟨v646,rfl,ho0,hb⟩;have HO647:=aQ (Kd.N_lower (Kd.N_mono (ok':=fun k_=>True) ho0 (fun k_ hk_=>trivial)) (below_size bB));replace HB:=aQ (below_step bB hb);(try clear hb);(try clear hb2);(try clear hk);(try clear hi);(try clear ho0)) | ((with_reducible refine gate_dst (N:=3) rfl ?_);refine box1 (N:=3) (cs:=#[.int .i64 0,.int .i64 0,.slice none 0 0]) (t:=29) ?_;intro gb648 hg w8 hbox hb;replace HO647:=aQ (Kd.N_below (Kd.N_elderB (nN HO647.out) gb648 (Nat.le_of_eq hg.symm)) hb);have BK648:=aQ (hbox);have GW648:=aQ ((by rw [hg];exact (below_size bB):w.heap.size ≤ gb648));have GE648:=aQ ((by rw [hg];exact (below_size bB):w.heap.size ≤ gb648));replace HB:=aQ (below_step bB hb);clear hb hbox hg;have hcz9_0:w8.cell? ⟨gb648,0,none⟩ = some (.int .i64 0):=(blk_cell BK648.out 0).trans rfl;have hcz9_1:w8.cell? ⟨gb648,1,none⟩ = some (.int .i64 0):=(blk_cell BK648.out 1).trans rfl;have hcz9_2:w8.cell? ⟨gb648,2,none⟩ = some (.slice none 0 0):=(blk_cell BK648.out 2).trans rfl;have hfz9_0:=blk_frozen BK648.out 0;have hfz9_1:=blk_frozen BK648.out 1;have hfz9_2:=blk_frozen BK648.out 2;obtain ⟨Ao10,co10,eo10⟩:=Kd.N_slice HO647.out;subst eo10) | ((with_reducible refine gate_store (t:=29) (p:=3) rfl ?_);(try (rw [drewN_self w8];generalize hq_:World.drewN w8 _ = w8;have n0_:=aQ (Kd.N_at hq_ HO647.out);have n1_:=aQ (blk_at hq_ BK648.out);have n2_:=aQ (below_at hq_ HB.out);clear hq_ HO647 BK648 HB;have HO647:=n0_;have BK648:=n1_;have HB:=n2_;clear n0_ n1_ n2_));refine store_event (t:=29) (p:=3) (v:=?vo_w11) (w1:=(((w8.setCell ⟨gb648,0,none⟩ (.int .i64 t643)).setCell ⟨gb648,1,none⟩ (.int .i64 t644)).setCell ⟨gb648,2,none⟩ (.slice Ao10 t645.length co10))) ?hg ?ho ?hn ?hr ?_;(case ho=>rfl);(case hg=>rfl);(case hn=>rfl);(case hr=>first | (go_simp;done) | (go_simp;rfl));intro w11 hw;have n0_:Aside0 (Kd.N k29 29 w11 w.heap.size (fun k_=>k_ ≠ gb648) (.slice Ao10 t645.length co10) t645):=⟨(by rw [hw];exact (Kd.N_mono (nFN (g:=gb648) HO647.out (fun k_ hk=>hk.2)) (fun _ hk=>hk.2)))⟩;have n1_:Aside0 (w11.heap[gb648]? = some (.cells #[.int .i64 t643,.int .i64 t644,.slice Ao10 t645.length co10] 29 (0,0))):=⟨(by rw [hw];exact bP)⟩;have n2_:Aside0 (Below w.heap.size w w11):=⟨(by rw [hw];exact bB)⟩;clear hw;clear HO647;clear BK648;clear HB;have HO647:=n0_;have BK648:=n1_;have HB:=n2_;clear n0_ n1_ n2_;have hcz12_0:w11.cell? ⟨gb648,0,none⟩ = some (.int .i64 t643):=(blk_cell BK648.out 0).trans rfl;have hcz12_1:w11.cell? ⟨gb648,1,none⟩ = some (.int .i64 t644):=(blk_cell BK648.out 1).trans rfl;have hcz12_2:w11.cell? ⟨gb648,2,none⟩ = some (.slice Ao10 t645.length co10):=(blk_cell BK648.out 2).trans rfl;have hfz12_0:=blk_frozen BK648.out 0;have hfz12_1:=blk_frozen BK648.out 1;have hfz12_2:=blk_frozen BK648.out 2) | (go_at_call 19;(with_reducible refine (impl_ClockSteps.calls k t643 t644 (fun k_=>k_ ≠ gb648) _ _ t645 t649 t652 _ ?side1 A4.out).mono ?_);(case side1=>exact Kd.N_V (HO647.out));rintro e w13 ⟨v650,rfl,ho0,hb⟩;replace HO647:=aQ (Kd.N_elder' (nN HO647.out) (Kd.N_base ho0) hb);have HO651:=aQ (Kd.N_lower (Kd.N_mono (ok':=fun k_=>k_ ≠ gb648) ho0 (fun k_ hk_=>Or.elim hk_ (fun hs_=>hs_) (fun hn_=>(Kd.freshB (g:=gb648) (o:=.cells #[.int .i64 t643,.int .i64 t644,.slice Ao10 t645.length co10] 29 (0,0)) (nB BK648.out) k_ hn_)))) (below_size bB));replace BK648:=aQ (blk_below (g:=gb648) (o:=.cells #[.int .i64 t643,.int .i64 t644,.slice Ao10 t645.length co10] 29 (0,0)) (nB BK648.out) hb);replace HB:=aQ (below_step bB hb);(try clear hb);(try clear hb2);(try clear hk);(try clear hi);(try clear ho0);have hcz14_0:w13.cell? ⟨gb648,0,none⟩ = some (.int .i64 t643):=(blk_cell BK648.out 0).trans rfl;have hcz14_1:w13.cell? ⟨gb648,1,none⟩ = some (.int .i64 t644):=(blk_cell BK648.out 1).trans rfl;have hcz14_2:w13.cell? ⟨gb648,2,none⟩ = some (.slice Ao10 t645.length co10):=(blk_cell BK648.out 2).trans rfl;have hfz14_0:=blk_frozen BK648.out 0;have hfz14_1:=blk_frozen BK648.out 1;have hfz14_2:=blk_frozen BK648.out 2) | (go_at_call 23;(with_reducible refine (spec_ClockSteps.calls k t643 t644 (fun k_=>(k_ ≠ gb648∧some k_ ≠ (v650:Value).ownBlock)) _ _ t645 t653 t656 _ ?side1 A5.out).mono ?_);(case side1=>exact Kd.N_V (HO647.out));rintro e w15 ⟨v654,rfl,ho0,hb⟩;replace HO647:=aQ (Kd.N_elder' (nN HO647.out) (Kd.N_base ho0) hb);have HO655:=aQ (Kd.N_lower (Kd.N_mono (ok':=fun k_=>some k_ ≠ (v650:Value).ownBlock∧k_ ≠ gb648) ho0 (fun k_ hk_=>⟨Or.elim hk_ (fun hs_=>hs_.2) (fun hn_=>(Kd.fresh' (Kd.N_lt (nN HO651.out)) k_ hn_)),Or.elim hk_ (fun hs_=>hs_.1) (fun hn_=>(Kd.freshB (g:=gb648) (o:=.cells #[.int .i64 t643,.int .i64 t644,.slice Ao10 t645.length co10] 29 (0,0)) (nB BK648.out) k_ hn_))⟩)) (below_size bB));replace HO651:=aQ (Kd.N_elder' (nN HO651.out) (Kd.N_base ho0) hb);replace BK648:=aQ (blk_below (g:=gb648) (o:=.cells #[.int .i64 t643,.int .i64 t644,.slice Ao10 t645.length co10] 29 (0,0)) (nB BK648.out) hb);replace HB:=aQ (below_step bB hb);(try clear hb);(try clear hb2);(try clear hk);(try clear hi);(try clear ho0)));go_upto_region 6 with (first | (go_at_call 22;(with_reducible refine (spec_DrawClockSteps.calls k _ _ l0 t643 t644 t645 _ ?side1 ?side2 A3.out).mono ?_);(case side1=>repeat (first | exact HR0.out | (with_reducible refine Kd.C_alloc ?_ _) | (with_reducible refine Kd.C_drewN ?_ _) | (with_reducible refine Kd.C_drew ?_)));(case side2=>exact HC0.out);rintro e w7 ⟨v646,rfl,ho0,hb⟩;have HO647:=aQ (Kd.N_lower (Kd.N_mono (ok':=fun k_=>True) ho0 (fun k_ hk_=>trivial)) (below_size bB));replace HB:=aQ (below_step bB hb);(try clear hb);(try clear hb2);(try clear hk);(try clear hi);(try clear ho0)) | ((with_reducible refine gate_dst (N:=3) rfl ?_);refine box1 (N:=3) (cs:=#[.int .i64 0,.int .i64 0,.slice none 0 0]) (t:=29) ?_;intro gb648 hg w8 hbox hb;replace HO647:=aQ (Kd.N_below (Kd.N_elderB (nN HO647.out) gb648 (Nat.le_of_eq hg.symm)) hb);have BK648:=aQ (hbox);have GW648:=aQ ((by rw [hg];exact (below_size bB):w.heap.size ≤ gb648));have GE648:=aQ ((by rw [hg];exact (below_size bB):w.heap.size ≤ gb648));replace HB:=aQ (below_step bB hb);clear hb hbox hg;have hcz9_0:w8.cell? ⟨gb648,0,none⟩ = some (.int .i64 0):=(blk_cell BK648.out 0).trans rfl;have hcz9_1:w8.cell? ⟨gb648,1,none⟩ = some (.int .i64 0):=(blk_cell BK648.out 1).trans rfl;have hcz9_2:w8.cell? ⟨gb648,2,none⟩ = some (.slice none 0 0):=(blk_cell BK648.out 2).trans rfl;have hfz9_0:=blk_frozen BK648.out 0;have hfz9_1:=blk_frozen BK648.out 1;have hfz9_2:=blk_frozen BK648.out 2;obtain ⟨Ao10,co10,eo10⟩:=Kd.N_slice HO647.out;subst eo10) | ((with_reducible refine gate_store (t:=29) (p:=3) rfl ?_);(try (rw [drewN_self w8];generalize hq_:World.drewN w8 _ = w8;have n0_:=aQ (Kd.N_at hq_ HO647.out);have n1_:=aQ (blk_at hq_ BK648.out);have n2_:=aQ (below_at hq_ HB.out);clear hq_ HO647 BK648 HB;have HO647:=n0_;have BK648:=n1_;have HB:=n2_;clear n0_ n1_ n2_));refine store_event (t:=29) (p:=3) (v:=?vo_w11) (w1:=(((w8.setCell ⟨gb648,0,none⟩ (.int .i64 t643)).setCell ⟨gb648,1,none⟩ (.int .i64 t644)).setCell ⟨gb648,2,none⟩ (.slice Ao10 t645.length co10))) ?hg ?ho ?hn ?hr ?_;(case ho=>rfl);(case hg=>rfl);(case hn=>rfl);(case hr=>first | (go_simp;done) | (go_simp;rfl));intro w11 hw;have n0_:Aside0 (Kd.N k29 29 w11 w.heap.size (fun k_=>k_ ≠ gb648) (.slice Ao10 t645.length co10) t645):=⟨(by rw [hw];exact (Kd.N_mono (nFN (g:=gb648) HO647.out (fun k_ hk=>hk.2)) (fun _ hk=>hk.2)))⟩;have n1_:Aside0 (w11.heap[gb648]? = some (.cells #[.int .i64 t643,.int .i64 t644,.slice Ao10 t645.length co10] 29 (0,0))):=⟨(by rw [hw];exact bP)⟩;have n2_:Aside0 (Below w.heap.size w w11):=⟨(by rw [hw];exact bB)⟩;clear hw;clear HO647;clear BK648;clear HB;have HO647:=n0_;have BK648:=n1_;have HB:=n2_;clear n0_ n1_ n2_;have hcz12_0:w11.cell? ⟨gb648,0,none⟩ = some (.int .i64 t643):=(blk_cell BK648.out 0).trans rfl;have hcz12_1:w11.cell? ⟨gb648,1,none⟩ = some (.int .i64 t644):=(blk_cell BK648.out 1).trans rfl;have hcz12_2:w11.cell? ⟨gb648,2,none⟩ = some (.slice Ao10 t645.length co10):=(blk_cell BK648.out 2).trans rfl;have hfz12_0:=blk_frozen BK648.out 0;have hfz12_1:=blk_frozen BK648.out 1;have hfz12_2:=blk_frozen BK648.out 2) | (go_at_call 19;(with_reducible refine (impl_ClockSteps.calls k t643 t644 (fun k_=>k_ ≠ gb648) _ _ t645 t649 t652 _ ?side1 A4.out).mono ?_);(case side1=>exact Kd.N_V (HO647.out));rintro e w13 ⟨v650,rfl,ho0,hb⟩;replace HO647:=aQ (Kd.N_elder' (nN HO647.out) (Kd.N_base ho0) hb);have HO651:=aQ (Kd.N_lower (Kd.N_mono (ok':=fun k_=>k_ ≠ gb648) ho0 (fun k_ hk_=>Or.elim hk_ (fun hs_=>hs_) (fun hn_=>(Kd.freshB (g:=gb648) (o:=.cells #[.int .i64 t643,.int .i64 t644,.slice Ao10 t645.length co10] 29 (0,0)) (nB BK648.out) k_ hn_)))) (below_size bB));replace BK648:=aQ (blk_below (g:=gb648) (o:=.cells #[.int .i64 t643,.int .i64 t644,.slice Ao10 t645.length co10] 29 (0,0)) (nB BK648.out) hb);replace HB:=aQ (below_step bB hb);(try clear hb);(try clear hb2);(try clear hk);(try clear hi);(try clear ho0);have hcz14_0:w13.cell? ⟨gb648,0,none⟩ = some (.int .i64 t643):=(blk_cell BK648.out 0).trans rfl;have hcz14_1:w13.cell? ⟨gb648,1,none⟩ = some (.int .i64 t644):=(blk_cell BK648.out 1).trans rfl;have hcz14_2:w13.cell? ⟨gb648,2,none⟩ = some (.slice Ao10 t645.length co10):=(blk_cell BK648.out 2).trans rfl;have hfz14_0:=blk_frozen BK648.out 0;have hfz14_1:=blk_frozen BK648.out 1;have hfz14_2:=blk_frozen BK648.out 2) | (go_at_call 23;(with_reducible refine (spec_ClockSteps.calls k t643 t644 (fun k_=>(k_ ≠ gb648∧some k_ ≠ (v650:Value).ownBlock)) _ _ t645 t653 t656 _ ?side1 A5.out).mono ?_);(case side1=>exact Kd.N_V (HO647.out));rintro e w15 ⟨v654,rfl,ho0,hb⟩;replace HO647:=aQ (Kd.N_elder' (nN HO647.out) (Kd.N_base ho0) hb);have HO655:=aQ (Kd.N_lower (Kd.N_mono (ok':=fun k_=>some k_ ≠ (v650:Value).ownBlock∧k_ ≠ gb648) ho0 (fun k_ hk_=>⟨Or.elim hk_ (fun hs_=>hs_.2) (fun hn_=>(Kd.fresh' (Kd.N_lt (nN HO651.out)) k_ hn_)),Or.elim hk_ (fun hs_=>hs_.1) (fun hn_=>(Kd.freshB (g:=gb648) (o:=.cells #[.int .i64 t643,.int .i64 t644,.slice Ao10 t645.length co10] 29 (0,0)) (nB BK648.out) k_ hn_))⟩)) (below_size bB));replace HO651:=aQ (Kd.N_elder' (nN HO651.out) (Kd.N_base ho0) hb);replace BK648:=aQ (blk_below (g:=gb648) (o:=.cells #[.int .i64 t643,.int .i64 t644,.slice Ao10 t645.length co10] 29 (0,0)) (nB BK648.out) hb);replace HB:=aQ (below_step bB hb);(try clear hb);(try clear hb2);(try clear hk);(try clear hi);(try clear ho0))))
 (try simp only [Act.put,List.setIfInBounds_toArray,List.set_cons_zero,List.set_cons_succ])
 go_cut [38] (fun v38 wc=>∃ (kq:Nat) (x38_5:Bool),v38 = .bool x38_5∧Aside0 (laws_FnClockSteps.j0 kq t649 x38_5 t643 t644 t645 = some r)∧Aside0 (kq ≤ k)∧Aside0 (Kd.N k44 44 wc w.heap.size (fun k_=>k_ ≠ gb648) v650 t649)∧Aside0 (Kd.N k29 29 wc w.heap.size (fun k_=>some k_ ≠ (v650:Value).ownBlock∧k_ ≠ gb648) (.slice Ao10 t645.length co10) t645)∧Aside0 (wc.heap[gb648]? = some (.cells #[.int .i64 t643,.int .i64 t644,(.slice Ao10 t645.length co10)] 29 (0,0)))∧Aside0 (Below w.heap.size w wc))
 case first =>
  have H:=HC6.out
  clear HC6
  obtain ⟨t657,A16,H⟩:=bQ H
  (try dsimp only at H)
  by_cases c17:t657 = true
  ·subst c17
   have H1:(laws_FnClockSteps.j0 k t649 (t652 != t656) t643 t644 t645) = some r:=by rw [if_pos rfl] at H;exact H
   clear H
   have H:=H1
   clear H1
   have H':=aQ H
   clear H
   obtain ⟨Ao18,co18,eo18⟩:=Kd.N_slice HO651.out
   subst eo18
   obtain ⟨Ao19,co19,eo19⟩:=Kd.N_slice HO655.out
   subst eo19
   go_wp2_with (first | (go_at_call 24;(with_reducible refine (laws_mnTicks.calls k _ _ t649 _ _ t653 true _ ?side1 ?side2 ?side3 ?side4 A16.out).mono ?_);(case side1=>repeat (first | exact (Kd.N_reads' HO651.out).2.2 | (with_reducible refine Kd.C_alloc ?_ _) | (with_reducible refine Kd.C_drewN ?_ _) | (with_reducible refine Kd.C_drew ?_)));(case side2=>exact (Kd.N_reads' HO651.out).2.1);(case side3=>repeat (first | exact (Kd.N_reads' HO655.out).2.2 | (with_reducible refine Kd.C_alloc ?_ _) | (with_reducible refine Kd.C_drewN ?_ _) | (with_reducible refine Kd.C_drew ?_)));(case side4=>exact (Kd.N_reads' HO655.out).2.1);rintro e w20 ⟨rfl,hb⟩;replace HO647:=aQ (Kd.N_below (nN HO647.out) hb);replace HO651:=aQ (Kd.N_below (nN HO651.out) hb);replace HO655:=aQ (Kd.N_below (nN HO655.out) hb);replace BK648:=aQ (blk_below (g:=gb648) (o:=.cells #[.int .i64 t643,.int .i64 t644,.slice Ao10 t645.length co10] 29 (0,0)) (nB BK648.out) hb);replace HB:=aQ (below_step bB hb);(try clear hb)))
   repeat (go_quiet (first | (go_at_call 24;(with_reducible refine (laws_mnTicks.calls k _ _ t649 _ _ t653 true _ ?side1 ?side2 ?side3 ?side4 A16.out).mono ?_);(case side1=>repeat (first | exact (Kd.N_reads' HO651.out).2.2 | (with_reducible refine Kd.C_alloc ?_ _) | (with_reducible refine Kd.C_drewN ?_ _) | (with_reducible refine Kd.C_drew ?_)));(case side2=>exact (Kd.N_reads' HO651.out).2.1);(case side3=>repeat (first | exact (Kd.N_reads' HO655.out).2.2 | (with_reducible refine Kd.C_alloc ?_ _) | (with_reducible refine Kd.C_drewN ?_ _) | (with_reducible refine Kd.C_drew ?_)));(case side4=>exact (Kd.N_reads' HO655.out).2.1);rintro e w20 ⟨rfl,hb⟩;replace HO647:=aQ (Kd.N_below (nN HO647.out) hb);replace HO651:=aQ (Kd.N_below (nN HO651.out) hb);replace HO655:=aQ (Kd.N_below (nN HO655.out) hb);replace BK648:=aQ (blk_below (g:=gb648) (o:=.cells #[.int .i64 t643,.int .i64 t644,.slice Ao10 t645.length co10] 29 (0,0)) (nB BK648.out) hb);replace HB:=aQ (below_step bB hb);(try clear hb);(try clear hb2);(try clear hk);(try clear hi)));try go_wp2_with (first | (go_at_call 24;(with_reducible refine (laws_mnTicks.calls k _ _ t649 _ _ t653 true _ ?side1 ?side2 ?side3 ?side4 A16.out).mono ?_);(case side1=>repeat (first | exact (Kd.N_reads' HO651.out).2.2 | (with_reducible refine Kd.C_alloc ?_ _) | (with_reducible refine Kd.C_drewN ?_ _) | (with_reducible refine Kd.C_drew ?_)));(case side2=>exact (Kd.N_reads' HO651.out).2.1);(case side3=>repeat (first | exact (Kd.N_reads' HO655.out).2.2 | (with_reducible refine Kd.C_alloc ?_ _) | (with_reducible refine Kd.C_drewN ?_ _) | (with_reducible refine Kd.C_drew ?_)));(case side4=>exact (Kd.N_reads' HO655.out).2.1);rintro e w20 ⟨rfl,hb⟩;replace HO647:=aQ (Kd.N_below (nN HO647.out) hb);replace HO651:=aQ (Kd.N_below (nN HO651.out) hb);replace HO655:=aQ (Kd.N_below (nN HO655.out) hb);replace BK648:=aQ (blk_below (g:=gb648) (o:=.cells #[.int .i64 t643,.int .i64 t644,.slice Ao10 t645.length co10] 29 (0,0)) (nB BK648.out) hb);replace HB:=aQ (below_step bB hb);(try clear hb);(try clear hb2);(try clear hk);(try clear hi))))
   go_meet
   case rel=>exact ⟨_,((t652 != t656)),rfl,H',⟨by first | omega | exact Nat.le_refl _⟩,⟨nN (Kd.N_mono HO651.out (fun _ hk=>hk.1))⟩,⟨nN (Kd.N_mono HO647.out (fun _ hk=>⟨hk.1.2,hk.1.1⟩))⟩,⟨nB BK648.out⟩,⟨bB⟩⟩
  ·replace c17:=Bool.eq_false_iff.mpr c17
   subst c17
   have H1:(laws_FnClockSteps.j0 k t649 true t643 t644 t645) = some r:=by rw [if_neg (show ¬ (false = true) by decide)] at H;exact H
   clear H
   have H:=H1
   clear H1
   have H':=aQ H
   clear H
   obtain ⟨Ao21,co21,eo21⟩:=Kd.N_slice HO651.out
   subst eo21
   obtain ⟨Ao22,co22,eo22⟩:=Kd.N_slice HO655.out
   subst eo22
   go_wp2_with (first | (go_at_call 24;(with_reducible refine (laws_mnTicks.calls k _ _ t649 _ _ t653 false _ ?side1 ?side2 ?side3 ?side4 A16.out).mono ?_);(case side1=>repeat (first | exact (Kd.N_reads' HO651.out).2.2 | (with_reducible refine Kd.C_alloc ?_ _) | (with_reducible refine Kd.C_drewN ?_ _) | (with_reducible refine Kd.C_drew ?_)));(case side2=>exact (Kd.N_reads' HO651.out).2.1);(case side3=>repeat (first | exact (Kd.N_reads' HO655.out).2.2 | (with_reducible refine Kd.C_alloc ?_ _) | (with_reducible refine Kd.C_drewN ?_ _) | (with_reducible refine Kd.C_drew ?_)));(case side4=>exact (Kd.N_reads' HO655.out).2.1);rintro e w23 ⟨rfl,hb⟩;replace HO647:=aQ (Kd.N_below (nN HO647.out) hb);replace HO651:=aQ (Kd.N_below (nN HO651.out) hb);replace HO655:=aQ (Kd.N_below (nN HO655.out) hb);replace BK648:=aQ (blk_below (g:=gb648) (o:=.cells #[.int .i64 t643,.int .i64 t644,.slice Ao10 t645.length co10] 29 (0,0)) (nB BK648.out) hb);replace HB:=aQ (below_step bB hb);(try clear hb)))
   repeat (go_quiet (first | (go_at_call 24;(with_reducible refine (laws_mnTicks.calls k _ _ t649 _ _ t653 false _ ?side1 ?side2 ?side3 ?side4 A16.out).mono ?_);(case side1=>repeat (first | exact (Kd.N_reads' HO651.out).2.2 | (with_reducible refine Kd.C_alloc ?_ _) | (with_reducible refine Kd.C_drewN ?_ _) | (with_reducible refine Kd.C_drew ?_)));(case side2=>exact (Kd.N_reads' HO651.out).2.1);(case side3=>repeat (first | exact (Kd.N_reads' HO655.out).2.2 | (with_reducible refine Kd.C_alloc ?_ _) | (with_reducible refine Kd.C_drewN ?_ _) | (with_reducible refine Kd.C_drew ?_)));(case side4=>exact (Kd.N_reads' HO655.out).2.1);rintro e w23 ⟨rfl,hb⟩;replace HO647:=aQ (Kd.N_below (nN HO647.out) hb);replace HO651:=aQ (Kd.N_below (nN HO651.out) hb);replace HO655:=aQ (Kd.N_below (nN HO655.out) hb);replace BK648:=aQ (blk_below (g:=gb648) (o:=.cells #[.int .i64 t643,.int .i64 t644,.slice Ao10 t645.length co10] 29 (0,0)) (nB BK648.out) hb);replace HB:=aQ (below_step bB hb);(try clear hb);(try clear hb2);(try clear hk);(try clear hi)));try go_wp2_with (first | (go_at_call 24;(with_reducible refine (laws_mnTicks.calls k _ _ t649 _ _ t653 false _ ?side1 ?side2 ?side3 ?side4 A16.out).mono ?_);(case side1=>repeat (first | exact (Kd.N_reads' HO651.out).2.2 | (with_reducible refine Kd.C_alloc ?_ _) | (with_reducible refine Kd.C_drewN ?_ _) | (with_reducible refine Kd.C_drew ?_)));(case side2=>exact (Kd.N_reads' HO651.out).2.1);(case side3=>repeat (first | exact (Kd.N_reads' HO655.out).2.2 | (with_reducible refine Kd.C_alloc ?_ _) | (with_reducible refine Kd.C_drewN ?_ _) | (with_reducible refine Kd.C_drew ?_)));(case side4=>exact (Kd.N_reads' HO655.out).2.1);rintro e w23 ⟨rfl,hb⟩;replace HO647:=aQ (Kd.N_below (nN HO647.out) hb);replace HO651:=aQ (Kd.N_below (nN HO651.out) hb);replace HO655:=aQ (Kd.N_below (nN HO655.out) hb);replace BK648:=aQ (blk_below (g:=gb648) (o:=.cells #[.int .i64 t643,.int .i64 t644,.slice Ao10 t645.length co10] 29 (0,0)) (nB BK648.out) hb);replace HB:=aQ (below_step bB hb);(try clear hb);(try clear hb2);(try clear hk);(try clear hi))))
   go_meet
   case rel=>exact ⟨_,(true),rfl,H',⟨by first | omega | exact Nat.le_refl _⟩,⟨nN (Kd.N_mono HO651.out (fun _ hk=>hk.1))⟩,⟨nN (Kd.N_mono HO647.out (fun _ hk=>⟨hk.1.2,hk.1.1⟩))⟩,⟨nB BK648.out⟩,⟨bB⟩⟩
 case rest =>
  clear HC6
  try clear c2b0
  try clear c2b1
  try clear hcz12_0
  try clear hcz12_1
  try clear hcz12_2
  try clear hcz14_0
  try clear hcz14_1
  try clear hcz14_2
  try clear hcz9_0
  try clear hcz9_1
  try clear hcz9_2
  try clear hfz12_0
  try clear hfz12_1
  try clear hfz12_2
  try clear hfz14_0
  try clear hfz14_1
  try clear hfz14_2
  try clear hfz9_0
  try clear hfz9_1
  try clear hfz9_2
  obtain ⟨kq,x38_5,rfl,HA,HJ5,HO_4,HO_649002,BK648,HB⟩:=hcut
  cases kq with
  | zero=>exact absurd HA.out (by simp [laws_FnClockSteps.j0])
  | succ kj5 =>
   have H:=HA.out
   clear HA
   simp only [laws_FnClockSteps.j0] at H
   by_cases c24:x38_5 = true
   ·subst c24
    have H1:(some false) = some r:=by rw [if_pos rfl] at H;exact H
    clear H
    have H:=H1
    clear H1
    obtain rfl:=Option.some.inj H
    go_wp2
    repeat (go_quiet (fail);try go_wp2)
    go_ret
    exact ⟨rfl,bB⟩
   ·replace c24:=Bool.eq_false_iff.mpr c24
    subst c24
    have H1:((impl_ClockPass.f kj5 t643 t644 t645).bind fun bt658=>((impl_ClockSteps.f kj5 bt658.1 bt658.2.1 bt658.2.2.1).bind fun bt665=>(laws_FnClockSteps.l0 kj5 t649 bt658.2.2.2 bt665.1 0))) = some r:=by rw [if_neg (show ¬ (false = true) by decide)] at H;exact H
    clear H
    have H:=H1
    clear H1
    obtain ⟨⟨t658,t659,t660,t663⟩,A25,H⟩:=bQ H
    dsimp only at H
    obtain ⟨⟨t665,t668⟩,A26,H⟩:=bQ H
    dsimp only at H
    have H':=aQ H
    clear H
    have hcz27_0:wc.cell? ⟨gb648,0,none⟩ = some (.int .i64 t643):=(blk_cell BK648.out 0).trans rfl
    have hcz27_1:wc.cell? ⟨gb648,1,none⟩ = some (.int .i64 t644):=(blk_cell BK648.out 1).trans rfl
    have hcz27_2:wc.cell? ⟨gb648,2,none⟩ = some (.slice Ao10 t645.length co10):=(blk_cell BK648.out 2).trans rfl
    have hfz27_0:=blk_frozen BK648.out 0
    have hfz27_1:=blk_frozen BK648.out 1
    have hfz27_2:=blk_frozen BK648.out 2
    go_wp2_with (first | (go_at_call 25;(with_reducible refine (impl_ClockPass.calls kj5 t643 t644 (fun k_=>(some k_ ≠ (v650:Value).ownBlock∧k_ ≠ gb648)) _ _ t645 t658 t659 t660 t663 _ ?side1 A25.out).mono ?_);(case side1=>exact Kd.N_V (HO_649002.out));rintro e w28 ⟨v661,rfl,ho0,hb⟩;replace HO_649002:=aQ (Kd.N_elder' (nN HO_649002.out) (Kd.N_base ho0) hb);have HO662:=aQ (Kd.N_lower (Kd.N_mono (ok':=fun k_=>some k_ ≠ (v650:Value).ownBlock∧k_ ≠ gb648) ho0 (fun k_ hk_=>⟨Or.elim hk_ (fun hs_=>hs_.1) (fun hn_=>(Kd.fresh' (Kd.N_lt (nN HO_4.out)) k_ hn_)),Or.elim hk_ (fun hs_=>hs_.2) (fun hn_=>(Kd.freshB (g:=gb648) (o:=.cells #[.int .i64 t643,.int .i64 t644,.slice Ao10 t645.length co10] 29 (0,0)) (nB BK648.out) k_ hn_))⟩)) (below_size bB));replace HO_4:=aQ (Kd.N_elder' (nN HO_4.out) (Kd.N_base ho0) hb);replace BK648:=aQ (blk_below (g:=gb648) (o:=.cells #[.int .i64 t643,.int .i64 t644,.slice Ao10 t645.length co10] 29 (0,0)) (nB BK648.out) hb);replace HB:=aQ (below_step bB hb);(try clear hb);(try clear ho0)) | ((with_reducible refine gate_dst (N:=8) rfl ?_);refine box1 (N:=8) (cs:=#[.int .i64 0,.int .i64 0,.slice none 0 0]) (t:=29) ?_;intro gb664 hg w29 hbox hb;replace HO_4:=aQ (Kd.N_below (Kd.N_elderB (nN HO_4.out) gb664 (Nat.le_of_eq hg.symm)) hb);replace HO_649002:=aQ (Kd.N_below (Kd.N_elderB (nN HO_649002.out) gb664 (Nat.le_of_eq hg.symm)) hb);replace HO662:=aQ (Kd.N_below (Kd.N_elderB (nN HO662.out) gb664 (Nat.le_of_eq hg.symm)) hb);have BK664:=aQ (hbox);have GW664:=aQ ((by rw [hg];exact (below_size bB):w.heap.size ≤ gb664));have GE664:=aQ ((by rw [hg];exact (below_size bB):w.heap.size ≤ gb664));replace HB:=aQ (below_step bB hb);have NB648_664:=aQ ((by rw [hg];exact Nat.ne_of_lt (blk_lt (g:=gb648) (o:=.cells #[.int .i64 t643,.int .i64 t644,.slice Ao10 t645.length co10] 29 (0,0)) (nB BK648.out)):gb648 ≠ gb664));have NB664_648:=aQ ((by rw [hg];exact Nat.ne_of_gt (blk_lt (g:=gb648) (o:=.cells #[.int .i64 t643,.int .i64 t644,.slice Ao10 t645.length co10] 29 (0,0)) (nB BK648.out)):gb664 ≠ gb648));replace BK648:=aQ (blk_below (g:=gb648) (o:=.cells #[.int .i64 t643,.int .i64 t644,.slice Ao10 t645.length co10] 29 (0,0)) (nB BK648.out) hb);clear hb hbox hg;have hnb30:=NB664_648.out;have hnc30:=NB648_664.out;have hcz31_0:w29.cell? ⟨gb664,0,none⟩ = some (.int .i64 0):=(blk_cell BK664.out 0).trans rfl;have hcz31_1:w29.cell? ⟨gb664,1,none⟩ = some (.int .i64 0):=(blk_cell BK664.out 1).trans rfl;have hcz31_2:w29.cell? ⟨gb664,2,none⟩ = some (.slice none 0 0):=(blk_cell BK664.out 2).trans rfl;have hfz31_0:=blk_frozen BK664.out 0;have hfz31_1:=blk_frozen BK664.out 1;have hfz31_2:=blk_frozen BK664.out 2;obtain ⟨Ao32,co32,eo32⟩:=Kd.N_slice HO662.out;subst eo32) | ((with_reducible refine gate_store (t:=29) (p:=8) rfl ?_);(try (rw [drewN_self w29];generalize hq_:World.drewN w29 _ = w29;have n0_:=aQ (Kd.N_at hq_ HO_4.out);have n1_:=aQ (Kd.N_at hq_ HO_649002.out);have n2_:=aQ (Kd.N_at hq_ HO662.out);have n3_:=aQ (blk_at hq_ BK648.out);have n4_:=aQ (blk_at hq_ BK664.out);have n5_:=aQ (below_at hq_ HB.out);clear hq_ HO_4 HO_649002 HO662 BK648 BK664 HB;have HO_4:=n0_;have HO_649002:=n1_;have HO662:=n2_;have BK648:=n3_;have BK664:=n4_;have HB:=n5_;clear n0_ n1_ n2_ n3_ n4_ n5_));refine store_event (t:=29) (p:=8) (v:=?vo_w33) (w1:=(((w29.setCell ⟨gb664,0,none⟩ (.int .i64 t658)).setCell ⟨gb664,1,none⟩ (.int .i64 t659)).setCell ⟨gb664,2,none⟩ (.slice Ao32 t660.length co32))) ?hg ?ho ?hn ?hr ?_;(case ho=>rfl);(case hg=>rfl);(case hn=>rfl);(case hr=>first | (go_simp;done) | (go_simp;rfl));intro w33 hw;have n0_:Aside0 (Kd.N k44 44 w33 w.heap.size (fun k_=>some k_ ≠ (.slice Ao32 t660.length co32:Value).ownBlock∧k_ ≠ gb648∧k_ ≠ gb664) v650 t649):=⟨(by rw [hw];exact (Kd.N_mono (nFN (g:=gb664) HO_4.out (fun k_ hk=>hk.2)) (fun _ hk=>⟨hk.1.2,⟨hk.1.1,hk.2⟩⟩)))⟩;have n1_:Aside0 (Kd.N k29 29 w33 w.heap.size (fun k_=>some k_ ≠ (v650:Value).ownBlock∧some k_ ≠ (.slice Ao32 t660.length co32:Value).ownBlock∧k_ ≠ gb648∧k_ ≠ gb664) (.slice Ao10 t645.length co10) t645):=⟨(by rw [hw];exact (Kd.N_mono (nFN (g:=gb664) HO_649002.out (fun k_ hk=>hk.2)) (fun _ hk=>⟨hk.1.1.1,⟨hk.1.2,⟨hk.1.1.2,hk.2⟩⟩⟩)))⟩;have n2_:Aside0 (Kd.N k29 29 w33 w.heap.size (fun k_=>some k_ ≠ (v650:Value).ownBlock∧k_ ≠ gb648∧k_ ≠ gb664) (.slice Ao32 t660.length co32) t660):=⟨(by rw [hw];exact (Kd.N_mono (nFN (g:=gb664) HO662.out (fun k_ hk=>hk.2)) (fun _ hk=>⟨hk.1.1,⟨hk.1.2,hk.2⟩⟩)))⟩;have n3_:Aside0 (w33.heap[gb648]? = some (.cells #[.int .i64 t643,.int .i64 t644,.slice Ao10 t645.length co10] 29 (0,0))):=⟨(by rw [hw];exact bF)⟩;have n4_:Aside0 (w33.heap[gb664]? = some (.cells #[.int .i64 t658,.int .i64 t659,.slice Ao32 t660.length co32] 29 (0,0))):=⟨(by rw [hw];exact bP)⟩;have n5_:Aside0 (Below w.heap.size w w33):=⟨(by rw [hw];exact bB)⟩;clear hw;clear HO_4;clear HO_649002;clear HO662;clear BK648;clear BK664;clear HB;have HO_4:=n0_;have HO_649002:=n1_;have HO662:=n2_;have BK648:=n3_;have BK664:=n4_;have HB:=n5_;clear n0_ n1_ n2_ n3_ n4_ n5_;have hcz34_0:w33.cell? ⟨gb664,0,none⟩ = some (.int .i64 t658):=(blk_cell BK664.out 0).trans rfl;have hcz34_1:w33.cell? ⟨gb664,1,none⟩ = some (.int .i64 t659):=(blk_cell BK664.out 1).trans rfl;have hcz34_2:w33.cell? ⟨gb664,2,none⟩ = some (.slice Ao32 t660.length co32):=(blk_cell BK664.out 2).trans rfl;have hfz34_0:=blk_frozen BK664.out 0;have hfz34_1:=blk_frozen BK664.out 1;have hfz34_2:=blk_frozen BK664.out 2) | (go_at_call 19;(with_reducible refine (impl_ClockSteps.calls kj5 t658 t659 (fun k_=>(some k_ ≠ (v650:Value).ownBlock∧(k_ ≠ gb648∧k_ ≠ gb664))) _ _ t660 t665 t668 _ ?side1 A26.out).mono ?_);(case side1=>exact Kd.N_V (HO662.out));rintro e w35 ⟨v666,rfl,ho0,hb⟩;replace HO_649002:=aQ (Kd.N_elder' (nN HO_649002.out) (Kd.N_base ho0) hb);replace HO662:=aQ (Kd.N_elder' (nN HO662.out) (Kd.N_base ho0) hb);have HO667:=aQ (Kd.N_lower (Kd.N_mono (ok':=fun k_=>some k_ ≠ (v650:Value).ownBlock∧k_ ≠ gb648∧k_ ≠ gb664) ho0 (fun k_ hk_=>⟨Or.elim hk_ (fun hs_=>hs_.1) (fun hn_=>(Kd.fresh' (Kd.N_lt (nN HO_4.out)) k_ hn_)),Or.elim hk_ (fun hs_=>hs_.2.1) (fun hn_=>(Kd.freshB (g:=gb648) (o:=.cells #[.int .i64 t643,.int .i64 t644,.slice Ao10 t645.length co10] 29 (0,0)) (nB BK648.out) k_ hn_)),Or.elim hk_ (fun hs_=>hs_.2.2) (fun hn_=>(Kd.freshB (g:=gb664) (o:=.cells #[.int .i64 t658,.int .i64 t659,.slice Ao32 t660.length co32] 29 (0,0)) (nB BK664.out) k_ hn_))⟩)) (below_size bB));replace HO_4:=aQ (Kd.N_elder' (nN HO_4.out) (Kd.N_base ho0) hb);replace BK648:=aQ (blk_below (g:=gb648) (o:=.cells #[.int .i64 t643,.int .i64 t644,.slice Ao10 t645.length co10] 29 (0,0)) (nB BK648.out) hb);replace BK664:=aQ (blk_below (g:=gb664) (o:=.cells #[.int .i64 t658,.int .i64 t659,.slice Ao32 t660.length co32] 29 (0,0)) (nB BK664.out) hb);replace HB:=aQ (below_step bB hb);(try clear hb);(try clear ho0)))
    repeat (go_quiet (first | (go_at_call 25;(with_reducible refine (impl_ClockPass.calls kj5 t643 t644 (fun k_=>(some k_ ≠ (v650:Value).ownBlock∧k_ ≠ gb648)) _ _ t645 t658 t659 t660 t663 _ ?side1 A25.out).mono ?_);(case side1=>exact Kd.N_V (HO_649002.out));rintro e w28 ⟨v661,rfl,ho0,hb⟩;replace HO_649002:=aQ (Kd.N_elder' (nN HO_649002.out) (Kd.N_base ho0) hb);have HO662:=aQ (Kd.N_lower (Kd.N_mono (ok':=fun k_=>some k_ ≠ (v650:Value).ownBlock∧k_ ≠ gb648) ho0 (fun k_ hk_=>⟨Or.elim hk_ (fun hs_=>hs_.1) (fun hn_=>(Kd.fresh' (Kd.N_lt (nN HO_4.out)) k_ hn_)),Or.elim hk_ (fun hs_=>hs_.2) (fun hn_=>(Kd.freshB (g:=gb648) (o:=.cells #[.int .i64 t643,.int .i64 t644,.slice Ao10 t645.length co10] 29 (0,0)) (nB BK648.out) k_ hn_))⟩)) (below_size bB));replace HO_4:=aQ (Kd.N_elder' (nN HO_4.out) (Kd.N_base ho0) hb);replace BK648:=aQ (blk_below (g:=gb648) (o:=.cells #[.int .i64 t643,.int .i64 t644,.slice Ao10 t645.length co10] 29 (0,0)) (nB BK648.out) hb);replace HB:=aQ (below_step bB hb);(try clear hb);(try clear hb2);(try clear hk);(try clear hi);(try clear ho0)) | ((with_reducible refine gate_dst (N:=8) rfl ?_);refine box1 (N:=8) (cs:=#[.int .i64 0,.int .i64 0,.slice none 0 0]) (t:=29) ?_;intro gb664 hg w29 hbox hb;replace HO_4:=aQ (Kd.N_below (Kd.N_elderB (nN HO_4.out) gb664 (Nat.le_of_eq hg.symm)) hb);replace HO_649002:=aQ (Kd.N_below (Kd.N_elderB (nN HO_649002.out) gb664 (Nat.le_of_eq hg.symm)) hb);replace HO662:=aQ (Kd.N_below (Kd.N_elderB (nN HO662.out) gb664 (Nat.le_of_eq hg.symm)) hb);have BK664:=aQ (hbox);have GW664:=aQ ((by rw [hg];exact (below_size bB):w.heap.size ≤ gb664));have GE664:=aQ ((by rw [hg];exact (below_size bB):w.heap.size ≤ gb664));replace HB:=aQ (below_step bB hb);have NB648_664:=aQ ((by rw [hg];exact Nat.ne_of_lt (blk_lt (g:=gb648) (o:=.cells #[.int .i64 t643,.int .i64 t644,.slice Ao10 t645.length co10] 29 (0,0)) (nB BK648.out)):gb648 ≠ gb664));have NB664_648:=aQ ((by rw [hg];exact Nat.ne_of_gt (blk_lt (g:=gb648) (o:=.cells #[.int .i64 t643,.int .i64 t644,.slice Ao10 t645.length co10] 29 (0,0)) (nB BK648.out)):gb664 ≠ gb648));replace BK648:=aQ (blk_below (g:=gb648) (o:=.cells #[.int .i64 t643,.int .i64 t644,.slice Ao10 t645.length co10] 29 (0,0)) (nB BK648.out) hb);clear hb hbox hg;have hnb30:=NB664_648.out;have hnc30:=NB648_664.out;have hcz31_0:w29.cell? ⟨gb664,0,none⟩ = some (.int .i64 0):=(blk_cell BK664.out 0).trans rfl;have hcz31_1:w29.cell? ⟨gb664,1,none⟩ = some (.int .i64 0):=(blk_cell BK664.out 1).trans rfl;have hcz31_2:w29.cell? ⟨gb664,2,none⟩ = some (.slice none 0 0):=(blk_cell BK664.out 2).trans rfl;have hfz31_0:=blk_frozen BK664.out 0;have hfz31_1:=blk_frozen BK664.out 1;have hfz31_2:=blk_frozen BK664.out 2;obtain ⟨Ao32,co32,eo32⟩:=Kd.N_slice HO662.out;subst eo32) | ((with_reducible refine gate_store (t:=29) (p:=8) rfl ?_);(try (rw [drewN_self w29];generalize hq_:World.drewN w29 _ = w29;have n0_:=aQ (Kd.N_at hq_ HO_4.out);have n1_:=aQ (Kd.N_at hq_ HO_649002.out);have n2_:=aQ (Kd.N_at hq_ HO662.out);have n3_:=aQ (blk_at hq_ BK648.out);have n4_:=aQ (blk_at hq_ BK664.out);have n5_:=aQ (below_at hq_ HB.out);clear hq_ HO_4 HO_649002 HO662 BK648 BK664 HB;have HO_4:=n0_;have HO_649002:=n1_;have HO662:=n2_;have BK648:=n3_;have BK664:=n4_;have HB:=n5_;clear n0_ n1_ n2_ n3_ n4_ n5_));refine store_event (t:=29) (p:=8) (v:=?vo_w33) (w1:=(((w29.setCell ⟨gb664,0,none⟩ (.int .i64 t658)).setCell ⟨gb664,1,none⟩ (.int .i64 t659)).setCell ⟨gb664,2,none⟩ (.slice Ao32 t660.length co32))) ?hg ?ho ?hn ?hr ?_;(case ho=>rfl);(case hg=>rfl);(case hn=>rfl);(case hr=>first | (go_simp;done) | (go_simp;rfl));intro w33 hw;have n0_:Aside0 (Kd.N k44 44 w33 w.heap.size (fun k_=>some k_ ≠ (.slice Ao32 t660.length co32:Value).ownBlock∧k_ ≠ gb648∧k_ ≠ gb664) v650 t649):=⟨(by rw [hw];exact (Kd.N_mono (nFN (g:=gb664) HO_4.out (fun k_ hk=>hk.2)) (fun _ hk=>⟨hk.1.2,⟨hk.1.1,hk.2⟩⟩)))⟩;have n1_:Aside0 (Kd.N k29 29 w33 w.heap.size (fun k_=>some k_ ≠ (v650:Value).ownBlock∧some k_ ≠ (.slice Ao32 t660.length co32:Value).ownBlock∧k_ ≠ gb648∧k_ ≠ gb664) (.slice Ao10 t645.length co10) t645):=⟨(by rw [hw];exact (Kd.N_mono (nFN (g:=gb664) HO_649002.out (fun k_ hk=>hk.2)) (fun _ hk=>⟨hk.1.1.1,⟨hk.1.2,⟨hk.1.1.2,hk.2⟩⟩⟩)))⟩;have n2_:Aside0 (Kd.N k29 29 w33 w.heap.size (fun k_=>some k_ ≠ (v650:Value).ownBlock∧k_ ≠ gb648∧k_ ≠ gb664) (.slice Ao32 t660.length co32) t660):=⟨(by rw [hw];exact (Kd.N_mono (nFN (g:=gb664) HO662.out (fun k_ hk=>hk.2)) (fun _ hk=>⟨hk.1.1,⟨hk.1.2,hk.2⟩⟩)))⟩;have n3_:Aside0 (w33.heap[gb648]? = some (.cells #[.int .i64 t643,.int .i64 t644,.slice Ao10 t645.length co10] 29 (0,0))):=⟨(by rw [hw];exact bF)⟩;have n4_:Aside0 (w33.heap[gb664]? = some (.cells #[.int .i64 t658,.int .i64 t659,.slice Ao32 t660.length co32] 29 (0,0))):=⟨(by rw [hw];exact bP)⟩;have n5_:Aside0 (Below w.heap.size w w33):=⟨(by rw [hw];exact bB)⟩;clear hw;clear HO_4;clear HO_649002;clear HO662;clear BK648;clear BK664;clear HB;have HO_4:=n0_;have HO_649002:=n1_;have HO662:=n2_;have BK648:=n3_;have BK664:=n4_;have HB:=n5_;clear n0_ n1_ n2_ n3_ n4_ n5_;have hcz34_0:w33.cell? ⟨gb664,0,none⟩ = some (.int .i64 t658):=(blk_cell BK664.out 0).trans rfl;have hcz34_1:w33.cell? ⟨gb664,1,none⟩ = some (.int .i64 t659):=(blk_cell BK664.out 1).trans rfl;have hcz34_2:w33.cell? ⟨gb664,2,none⟩ = some (.slice Ao32 t660.length co32):=(blk_cell BK664.out 2).trans rfl;have hfz34_0:=blk_frozen BK664.out 0;have hfz34_1:=blk_frozen BK664.out 1;have hfz34_2:=blk_frozen BK664.out 2) | (go_at_call 19;(with_reducible refine (impl_ClockSteps.calls kj5 t658 t659 (fun k_=>(some k_ ≠ (v650:Value).ownBlock∧(k_ ≠ gb648∧k_ ≠ gb664))) _ _ t660 t665 t668 _ ?side1 A26.out).mono ?_);(case side1=>exact Kd.N_V (HO662.out));rintro e w35 ⟨v666,rfl,ho0,hb⟩;replace HO_649002:=aQ (Kd.N_elder' (nN HO_649002.out) (Kd.N_base ho0) hb);replace HO662:=aQ (Kd.N_elder' (nN HO662.out) (Kd.N_base ho0) hb);have HO667:=aQ (Kd.N_lower (Kd.N_mono (ok':=fun k_=>some k_ ≠ (v650:Value).ownBlock∧k_ ≠ gb648∧k_ ≠ gb664) ho0 (fun k_ hk_=>⟨Or.elim hk_ (fun hs_=>hs_.1) (fun hn_=>(Kd.fresh' (Kd.N_lt (nN HO_4.out)) k_ hn_)),Or.elim hk_ (fun hs_=>hs_.2.1) (fun hn_=>(Kd.freshB (g:=gb648) (o:=.cells #[.int .i64 t643,.int .i64 t644,.slice Ao10 t645.length co10] 29 (0,0)) (nB BK648.out) k_ hn_)),Or.elim hk_ (fun hs_=>hs_.2.2) (fun hn_=>(Kd.freshB (g:=gb664) (o:=.cells #[.int .i64 t658,.int .i64 t659,.slice Ao32 t660.length co32] 29 (0,0)) (nB BK664.out) k_ hn_))⟩)) (below_size bB));replace HO_4:=aQ (Kd.N_elder' (nN HO_4.out) (Kd.N_base ho0) hb);replace BK648:=aQ (blk_below (g:=gb648) (o:=.cells #[.int .i64 t643,.int .i64 t644,.slice Ao10 t645.length co10] 29 (0,0)) (nB BK648.out) hb);replace BK664:=aQ (blk_below (g:=gb664) (o:=.cells #[.int .i64 t658,.int .i64 t659,.slice Ao32 t660.length co32] 29 (0,0)) (nB BK664.out) hb);replace HB:=aQ (below_step bB hb);(try clear hb);(try clear hb2);(try clear hk);(try clear hi);(try clear ho0)));try go_wp2_with (first | (go_at_call 25;(with_reducible refine (impl_ClockPass.calls kj5 t643 t644 (fun k_=>(some k_ ≠ (v650:Value).ownBlock∧k_ ≠ gb648)) _ _ t645 t658 t659 t660 t663 _ ?side1 A25.out).mono ?_);(case side1=>exact Kd.N_V (HO_649002.out));rintro e w28 ⟨v661,rfl,ho0,hb⟩;replace HO_649002:=aQ (Kd.N_elder' (nN HO_649002.out) (Kd.N_base ho0) hb);have HO662:=aQ (Kd.N_lower (Kd.N_mono (ok':=fun k_=>some k_ ≠ (v650:Value).ownBlock∧k_ ≠ gb648) ho0 (fun k_ hk_=>⟨Or.elim hk_ (fun hs_=>hs_.1) (fun hn_=>(Kd.fresh' (Kd.N_lt (nN HO_4.out)) k_ hn_)),Or.elim hk_ (fun hs_=>hs_.2) (fun hn_=>(Kd.freshB (g:=gb648) (o:=.cells #[.int .i64 t643,.int .i64 t644,.slice Ao10 t645.length co10] 29 (0,0)) (nB BK648.out) k_ hn_))⟩)) (below_size bB));replace HO_4:=aQ (Kd.N_elder' (nN HO_4.out) (Kd.N_base ho0) hb);replace BK648:=aQ (blk_below (g:=gb648) (o:=.cells #[.int .i64 t643,.int .i64 t644,.slice Ao10 t645.length co10] 29 (0,0)) (nB BK648.out) hb);replace HB:=aQ (below_step bB hb);(try clear hb);(try clear hb2);(try clear hk);(try clear hi);(try clear ho0)) | ((with_reducible refine gate_dst (N:=8) rfl ?_);refine box1 (N:=8) (cs:=#[.int .i64 0,.int .i64 0,.slice none 0 0]) (t:=29) ?_;intro gb664 hg w29 hbox hb;replace HO_4:=aQ (Kd.N_below (Kd.N_elderB (nN HO_4.out) gb664 (Nat.le_of_eq hg.symm)) hb);replace HO_649002:=aQ (Kd.N_below (Kd.N_elderB (nN HO_649002.out) gb664 (Nat.le_of_eq hg.symm)) hb);replace HO662:=aQ (Kd.N_below (Kd.N_elderB (nN HO662.out) gb664 (Nat.le_of_eq hg.symm)) hb);have BK664:=aQ (hbox);have GW664:=aQ ((by rw [hg];exact (below_size bB):w.heap.size ≤ gb664));have GE664:=aQ ((by rw [hg];exact (below_size bB):w.heap.size ≤ gb664));replace HB:=aQ (below_step bB hb);have NB648_664:=aQ ((by rw [hg];exact Nat.ne_of_lt (blk_lt (g:=gb648) (o:=.cells #[.int .i64 t643,.int .i64 t644,.slice Ao10 t645.length co10] 29 (0,0)) (nB BK648.out)):gb648 ≠ gb664));have NB664_648:=aQ ((by rw [hg];exact Nat.ne_of_gt (blk_lt (g:=gb648) (o:=.cells #[.int .i64 t643,.int .i64 t644,.slice Ao10 t645.length co10] 29 (0,0)) (nB BK648.out)):gb664 ≠ gb648));replace BK648:=aQ (blk_below (g:=gb648) (o:=.cells #[.int .i64 t643,.int .i64 t644,.slice Ao10 t645.length co10] 29 (0,0)) (nB BK648.out) hb);clear hb hbox hg;have hnb30:=NB664_648.out;have hnc30:=NB648_664.out;have hcz31_0:w29.cell? ⟨gb664,0,none⟩ = some (.int .i64 0):=(blk_cell BK664.out 0).trans rfl;have hcz31_1:w29.cell? ⟨gb664,1,none⟩ = some (.int .i64 0):=(blk_cell BK664.out 1).trans rfl;have hcz31_2:w29.cell? ⟨gb664,2,none⟩ = some (.slice none 0 0):=(blk_cell BK664.out 2).trans rfl;have hfz31_0:=blk_frozen BK664.out 0;have hfz31_1:=blk_frozen BK664.out 1;have hfz31_2:=blk_frozen BK664.out 2;obtain ⟨Ao32,co32,eo32⟩:=Kd.N_slice HO662.out;subst eo32) | ((with_reducible refine gate_store (t:=29) (p:=8) rfl ?_);(try (rw [drewN_self w29];generalize hq_:World.drewN w29 _ = w29;have n0_:=aQ (Kd.N_at hq_ HO_4.out);have n1_:=aQ (Kd.N_at hq_ HO_649002.out);have n2_:=aQ (Kd.N_at hq_ HO662.out);have n3_:=aQ (blk_at hq_ BK648.out);have n4_:=aQ (blk_at hq_ BK664.out);have n5_:=aQ (below_at hq_ HB.out);clear hq_ HO_4 HO_649002 HO662 BK648 BK664 HB;have HO_4:=n0_;have HO_649002:=n1_;have HO662:=n2_;have BK648:=n3_;have BK664:=n4_;have HB:=n5_;clear n0_ n1_ n2_ n3_ n4_ n5_));refine store_event (t:=29) (p:=8) (v:=?vo_w33) (w1:=(((w29.setCell ⟨gb664,0,none⟩ (.int .i64 t658)).setCell ⟨gb664,1,none⟩ (.int .i64 t659)).setCell ⟨gb664,2,none⟩ (.slice Ao32 t660.length co32))) ?hg ?ho ?hn ?hr ?_;(case ho=>rfl);(case hg=>rfl);(case hn=>rfl);(case hr=>first | (go_simp;done) | (go_simp;rfl));intro w33 hw;have n0_:Aside0 (Kd.N k44 44 w33 w.heap.size (fun k_=>some k_ ≠ (.slice Ao32 t660.length co32:Value).ownBlock∧k_ ≠ gb648∧k_ ≠ gb664) v650 t649):=⟨(by rw [hw];exact (Kd.N_mono (nFN (g:=gb664) HO_4.out (fun k_ hk=>hk.2)) (fun _ hk=>⟨hk.1.2,⟨hk.1.1,hk.2⟩⟩)))⟩;have n1_:Aside0 (Kd.N k29 29 w33 w.heap.size (fun k_=>some k_ ≠ (v650:Value).ownBlock∧some k_ ≠ (.slice Ao32 t660.length co32:Value).ownBlock∧k_ ≠ gb648∧k_ ≠ gb664) (.slice Ao10 t645.length co10) t645):=⟨(by rw [hw];exact (Kd.N_mono (nFN (g:=gb664) HO_649002.out (fun k_ hk=>hk.2)) (fun _ hk=>⟨hk.1.1.1,⟨hk.1.2,⟨hk.1.1.2,hk.2⟩⟩⟩)))⟩;have n2_:Aside0 (Kd.N k29 29 w33 w.heap.size (fun k_=>some k_ ≠ (v650:Value).ownBlock∧k_ ≠ gb648∧k_ ≠ gb664) (.slice Ao32 t660.length co32) t660):=⟨(by rw [hw];exact (Kd.N_mono (nFN (g:=gb664) HO662.out (fun k_ hk=>hk.2)) (fun _ hk=>⟨hk.1.1,⟨hk.1.2,hk.2⟩⟩)))⟩;have n3_:Aside0 (w33.heap[gb648]? = some (.cells #[.int .i64 t643,.int .i64 t644,.slice Ao10 t645.length co10] 29 (0,0))):=⟨(by rw [hw];exact bF)⟩;have n4_:Aside0 (w33.heap[gb664]? = some (.cells #[.int .i64 t658,.int .i64 t659,.slice Ao32 t660.length co32] 29 (0,0))):=⟨(by rw [hw];exact bP)⟩;have n5_:Aside0 (Below w.heap.size w w33):=⟨(by rw [hw];exact bB)⟩;clear hw;clear HO_4;clear HO_649002;clear HO662;clear BK648;clear BK664;clear HB;have HO_4:=n0_;have HO_649002:=n1_;have HO662:=n2_;have BK648:=n3_;have BK664:=n4_;have HB:=n5_;clear n0_ n1_ n2_ n3_ n4_ n5_;have hcz34_0:w33.cell? ⟨gb664,0,none⟩ = some (.int .i64 t658):=(blk_cell BK664.out 0).trans rfl;have hcz34_1:w33.cell? ⟨gb664,1,none⟩ = some (.int .i64 t659):=(blk_cell BK664.out 1).trans rfl;have hcz34_2:w33.cell? ⟨gb664,2,none⟩ = some (.slice Ao32 t660.length co32):=(blk_cell BK664.out 2).trans rfl;have hfz34_0:=blk_frozen BK664.out 0;have hfz34_1:=blk_frozen BK664.out 1;have hfz34_2:=blk_frozen BK664.out 2) | (go_at_call 19;(with_reducible refine (impl_ClockSteps.calls kj5 t658 t659 (fun k_=>(some k_ ≠ (v650:Value).ownBlock∧(k_ ≠ gb648∧k_ ≠ gb664))) _ _ t660 t665 t668 _ ?side1 A26.out).mono ?_);(case side1=>exact Kd.N_V (HO662.out));rintro e w35 ⟨v666,rfl,ho0,hb⟩;replace HO_649002:=aQ (Kd.N_elder' (nN HO_649002.out) (Kd.N_base ho0) hb);replace HO662:=aQ (Kd.N_elder' (nN HO662.out) (Kd.N_base ho0) hb);have HO667:=aQ (Kd.N_lower (Kd.N_mono (ok':=fun k_=>some k_ ≠ (v650:Value).ownBlock∧k_ ≠ gb648∧k_ ≠ gb664) ho0 (fun k_ hk_=>⟨Or.elim hk_ (fun hs_=>hs_.1) (fun hn_=>(Kd.fresh' (Kd.N_lt (nN HO_4.out)) k_ hn_)),Or.elim hk_ (fun hs_=>hs_.2.1) (fun hn_=>(Kd.freshB (g:=gb648) (o:=.cells #[.int .i64 t643,.int .i64 t644,.slice Ao10 t645.length co10] 29 (0,0)) (nB BK648.out) k_ hn_)),Or.elim hk_ (fun hs_=>hs_.2.2) (fun hn_=>(Kd.freshB (g:=gb664) (o:=.cells #[.int .i64 t658,.int .i64 t659,.slice Ao32 t660.length co32] 29 (0,0)) (nB BK664.out) k_ hn_))⟩)) (below_size bB));replace HO_4:=aQ (Kd.N_elder' (nN HO_4.out) (Kd.N_base ho0) hb);replace BK648:=aQ (blk_below (g:=gb648) (o:=.cells #[.int .i64 t643,.int .i64 t644,.slice Ao10 t645.length co10] 29 (0,0)) (nB BK648.out) hb);replace BK664:=aQ (blk_below (g:=gb664) (o:=.cells #[.int .i64 t658,.int .i64 t659,.slice Ao32 t660.length co32] 29 (0,0)) (nB BK664.out) hb);replace HB:=aQ (below_step bB hb);(try clear hb);(try clear hb2);(try clear hk);(try clear hi);(try clear ho0))))
    go_loopg [12] kj5 (fun kq v12 w'=>∃ (x12_2:Int),v12 = .int .i64 x12_2∧Aside0 (laws_FnClockSteps.l0 kq t649 t663 t665 x12_2 = some r)∧Aside0 (kq ≤ kj5)∧Aside0 (Kd.N k44 44 w' w.heap.size (fun k_=>some k_ ≠ (v666:Value).ownBlock∧some k_ ≠ ((.slice Ao32 t660.length co32):Value).ownBlock∧k_ ≠ gb648∧k_ ≠ gb664) v650 t649)∧Aside0 (Kd.N k44 44 w' w.heap.size (fun k_=>some k_ ≠ (v650:Value).ownBlock∧k_ ≠ gb648∧k_ ≠ gb664) v666 t665)∧Aside0 (Kd.N k29 29 w' w.heap.size (fun k_=>some k_ ≠ (v650:Value).ownBlock∧some k_ ≠ (v666:Value).ownBlock∧some k_ ≠ ((.slice Ao32 t660.length co32):Value).ownBlock∧k_ ≠ gb648∧k_ ≠ gb664) (.slice Ao10 t645.length co10) t645)∧Aside0 (Kd.N k29 29 w' w.heap.size (fun k_=>some k_ ≠ (v650:Value).ownBlock∧some k_ ≠ (v666:Value).ownBlock∧k_ ≠ gb648∧k_ ≠ gb664) (.slice Ao32 t660.length co32) t660)∧Aside0 (w'.heap[gb648]? = some (.cells #[.int .i64 t643,.int .i64 t644,(.slice Ao10 t645.length co10)] 29 (0,0)))∧Aside0 (w'.heap[gb664]? = some (.cells #[.int .i64 t658,.int .i64 t659,(.slice Ao32 t660.length co32)] 29 (0,0)))∧Aside0 (Below w.heap.size w w'))
    case atStart=>exact ⟨(0),rfl,H',⟨Nat.le_refl _⟩,⟨nN (Kd.N_mono HO_4.out (fun _ hk=>⟨hk.2,⟨hk.1.1,⟨hk.1.2.1,hk.1.2.2⟩⟩⟩))⟩,⟨nN HO667.out⟩,⟨nN (Kd.N_mono HO_649002.out (fun _ hk=>⟨hk.1.1,⟨hk.2,⟨hk.1.2.1,⟨hk.1.2.2.1,hk.1.2.2.2⟩⟩⟩⟩))⟩,⟨nN (Kd.N_mono HO662.out (fun _ hk=>⟨hk.1.1,⟨hk.2,⟨hk.1.2.1,hk.1.2.2⟩⟩⟩))⟩,⟨nB BK648.out⟩,⟨nB BK664.out⟩,⟨bB⟩⟩
    case round =>
     clear H'
     try clear hcz27_0
     try clear hcz27_1
     try clear hcz27_2
     try clear hcz31_0
     try clear hcz31_1
     try clear hcz31_2
     try clear hcz34_0
     try clear hcz34_1
     try clear hcz34_2
     try clear hfz27_0
     try clear hfz27_1
     try clear hfz27_2
     try clear hfz31_0
     try clear hfz31_1
     try clear hfz31_2
     try clear hfz34_0
     try clear hfz34_1
     try clear hfz34_2
     repeat (first | clear HO_4 | clear HO_10 | clear HO_649002 | clear HO_665002 | clear BK648 | clear BK664 | clear HB)
     obtain ⟨x12_2,rfl,HA,HK2,HO_4,HO_10,HO_649002,HO_665002,BK648,BK664,HB⟩:=hrel
     cases gk with
     | zero=>exact absurd HA.out (by simp [laws_FnClockSteps.l0])
     | succ k2 =>
      have H:=HA.out
      clear HA
      simp only [laws_FnClockSteps.l0] at H
      by_cases c36:x12_2 < (t649.length:Int);rotate_left
      ·rw [if_neg c36] at H
       have c36b0:decide (x12_2 < (t649.length:Int)) = false:=decide_eq_false c36
       clear c36
       obtain rfl:=Option.some.inj H
       obtain ⟨Ao54,co54,eo54⟩:=Kd.N_slice HO_4.out
       subst eo54
       go_wp2
       repeat (go_quiet (fail);try go_wp2)
       go_ret
       exact ⟨rfl,bB⟩
      rw [if_pos c36] at H
      have c36b0:decide (x12_2 < (t649.length:Int)) = true:=decide_eq_true c36
      clear c36
      have HC37:=aQ H
      clear H
      obtain ⟨Ao38,co38,eo38⟩:=Kd.N_slice HO_4.out
      subst eo38
      go_upto_region 13 with (fail)
      repeat (go_quiet (fail);go_upto_region 13 with (fail))
      go_cut [63] (fun v63 wc=>∃ (kq:Nat) (x63_36:Bool),v63 = .bool x63_36∧Aside0 (laws_FnClockSteps.j2 kq t649 t663 t665 x12_2 x63_36 = some r)∧Aside0 (kq ≤ k2)∧Aside0 (Kd.N k44 44 wc w.heap.size (fun k_=>some k_ ≠ (v666:Value).ownBlock∧some k_ ≠ ((.slice Ao32 t660.length co32):Value).ownBlock∧k_ ≠ gb648∧k_ ≠ gb664) (.slice Ao38 t649.length co38) t649)∧Aside0 (Kd.N k44 44 wc w.heap.size (fun k_=>some k_ ≠ ((.slice Ao38 t649.length co38):Value).ownBlock∧k_ ≠ gb648∧k_ ≠ gb664) v666 t665)∧Aside0 (Kd.N k29 29 wc w.heap.size (fun k_=>some k_ ≠ ((.slice Ao38 t649.length co38):Value).ownBlock∧some k_ ≠ (v666:Value).ownBlock∧some k_ ≠ ((.slice Ao32 t660.length co32):Value).ownBlock∧k_ ≠ gb648∧k_ ≠ gb664) (.slice Ao10 t645.length co10) t645)∧Aside0 (Kd.N k29 29 wc w.heap.size (fun k_=>some k_ ≠ ((.slice Ao38 t649.length co38):Value).ownBlock∧some k_ ≠ (v666:Value).ownBlock∧k_ ≠ gb648∧k_ ≠ gb664) (.slice Ao32 t660.length co32) t660)∧Aside0 (wc.heap[gb648]? = some (.cells #[.int .i64 t643,.int .i64 t644,(.slice Ao10 t645.length co10)] 29 (0,0)))∧Aside0 (wc.heap[gb664]? = some (.cells #[.int .i64 t658,.int .i64 t659,(.slice Ao32 t660.length co32)] 29 (0,0)))∧Aside0 (Below w.heap.size w wc))
      case first =>
       have H:=HC37.out
       clear HC37
       by_cases c39:0 ≤ x12_2;rotate_left
       ·rw [if_neg c39] at H
        exact absurd H (by simp)
       rw [if_pos c39] at H
       have c39b0:decide (0 ≤ x12_2) = true:=decide_eq_true c39
       clear c39
       (first | rw [c39b0] | (simp only [i64_w,i32_w];rw [c39b0]) | skip)
       by_cases c40:((rd_T44 t649 x12_2).f0) = 0;rotate_left
       ·rw [if_neg c40] at H
        have c40b0:(((rd_T44 t649 x12_2).f0) == 0) = false:=beq_eq_false_iff_ne.mpr c40
        have c40b1:(((rd_T44 t649 x12_2).f0) != 0) = true:=bne_iff_ne.mpr c40
        have H':=aQ H
        clear H
        have p669:0 ≤ (x12_2:Int):=of_decide_eq_true (by first | (with_reducible assumption) | assumption)
        have q669:x12_2 < (t649.length:Int):=of_decide_eq_true (by first | (with_reducible assumption) | assumption)
        obtain ⟨ad669,A669_3,c669_3,e669,hx669_0,hx669_1,hx669_2,hx669_3,hl669_3,hi669_3⟩:=at_T44 (Kd.N_reads' HO_4.out).2.2 x12_2 p669 q669
        cases e669
        obtain ⟨ce669,hce669,hMe669,hcc669⟩:=Kd.N_get HO_4.out z44 x12_2 p669 (by first | exact q669 | exact of_decide_eq_true (by first | (with_reducible assumption) | assumption) | (have e_:=(Kd.N_reads' HO_4.out).1;omega))
        obtain ⟨ua669_3,uc669_3,rfl,ul669_3,ge669_3⟩:=k44_openF hMe669
        have hv669_3:=hcc669 3 _ rfl
        rw [add_field _ _ 3 (by omega)] at hv669_3
        replace hv669_3:=Option.some.inj (hv669_3.symm.trans hx669_3)
        injection hv669_3 with hva_ hvn_ hvc_
        rw [hva_] at ge669_3
        rw [hvc_] at ul669_3
        have HL669_3:=aQ (show Kd.V k29 29 _ w.heap.size _ _ ((rd_T44 t649 x12_2).f1.f2) from Kd.V_mk ul669_3 ge669_3)
        clear hva_ hvn_ hvc_ ge669_3 ul669_3
        clear hcc669 hce669
        have HR669_3:=aQ hi669_3
        have HC669_3:=aQ hl669_3
        clear hi669_3 hl669_3
        replace p669:=eq_true p669
        replace q669:=eq_true q669
        go_wp2
        repeat (go_quiet (fail);try go_wp2)
        go_meet
        case rel=>exact ⟨_,(false),rfl,H',⟨by have:=HJ5.out;have:=HK2.out;first | omega | exact Nat.le_refl _⟩,⟨nN HO_4.out⟩,⟨nN HO_10.out⟩,⟨nN HO_649002.out⟩,⟨nN HO_665002.out⟩,⟨nB BK648.out⟩,⟨nB BK664.out⟩,⟨bB⟩⟩
       rw [if_pos c40] at H
       have c40b0:(((rd_T44 t649 x12_2).f0) == 0) = true:=beq_iff_eq.mpr c40
       have c40b1:(((rd_T44 t649 x12_2).f0) != 0) = false:=bne_eq_false_iff_eq.mpr c40
       clear c40
       have H':=aQ H
       clear H
       have p669:0 ≤ (x12_2:Int):=of_decide_eq_true (by first | (with_reducible assumption) | assumption)
       have q669:x12_2 < (t649.length:Int):=of_decide_eq_true (by first | (with_reducible assumption) | assumption)
       obtain ⟨ad669,A669_3,c669_3,e669,hx669_0,hx669_1,hx669_2,hx669_3,hl669_3,hi669_3⟩:=at_T44 (Kd.N_reads' HO_4.out).2.2 x12_2 p669 q669
       cases e669
       obtain ⟨ce669,hce669,hMe669,hcc669⟩:=Kd.N_get HO_4.out z44 x12_2 p669 (by first | exact q669 | exact of_decide_eq_true (by first | (with_reducible assumption) | assumption) | (have e_:=(Kd.N_reads' HO_4.out).1;omega))
       obtain ⟨ua669_3,uc669_3,rfl,ul669_3,ge669_3⟩:=k44_openF hMe669
       have hv669_3:=hcc669 3 _ rfl
       rw [add_field _ _ 3 (by omega)] at hv669_3
       replace hv669_3:=Option.some.inj (hv669_3.symm.trans hx669_3)
       injection hv669_3 with hva_ hvn_ hvc_
       rw [hva_] at ge669_3
       rw [hvc_] at ul669_3
       have HL669_3:=aQ (show Kd.V k29 29 _ w.heap.size _ _ ((rd_T44 t649 x12_2).f1.f2) from Kd.V_mk ul669_3 ge669_3)
       clear hva_ hvn_ hvc_ ge669_3 ul669_3
       clear hcc669 hce669
       have HR669_3:=aQ hi669_3
       have HC669_3:=aQ hl669_3
       clear hi669_3 hl669_3
       replace p669:=eq_true p669
       replace q669:=eq_true q669
       go_wp2
       repeat (go_quiet (fail);try go_wp2)
       go_meet
       case rel=>exact ⟨_,(t663),rfl,H',⟨by have:=HJ5.out;have:=HK2.out;first | omega | exact Nat.le_refl _⟩,⟨nN HO_4.out⟩,⟨nN HO_10.out⟩,⟨nN HO_649002.out⟩,⟨nN HO_665002.out⟩,⟨nB BK648.out⟩,⟨nB BK664.out⟩,⟨bB⟩⟩
      case rest =>
       clear HC37
       try clear c36b0
       obtain ⟨kq,x63_36,rfl,HA,HJ36,HO_4,HO_10,HO_649002,HO_665002,BK648,BK664,HB⟩:=hcut
       cases kq with
       | zero=>exact absurd HA.out (by simp [laws_FnClockSteps.j2])
       | succ kj36 =>
        have H:=HA.out
        clear HA
        simp only [laws_FnClockSteps.j2] at H
        by_cases c41:x63_36 = true
        ·subst c41
         have H1:(some false) = some r:=by rw [if_pos rfl] at H;exact H
         clear H
         have H:=H1
         clear H1
         obtain rfl:=Option.some.inj H
         go_wp2
         repeat (go_quiet (fail);try go_wp2)
         go_ret
         exact ⟨rfl,bB⟩
        ·replace c41:=Bool.eq_false_iff.mpr c41
         subst c41
         have H1:(laws_FnClockSteps.l1 kj36 t649 t663 t665 x12_2 false 0) = some r:=by rw [if_neg (show ¬ (false = true) by decide)] at H;exact H
         clear H
         have H:=H1
         clear H1
         have H':=aQ H
         clear H
         go_wp2
         repeat (go_quiet (fail);try go_wp2)
         go_loopg [13,14] kj36 (fun kq v13 v14 w'=>∃ (x13_4:Bool) (x14_4:Int),v13 = .bool x13_4∧v14 = .int .i64 x14_4∧Aside0 (laws_FnClockSteps.l1 kq t649 t663 t665 x12_2 x13_4 x14_4 = some r)∧Aside0 (kq ≤ kj36)∧Aside0 (Kd.N k44 44 w' w.heap.size (fun k_=>some k_ ≠ (v666:Value).ownBlock∧some k_ ≠ ((.slice Ao32 t660.length co32):Value).ownBlock∧k_ ≠ gb648∧k_ ≠ gb664) (.slice Ao38 t649.length co38) t649)∧Aside0 (Kd.N k44 44 w' w.heap.size (fun k_=>some k_ ≠ ((.slice Ao38 t649.length co38):Value).ownBlock∧k_ ≠ gb648∧k_ ≠ gb664) v666 t665)∧Aside0 (Kd.N k29 29 w' w.heap.size (fun k_=>some k_ ≠ ((.slice Ao38 t649.length co38):Value).ownBlock∧some k_ ≠ (v666:Value).ownBlock∧some k_ ≠ ((.slice Ao32 t660.length co32):Value).ownBlock∧k_ ≠ gb648∧k_ ≠ gb664) (.slice Ao10 t645.length co10) t645)∧Aside0 (Kd.N k29 29 w' w.heap.size (fun k_=>some k_ ≠ ((.slice Ao38 t649.length co38):Value).ownBlock∧some k_ ≠ (v666:Value).ownBlock∧k_ ≠ gb648∧k_ ≠ gb664) (.slice Ao32 t660.length co32) t660)∧Aside0 (w'.heap[gb648]? = some (.cells #[.int .i64 t643,.int .i64 t644,(.slice Ao10 t645.length co10)] 29 (0,0)))∧Aside0 (w'.heap[gb664]? = some (.cells #[.int .i64 t658,.int .i64 t659,(.slice Ao32 t660.length co32)] 29 (0,0)))∧Aside0 (Below w.heap.size w w'))
         case atStart=>exact ⟨(false),(0),rfl,rfl,H',⟨Nat.le_refl _⟩,⟨nN HO_4.out⟩,⟨nN HO_10.out⟩,⟨nN HO_649002.out⟩,⟨nN HO_665002.out⟩,⟨nB BK648.out⟩,⟨nB BK664.out⟩,⟨bB⟩⟩
         case round =>
          clear H'
          repeat (first | clear HO_4 | clear HO_10 | clear HO_649002 | clear HO_665002 | clear BK648 | clear BK664 | clear HB)
          obtain ⟨x13_4,x14_4,rfl,rfl,HA,HK4,HO_4,HO_10,HO_649002,HO_665002,BK648,BK664,HB⟩:=hrel
          cases gk with
          | zero=>exact absurd HA.out (by simp [laws_FnClockSteps.l1])
          | succ k4 =>
           have H:=HA.out
           clear HA
           simp only [laws_FnClockSteps.l1] at H
           by_cases c42:x14_4 < (t665.length:Int);rotate_left
           ·rw [if_neg c42] at H
            have c42b0:decide (x14_4 < (t665.length:Int)) = false:=decide_eq_false c42
            clear c42
            by_cases c49:t663 = true
            ·subst c49
             have H1:(if x13_4 = true then (laws_FnClockSteps.l0 k4 t649 true t665 (wrap64 (x12_2 + 1))) else (some false)) = some r:=by rw [if_pos rfl] at H;exact H
             clear H
             have H:=H1
             clear H1
             by_cases c50:x13_4 = true
             ·subst c50
              have H1:(laws_FnClockSteps.l0 k4 t649 true t665 (wrap64 (x12_2 + 1))) = some r:=by rw [if_pos rfl] at H;exact H
              clear H
              have H:=H1
              clear H1
              have H':=aQ H
              clear H
              obtain ⟨Ao51,co51,eo51⟩:=Kd.N_slice HO_10.out
              subst eo51
              go_wp2
              repeat (go_quiet (fail);try go_wp2)
              go_roundg k4
              case measure=>have:=HJ5.out;have:=HK2.out;have:=HJ36.out;have:=HK4.out;omega
              case rel=>exact ⟨(wrap64 (x12_2 + 1)),rfl,H',⟨by have:=HJ5.out;have:=HK2.out;have:=HJ36.out;have:=HK4.out;omega⟩,⟨nN HO_4.out⟩,⟨nN HO_10.out⟩,⟨nN HO_649002.out⟩,⟨nN HO_665002.out⟩,⟨nB BK648.out⟩,⟨nB BK664.out⟩,⟨bB⟩⟩
             ·replace c50:=Bool.eq_false_iff.mpr c50
              subst c50
              have H1:(some false) = some r:=by rw [if_neg (show ¬ (false = true) by decide)] at H;exact H
              clear H
              have H:=H1
              clear H1
              obtain rfl:=Option.some.inj H
              obtain ⟨Ao52,co52,eo52⟩:=Kd.N_slice HO_10.out
              subst eo52
              go_wp2
              repeat (go_quiet (fail);try go_wp2)
              go_ret
              exact ⟨rfl,bB⟩
            ·replace c49:=Bool.eq_false_iff.mpr c49
             subst c49
             have H1:(laws_FnClockSteps.l0 k4 t649 false t665 (wrap64 (x12_2 + 1))) = some r:=by rw [if_neg (show ¬ (false = true) by decide)] at H;exact H
             clear H
             have H:=H1
             clear H1
             have H':=aQ H
             clear H
             obtain ⟨Ao53,co53,eo53⟩:=Kd.N_slice HO_10.out
             subst eo53
             go_wp2
             repeat (go_quiet (fail);try go_wp2)
             go_roundg k4
             case measure=>have:=HJ5.out;have:=HK2.out;have:=HJ36.out;have:=HK4.out;omega
             case rel=>exact ⟨(wrap64 (x12_2 + 1)),rfl,H',⟨by have:=HJ5.out;have:=HK2.out;have:=HJ36.out;have:=HK4.out;omega⟩,⟨nN HO_4.out⟩,⟨nN HO_10.out⟩,⟨nN HO_649002.out⟩,⟨nN HO_665002.out⟩,⟨nB BK648.out⟩,⟨nB BK664.out⟩,⟨bB⟩⟩
           rw [if_pos c42] at H
           have c42b0:decide (x14_4 < (t665.length:Int)) = true:=decide_eq_true c42
           clear c42
           by_cases c43:x13_4 = true
           ·subst c43
            have H1:(laws_FnClockSteps.l1 k4 t649 t663 t665 x12_2 true (wrap64 (x14_4 + 1))) = some r:=by rw [if_pos rfl] at H;exact H
            clear H
            have H:=H1
            clear H1
            have H':=aQ H
            clear H
            obtain ⟨Ao44,co44,eo44⟩:=Kd.N_slice HO_10.out
            subst eo44
            go_wp2
            repeat (go_quiet (fail);try go_wp2)
            go_roundg k4
            case measure=>have:=HJ5.out;have:=HK2.out;have:=HJ36.out;have:=HK4.out;omega
            case rel=>exact ⟨(true),(wrap64 (x14_4 + 1)),rfl,rfl,H',⟨by have:=HJ5.out;have:=HK2.out;have:=HJ36.out;have:=HK4.out;omega⟩,⟨nN HO_4.out⟩,⟨nN HO_10.out⟩,⟨nN HO_649002.out⟩,⟨nN HO_665002.out⟩,⟨nB BK648.out⟩,⟨nB BK664.out⟩,⟨bB⟩⟩
           ·replace c43:=Bool.eq_false_iff.mpr c43
            subst c43
            have H1:(if 0 ≤ x14_4 then (if 0 ≤ x12_2 then (if x12_2 < (t649.length:Int) then (laws_FnClockSteps.l1 k4 t649 t663 t665 x12_2 (((rd_T44 t665 x14_4).f0) == ((rd_T44 t649 x12_2).f0)) (wrap64 (x14_4 + 1))) else (none)) else (none)) else (none)) = some r:=by rw [if_neg (show ¬ (false = true) by decide)] at H;exact H
            clear H
            have H:=H1
            clear H1
            by_cases c45:0 ≤ x14_4;rotate_left
            ·rw [if_neg c45] at H
             exact absurd H (by simp)
            rw [if_pos c45] at H
            have c45b0:decide (0 ≤ x14_4) = true:=decide_eq_true c45
            clear c45
            by_cases c46:0 ≤ x12_2;rotate_left
            ·rw [if_neg c46] at H
             exact absurd H (by simp)
            rw [if_pos c46] at H
            have c46b0:decide (0 ≤ x12_2) = true:=decide_eq_true c46
            clear c46
            by_cases c47:x12_2 < (t649.length:Int);rotate_left
            ·rw [if_neg c47] at H
             exact absurd H (by simp)
            rw [if_pos c47] at H
            have c47b0:decide (x12_2 < (t649.length:Int)) = true:=decide_eq_true c47
            clear c47
            have H':=aQ H
            clear H
            obtain ⟨Ao48,co48,eo48⟩:=Kd.N_slice HO_10.out
            subst eo48
            have p670:0 ≤ (x14_4:Int):=of_decide_eq_true (by first | (with_reducible assumption) | assumption)
            have q670:x14_4 < (t665.length:Int):=of_decide_eq_true (by first | (with_reducible assumption) | assumption)
            obtain ⟨ad670,A670_3,c670_3,e670,hx670_0,hx670_1,hx670_2,hx670_3,hl670_3,hi670_3⟩:=at_T44 (Kd.N_reads' HO_10.out).2.2 x14_4 p670 q670
            cases e670
            obtain ⟨ce670,hce670,hMe670,hcc670⟩:=Kd.N_get HO_10.out z44 x14_4 p670 (by first | exact q670 | exact of_decide_eq_true (by first | (with_reducible assumption) | assumption) | (have e_:=(Kd.N_reads' HO_10.out).1;omega))
            obtain ⟨ua670_3,uc670_3,rfl,ul670_3,ge670_3⟩:=k44_openF hMe670
            have hv670_3:=hcc670 3 _ rfl
            rw [add_field _ _ 3 (by omega)] at hv670_3
            replace hv670_3:=Option.some.inj (hv670_3.symm.trans hx670_3)
            injection hv670_3 with hva_ hvn_ hvc_
            rw [hva_] at ge670_3
            rw [hvc_] at ul670_3
            have HL670_3:=aQ (show Kd.V k29 29 _ w.heap.size _ _ ((rd_T44 t665 x14_4).f1.f2) from Kd.V_mk ul670_3 ge670_3)
            clear hva_ hvn_ hvc_ ge670_3 ul670_3
            clear hcc670 hce670
            have HR670_3:=aQ hi670_3
            have HC670_3:=aQ hl670_3
            clear hi670_3 hl670_3
            replace p670:=eq_true p670
            replace q670:=eq_true q670
            have p671:0 ≤ (x12_2:Int):=of_decide_eq_true (by first | (with_reducible assumption) | assumption)
            have q671:x12_2 < (t649.length:Int):=of_decide_eq_true (by first | (with_reducible assumption) | assumption)
            obtain ⟨ad671,A671_3,c671_3,e671,hx671_0,hx671_1,hx671_2,hx671_3,hl671_3,hi671_3⟩:=at_T44 (Kd.N_reads' HO_4.out).2.2 x12_2 p671 q671
            cases e671
            obtain ⟨ce671,hce671,hMe671,hcc671⟩:=Kd.N_get HO_4.out z44 x12_2 p671 (by first | exact q671 | exact of_decide_eq_true (by first | (with_reducible assumption) | assumption) | (have e_:=(Kd.N_reads' HO_4.out).1;omega))
            obtain ⟨ua671_3,uc671_3,rfl,ul671_3,ge671_3⟩:=k44_openF hMe671
            have hv671_3:=hcc671 3 _ rfl
            rw [add_field _ _ 3 (by omega)] at hv671_3
            replace hv671_3:=Option.some.inj (hv671_3.symm.trans hx671_3)
            injection hv671_3 with hva_ hvn_ hvc_
            rw [hva_] at ge671_3
            rw [hvc_] at ul671_3
            have HL671_3:=aQ (show Kd.V k29 29 _ w.heap.size _ _ ((rd_T44 t649 x12_2).f1.f2) from Kd.V_mk ul671_3 ge671_3)
            clear hva_ hvn_ hvc_ ge671_3 ul671_3
            clear hcc671 hce671
            have HR671_3:=aQ hi671_3
            have HC671_3:=aQ hl671_3
            clear hi671_3 hl671_3
            replace p671:=eq_true p671
            replace q671:=eq_true q671
            go_wp2
            repeat (go_quiet (fail);try go_wp2)
            go_roundg k4
            case measure=>have:=HJ5.out;have:=HK2.out;have:=HJ36.out;have:=HK4.out;omega
            case rel=>exact ⟨((((rd_T44 t665 x14_4).f0) == ((rd_T44 t649 x12_2).f0))),(wrap64 (x14_4 + 1)),rfl,rfl,H',⟨by have:=HJ5.out;have:=HK2.out;have:=HJ36.out;have:=HK4.out;omega⟩,⟨nN HO_4.out⟩,⟨nN HO_10.out⟩,⟨nN HO_649002.out⟩,⟨nN HO_665002.out⟩,⟨nB BK648.out⟩,⟨nB BK664.out⟩,⟨bB⟩⟩
def laws_FnClockSteps.Pure:Prop:=∀ (l0:List Int),l0.length ≤ maxLen → l0.length * 1 ≤ 140737488351232 → (∀ x ∈ l0,(Lit.int .u8 x).wf = true) → ∃ k,laws_FnClockSteps.f k l0 = some true
theorem laws_FnClockSteps.walk (P:laws_FnClockSteps.Pure) (a0:Option Addr) (len0 cap0:Nat) (z0:List Int) (w:World) (w0:(a0 = none∧len0 = 0∧cap0 = 0∧z0 = []) ∨ ∃ x,a0 = some x∧len0 ≤ cap0∧cap0 ≤ maxLen∧z0.length = cap0∧(∀ i,i < z0.length → w.cell? (x.add i) = some (.int .u8 (z0.getD i 0)))∧∀ n ∈ z0,(Lit.int .u8 n).wf = true) (y0:len0 * 1 ≤ 140737488351232) :
  Calls Try.prog 6 #[.slice a0 len0 cap0] w fun e w'=>e = .returned (.bool true)∧Below w.heap.size w w':=by
 obtain ⟨l0,rfl,hr0,hm0,hw0,hc0⟩:=ReadsInt.ofRowC w0
 obtain ⟨k,h⟩:=P l0 hm0 y0 hw0
 refine (laws_FnClockSteps.calls k _ _ l0 true w (Kd.C_of_reads (d:=(0:Int)) (h1:=fun _=>rfl) hr0) hc0 h).mono ?_
 rintro e w' ⟨rfl,hd⟩
 exact ⟨rfl,hd⟩
end Go.Proofs.Ytnkgcjdlfenepaa.P
